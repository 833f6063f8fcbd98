/- The walk of FairshareFull. -/
import Derived.Test.YthdfflbhogfejaaFuP
import Derived.Test.YthdfflbhogfejaaFsS
import Derived.Test.YthdfflbhogfejaaSwOneLink
namespace Go.Proofs.Ythdfflbhogfejaa
open Go.RowKit

/-- the two lists that the law keeps, and what is older -/
structure Fw2 (w0 w : World) (n gl gm : Nat) (ls mo : List Int) : Prop where
  l : Gr iv 3 w w0.heap.size (some ⟨gl, 0, none⟩) n ls
  m : Gr iv 3 w w0.heap.size (some ⟨gm, 0, none⟩) n mo
  ne : gl ≠ gm
  gl0 : w0.heap.size ≤ gl
  gm0 : w0.heap.size ≤ gm
  bw : Below w0.heap.size w0 w
set_option maxRecDepth 100000 in
theorem Fw2.below {w0 w w' : World} {n gl gm : Nat} {ls mo : List Int} (h : Fw2 w0 w n gl gm ls mo) (hb : Below w.heap.size w w') : Fw2 w0 w' n gl gm ls mo := ⟨h.l.below hb, h.m.below hb, h.ne, h.gl0, h.gm0, below_on h.bw hb h.bw.size⟩
set_option maxRecDepth 100000 in
theorem Fw2.drewN {w0 w : World} {n gl gm : Nat} {ls mo : List Int} (h : Fw2 w0 w n gl gm ls mo) (q : Nat) : Fw2 w0 (w.drewN q) n gl gm ls mo := h.below (below_drewN (Below.refl _ _) q)
set_option maxRecDepth 100000 in
theorem Fw2.putl {w0 w : World} {n gl gm : Nat} {ls mo : List Int} (h : Fw2 w0 w n gl gm ls mo) (e : Nat) (v : Int) : Fw2 w0 (w.setCell ⟨gl, e, none⟩ (.int .i64 v)).drew n gl gm (ls.set e v) mo :=
  (⟨h.l.store e v, h.m.far (p := ⟨gl, e, none⟩) (by intro ad e; injection e with e; subst e; exact fun e => h.ne e.symm) _, h.ne, h.gl0, h.gm0, h.bw.setCell (p := ⟨gl, e, none⟩) h.gl0 _⟩ : Fw2 w0 (w.setCell ⟨gl, e, none⟩ (.int .i64 v)) n gl gm (ls.set e v) mo).below (below_drew (Below.refl _ _))
set_option maxRecDepth 100000 in
theorem Fw2.putm {w0 w : World} {n gl gm : Nat} {ls mo : List Int} (h : Fw2 w0 w n gl gm ls mo) (e : Nat) (v : Int) : Fw2 w0 (w.setCell ⟨gm, e, none⟩ (.int .i64 v)).drew n gl gm ls (mo.set e v) :=
  (⟨h.l.far (p := ⟨gm, e, none⟩) (by intro ad e; injection e with e; subst e; exact h.ne) _, h.m.store e v, h.ne, h.gl0, h.gm0, h.bw.setCell (p := ⟨gm, e, none⟩) h.gm0 _⟩ : Fw2 w0 (w.setCell ⟨gm, e, none⟩ (.int .i64 v)) n gl gm ls (mo.set e v)).below (below_drew (Below.refl _ _))
set_option maxRecDepth 100000 in
set_option maxHeartbeats 4000000 in
theorem full_walk (w : World) (A : Option Addr) (c : Nat) (cs : List Int) (D : Option Addr) (d : Nat) (xs : List Int) (hA : Is w A c cs) (hB : Is w D d xs) :
    Calls Try.prog 9 #[.slice A cs.length c, .slice D xs.length d] w fun e w' => e = .returned (.bool true) ∧ Below w.heap.size w w' := by
  have HA := Lib.hid hA; clear hA
  have HB := Lib.hid hB; clear hB
  have bw := Below.refl w.heap.size w
  go_enter Try.func9, Try.ntmps9
  go_wp2_with fail
  refine (caps_any w A _ c cs HA.out rfl).mono ?_
  rintro e wn ⟨A', c', rfl, hI, bb⟩
  have HI := Lib.hid hI
  replace bw := below_on bw bb bw.size
  clear bb hI
  go_wp2_with fail
  refine (flowsL_walk wn D _ d xs (capsM cs).length (HB.out.below bw) rfl (by have := (capsM_len cs).2; omega)).mono ?_
  rintro e wt ⟨D', d', fs, rfl, hfm, hT, bb⟩
  have HFM := Lib.hid hfm
  have HT := Lib.hid hT
  have HI := Lib.hid (HI.out.below bb)
  replace bw := below_on bw bb bw.size
  have h7 : fs.length ≤ 7 := by
    have h1 := congrArg List.length hfm
    rw [List.length_map] at h1
    have h2 := flowsM_len xs (capsM cs).length
    omega
  have hc5 := (capsM_len cs).2
  have HV := Lib.hid (flowsM_valid cs xs)
  rw [← hfm] at HV
  clear bb hT hfm
  obtain ⟨caps, hcaps⟩ : ∃ caps, capsM cs = caps := ⟨_, rfl⟩
  have HCAPS := Lib.hid hcaps
  rw [hcaps] at HI HV HFM hc5 ⊢
  clear hcaps
  go_wp2_with fail
  refine (units_any wt A' _ c' caps D' _ d' fs HI.out HT.out rfl rfl HV.out).mono ?_
  rintro e w0 ⟨AU, cU, us, rfl, hus, hul, hG, bb⟩
  replace HI := Lib.hid (HI.out.below bb)
  replace HT := Lib.hid (HT.out.below bb)
  have HG := Lib.hid hG
  have HUL := Lib.hid hul
  have HUS := Lib.hid hus
  replace bw := below_on bw bb bw.size
  obtain ⟨l, hl⟩ : ∃ l, fs.map Fm.fl = l := ⟨_, rfl⟩
  have hll : l.length = fs.length := by rw [← hl, List.length_map]
  rw [hl] at HV HUS
  have HL := Lib.hid hl
  have HLL := Lib.hid hll
  have hub : ∀ j, 0 ≤ us.getD j 0 ∧ us.getD j 0 ≤ 4096 := fun j => by
    rcases Nat.lt_or_ge j l.length with h | h
    · have h1 := unitsM_bd HV.out.ok j h
      have h2 := HV.out.lm j h
      rw [← HUS.out] at h1
      omega
    · rw [getD_ge _ _ _ (by omega)]; omega
  have HUB := Lib.hid hub
  have HLX : Hid (∀ i (hi : i < fs.length), fs[i].ls = lkA l i ∧ fs[i].m = lmA l i) := Lib.hid (fun i hi => by
    have h1 : i < l.length := by omega
    rw [lkA_get h1, lmA_get h1]
    constructor <;> simp only [← HL.out, List.getElem_map])
  have HLE : Hid (∀ i, i < l.length → ∀ e ∈ lkA l i, 0 ≤ e ∧ e < caps.length) := Lib.hid (fun i hi e he => HV.out.okR.lk i hi e he)
  have HCF : Hid (∀ t : Nat, ∀ h : t < caps.length, cpF caps (t : Int) = caps[t] ∧ 0 ≤ caps[t] ∧ caps[t] ≤ 4096) := Lib.hid (fun t h => ⟨by rw [cpF, Int.toNat_natCast, getD_lt _ _ _ h], HV.out.2.2.1 _ (List.getElem_mem h)⟩)
  have HCAP : Hid (∀ i, i < l.length → ∀ e ∈ lkA l i, ld l us e ≤ cpF caps e) := Lib.hid (fun i hi e he => by rw [HUS.out]; exact unitsM_cap HV.out.ok i hi e he)
  have HHELD : Hid (∀ i, i < l.length → us.getD i 0 = lmA l i ∨ ∃ e ∈ lkA l i, ld l us e = cpF caps e ∧ ∀ j', j' < l.length → e ∈ lkA l j' → us.getD j' 0 ≤ us.getD i 0 + 1) := Lib.hid (fun i hi => by rw [HUS.out]; exact unitsM_held HV.out.ok i hi)
  have HULM : Hid (∀ i, i < l.length → us.getD i 0 ≤ lmA l i) := Lib.hid (fun i hi => by rw [HUS.out]; exact (unitsM_bd HV.out.ok i hi).2)
  have HC5 := Lib.hid hc5
  have H7 := Lib.hid h7
  have t1 : ((fs.length : Int) != (fs.length : Int)) = false := by simp
  clear hl hll hub bb hG hul hus
  go_upto_region 6 with fail
  obtain ⟨i1, hi, hi0, hi1, hi2⟩ := info_parts int_info
  go_cut [9, 10] (fun s9 s10 w' => ∃ gl gm : Nat, s9 = .slice (some ⟨gl, 0, none⟩) caps.length caps.length ∧ s10 = .slice (some ⟨gm, 0, none⟩) caps.length caps.length ∧ Fw2 w0 w' caps.length gl gm (List.replicate caps.length 0) (List.replicate caps.length 0))
  case first =>
    have hmk1 := fun w => run_make_row' (P := Try.prog) 22 3 (.int .i64 0) 8 Try.underlying22 int_info rfl .i64 .i64 caps.length (by omega) (by omega) w
    go_region
    all_goals
      go_wp2_with fail
      go_meet
      case rel =>
        have g1 := gr_make (mk := iv) w0.drew 3 0 caps.length (by simp only [maxLen]; omega)
        have b1 := (below_drew (Below.refl w0.heap.size w0)).alloc (Nat.le_refl _) (.cells (madeCells #[iv 0] caps.length) 3)
        have z1 := size_alloc w0.drew (.cells (madeCells #[iv 0] caps.length) 3)
        have g2 := gr_make (mk := iv) (w0.drew.alloc (.cells (madeCells #[iv 0] caps.length) 3)) 3 0 caps.length (by simp only [maxLen]; omega)
        have b2 := (Below.refl (w0.drew.alloc (.cells (madeCells #[iv 0] caps.length) 3)).heap.size (w0.drew.alloc (.cells (madeCells #[iv 0] caps.length) 3))).alloc (Nat.le_refl _) (.cells (madeCells #[iv 0] caps.length) 3)
        have e0 : w0.drew.heap.size = w0.heap.size := rfl
        rw [z1, e0] at g2
        have ga : Gr iv 3 ((w0.drew.alloc (.cells (madeCells #[iv 0] caps.length) 3)).alloc (.cells (madeCells #[iv 0] caps.length) 3)) w0.heap.size (some ⟨w0.heap.size, 0, none⟩) caps.length (List.replicate caps.length 0) := g1.below b2
        have gb : Gr iv 3 ((w0.drew.alloc (.cells (madeCells #[iv 0] caps.length) 3)).alloc (.cells (madeCells #[iv 0] caps.length) 3)) w0.heap.size (some ⟨w0.heap.size + 1, 0, none⟩) caps.length (List.replicate caps.length 0) := g2.more (fun ad e => by injection e with e; subst e; show w0.heap.size ≤ w0.heap.size + 1; omega)
        first
        | exact ⟨w0.heap.size, w0.heap.size + 1, rfl, rfl, ga, gb, by omega, by omega, by omega, below_on b1 b2 b1.size⟩
        | exact ⟨w0.heap.size + 1, w0.heap.size, rfl, rfl, gb, ga, by omega, by omega, by omega, below_on b1 b2 b1.size⟩
  case rest =>
    obtain ⟨gl, gm, rfl, rfl, hF⟩ := hcut
    have HF := Lib.hid hF
    have HBW := Lib.hid bw
    clear hF bw h7 hc5
    go_wp2_with fail
    go_loopw [11] (fun iv' wz => ∃ (i : Nat) (mo : List Int), i ≤ fs.length ∧ iv' = .int .i64 (i : Int) ∧ MoI caps.length l us mo ∧ Fw2 w0 wz caps.length gl gm (ldL caps.length l us i 0) mo) (fun iv' _ => fs.length - (intOf iv').toNat)
    case atStart => exact ⟨0, _, by omega, rfl, MoI.zero _ _ _, by rw [ldL_zero]; exact HF.out⟩
    case round =>
      clear HF
      obtain ⟨i, mo, hi', rfl, hmo, hF⟩ := hrel
      have HF := Lib.hid hF
      have HMO := Lib.hid hmo
      have h7 := H7.out
      clear hF hmo
      by_cases hit : i < fs.length
      · have hiu : i < us.length := by have := HUL.out; omega
        have hil : i < l.length := by have := HLL.out; omega
        obtain ⟨gu, ha⟩ := HG.out.some_ (by omega)
        subst ha
        have hucap : fs.length ≤ cU := by have := HG.out.form.1; have := HUL.out; omega
        have HGU := Lib.hid (HG.out.below HF.out.bw)
        have uc := HGU.out.cell i hiu
        have hub := HUB.out i
        have hulm := HULM.out i hil
        rw [getD_lt _ _ _ hiu] at hub hulm
        obtain ⟨ad, rfl, _, hcc⟩ := (HT.out.below HF.out.bw).rd (by omega)
        obtain ⟨tc0, tc1⟩ := hcc i hit
        have hlx := HLX.out i hit
        have hok := (HT.out.ok _ (List.getElem_mem hit))
        obtain ⟨x, hx⟩ : ∃ x, fs[i] = x := ⟨_, rfl⟩
        obtain ⟨ui, hui⟩ : ∃ ui, us[i] = ui := ⟨_, rfl⟩
        have HUI : Hid (us.getD i 0 = ui) := Lib.hid (by rw [getD_lt _ _ _ hiu, hui])
        have HTC : Hid (∀ wz, Below w0.heap.size w0 wz → wz.cell? (ad.add (i * 2)) = some (.slice x.A x.ls.length x.c)) := Lib.hid (fun wz hb => by
          obtain ⟨ad', e', _, h'⟩ := (HT.out.below hb).rd (by omega)
          injection e' with e'
          subst e'
          have := (h' i hit).1
          rwa [hx] at this)
        rw [hx] at tc0 tc1 hlx hok
        rw [hui] at uc hub hulm
        have HX1 := Lib.hid hlx.1
        have HOKX := Lib.hid hok
        rw [← hlx.2] at hulm
        have q1 : decide (ui < 0) = false := decide_eq_false (by omega)
        have q2 : decide (x.m < ui) = false := decide_eq_false (by omega)
        have hdm := HT.out.cap
        have hdm2 := HT.out.max
        have HUIB := Lib.hid hub
        clear hcc hx hui hok hlx hub hulm
        go_upto_region 10 with fail
        go_quiet (fail)
        have hF2 := HF.out.drewN nq
        clear uc tc0 tc1 q1 q2 HF HGU
        have HF := Lib.hid hF2
        clear hF2
        go_wp2_with fail
        go_loopw [12] (fun kv wz => ∃ (k : Nat) (mo : List Int), k ≤ x.ls.length ∧ kv = .int .i64 (k : Int) ∧ MoI caps.length l us mo ∧ Fw2 w0 wz caps.length gl gm (ldL caps.length l us i k) mo) (fun kv _ => x.ls.length - (intOf kv).toNat)
        case atStart => exact ⟨0, mo, by omega, rfl, HMO.out, HF.out⟩
        case round =>
          clear HF HMO
          obtain ⟨k, mo, hk, rfl, hmo, hF⟩ := hrel
          have HF := Lib.hid hF
          have HMO := Lib.hid hmo
          clear hF hmo
          have tc0 := HTC.out _ HF.out.bw
          by_cases hkx : k < x.ls.length
          · have hokx := HOKX.out.below HF.out.bw
            obtain ⟨ae, hae, _, ce⟩ := hokx.is.at k hkx
            have hkl : k < (lkA l i).length := by rw [← HX1.out]; exact hkx
            have hel := HLE.out i hil x.ls[k] (by rw [← HX1.out]; exact List.getElem_mem hkx)
            obtain ⟨e, he⟩ : ∃ e : Nat, x.ls[k] = (e : Int) := ⟨x.ls[k].toNat, by omega⟩
            have hem : (e : Int) ∈ lkA l i := by rw [← he, ← HX1.out]; exact List.getElem_mem hkx
            have hek : (lkA l i)[k] = (e : Nat) := by rw [← he]; simp only [HX1.out]
            have hen : e < caps.length := by omega
            have hxc := hokx.is.cap
            have hxl := hokx.is.len
            rw [he] at ce
            rw [hae] at tc0
            have hlb := ldT_bd (l := l) (u := us) (i := i) (k := k) (e : Int) (fun j => (HUB.out j).1) (by have := HUL.out; have := HLL.out; omega) hil
            have hcap := HCAP.out i hil _ hem
            rw [(HCF.out e hen).1] at hcap
            have hc4 := (HCF.out e hen).2
            have dc := HF.out.l.cell e (by rw [ldL_len]; exact hen)
            rw [ldL_get hen] at dc
            have dfr := HF.out.l.free e
            have uc := (HG.out.below HF.out.bw).cell i hiu
            have hue : us[i] = ui := by rw [← HUI.out, getD_lt _ _ _ hiu]
            rw [hue] at uc
            obtain ⟨v0, hv0⟩ : ∃ v, ldT l us i k (e : Int) = v := ⟨_, rfl⟩
            rw [hv0] at dc hlb
            have hub := HUIB.out
            have b4 : IntKind.i64.wrap (v0 + ui) = v0 + ui := IntWalk.i64_in _ (by omega)
            have HLK : Hid ((ldL caps.length l us i k).set e (v0 + ui) = ldL caps.length l us i (k + 1)) := Lib.hid (ldL_link hkl hek hen _ (by rw [hv0, HUI.out]))
            have HEM := Lib.hid hem
            have hml := HMO.out.1
            obtain ⟨v1, hv1⟩ : ∃ v, mo[e]'(by rw [hml]; exact hen) = v := ⟨_, rfl⟩
            have HV1 := Lib.hid hv1
            have hne := HF.out.ne
            have hgu : gu < w0.heap.size := (HG.out.form.2.2 _ rfl).2
            have hg1 := HF.out.gl0
            have hg2 := HF.out.gm0
            have n1 : ¬ gl = gu := by omega
            have n2 : ¬ gu = gl := by omega
            have n3 : ¬ gm = gu := by omega
            have n4 : ¬ gu = gm := by omega
            have HHE := Lib.hid he
            clear hae hel he hem hek hlb hcap hc4 hv0 hue hv1
            go_upto_region 16 with fail
            go_region
            have hF2 := HF.out.putl e (v0 + ui)
            rw [HLK.out] at hF2
            clear HF tc0 ce dc dfr uc b4
            have HF := Lib.hid hF2
            clear hF2
            generalize (wr.setCell ⟨gl, e, none⟩ (.int .i64 (v0 + ui))).drew = wx at HF ⊢
            have uc := (HG.out.below HF.out.bw).cell i hiu
            have hue : us[i] = ui := by rw [← HUI.out, getD_lt _ _ _ hiu]
            rw [hue] at uc
            have mc := HF.out.m.cell e (by omega)
            rw [HV1.out] at mc
            have mfr := HF.out.m.free e
            clear hue
            by_cases hmx : v1 < ui
            · have hmx' : ¬ ui < v1 := by omega
              go_upto_region 17 with fail
              go_region
              have hF2 := HF.out.putm e ui
              have HMO2 := Lib.hid (HMO.out.put hil HEM.out)
              rw [HUI.out] at HMO2
              clear HF uc mc mfr
              go_wp2_with fail
              go_roundw
              case rel => exact ⟨k + 1, _, by omega, by go_num, HMO2.out, hF2⟩
              case measure => simp [intOf]; omega
            · go_upto_region 17 with fail
              go_region
              have hF2 := HF.out.putm e v1
              have hsame : mo.set e v1 = mo := by rw [← HV1.out, List.set_getElem_self]
              rw [hsame] at hF2
              clear HF uc mc mfr hsame
              go_wp2_with fail
              go_roundw
              case rel => exact ⟨k + 1, mo, by omega, by go_num, HMO.out, hF2⟩
              case measure => simp [intOf]; omega
          · obtain rfl : k = x.ls.length := by omega
            have HLN : Hid (ldL caps.length l us (i + 1) 0 = ldL caps.length l us i x.ls.length) := Lib.hid (by rw [ldL_next hil (by have := HUL.out; omega), ← HX1.out])
            go_wp2_with fail
            go_roundw
            case rel => exact ⟨i + 1, mo, by omega, by go_num, HMO.out, by rw [HLN.out]; exact HF.out⟩
            case measure => simp [intOf]; omega
      · have hie : i = l.length := by have := HLL.out; omega
        have hF2 := HF.out
        rw [hie] at hF2
        clear HF
        have HF := Lib.hid hF2
        clear hF2 hie
        go_wp2_with fail
        go_loopw [14] (fun iv' wz => ∃ i : Nat, i ≤ fs.length ∧ iv' = .int .i64 (i : Int) ∧ Fw2 w0 wz caps.length gl gm (ldL caps.length l us l.length 0) mo) (fun iv' _ => fs.length - (intOf iv').toNat)
        case atStart => exact ⟨0, by omega, rfl, HF.out⟩
        case round =>
          clear HF
          obtain ⟨i, hi', rfl, hF⟩ := hrel
          have HF := Lib.hid hF
          clear hF
          by_cases hit : i < fs.length
          · have hiu : i < us.length := by have := HUL.out; omega
            have hil : i < l.length := by have := HLL.out; omega
            obtain ⟨gu, ha⟩ := HG.out.some_ (by omega)
            subst ha
            have hucap : fs.length ≤ cU := by have := HG.out.form.1; have := HUL.out; omega
            have uc := (HG.out.below HF.out.bw).cell i hiu
            have hub := HUB.out i
            rw [getD_lt _ _ _ hiu] at hub
            obtain ⟨ad, rfl, _, hcc⟩ := (HT.out.below HF.out.bw).rd (by omega)
            obtain ⟨tc0, tc1⟩ := hcc i hit
            have hlx := HLX.out i hit
            have hok := (HT.out.ok _ (List.getElem_mem hit))
            obtain ⟨x, hx⟩ : ∃ x, fs[i] = x := ⟨_, rfl⟩
            obtain ⟨ui, hui⟩ : ∃ ui, us[i] = ui := ⟨_, rfl⟩
            have HUI : Hid (us.getD i 0 = ui) := Lib.hid (by rw [getD_lt _ _ _ hiu, hui])
            have HTC : Hid (∀ wz, Below w0.heap.size w0 wz → wz.cell? (ad.add (i * 2)) = some (.slice x.A x.ls.length x.c)) := Lib.hid (fun wz hb => by
              obtain ⟨ad', e', _, h'⟩ := (HT.out.below hb).rd (by omega)
              injection e' with e'
              subst e'
              have := (h' i hit).1
              rwa [hx] at this)
            rw [hx] at tc0 tc1 hlx hok
            rw [hui] at uc hub
            have HX1 := Lib.hid hlx.1
            have HX2 := Lib.hid hlx.2
            have HOKX := Lib.hid hok
            have hdm := HT.out.cap
            have hdm2 := HT.out.max
            have HUIB := Lib.hid hub
            clear hcc hx hui hok hlx hub
            go_upto_region 21 with fail
            go_quiet (fail)
            have hF2 := HF.out.drewN nq
            clear uc tc0 tc1 HF
            have HF := Lib.hid hF2
            clear hF2
            go_wp2_with fail
            go_loopw [15, 16] (fun hv kv wz => ∃ (k : Nat) (hb : Bool), k ≤ x.ls.length ∧ kv = .int .i64 (k : Int) ∧ hv = .bool hb ∧ (ui = x.m → hb = true) ∧ (∀ t : Nat, (t : Int) ∈ x.ls.take k → ld l us (t : Int) = cpF caps (t : Int) → mo.getD t 0 ≤ ui + 1 → hb = true) ∧ Fw2 w0 wz caps.length gl gm (ldL caps.length l us l.length 0) mo) (fun _ kv _ => x.ls.length - (intOf kv).toNat)
            case atStart => exact ⟨0, ui == x.m, by omega, rfl, rfl, fun h => by simp [h], fun t h => by simp at h, HF.out⟩
            case round =>
              clear HF
              obtain ⟨k, hb, hk, rfl, rfl, hb1, hb2, hF⟩ := hrel
              have HF := Lib.hid hF
              have HB1 := Lib.hid hb1
              have HB2 := Lib.hid hb2
              clear hF hb1 hb2
              have tc0 := HTC.out _ HF.out.bw
              by_cases hkx : k < x.ls.length
              · have hokx := HOKX.out.below HF.out.bw
                obtain ⟨ae, hae, _, ce⟩ := hokx.is.at k hkx
                have hel := HLE.out i hil x.ls[k] (by rw [← HX1.out]; exact List.getElem_mem hkx)
                obtain ⟨e, he⟩ : ∃ e : Nat, x.ls[k] = (e : Int) := ⟨x.ls[k].toNat, by omega⟩
                have hem : (e : Int) ∈ lkA l i := by rw [← he, ← HX1.out]; exact List.getElem_mem hkx
                have hen : e < caps.length := by omega
                have HTK : Hid (x.ls.take (k + 1) = x.ls.take k ++ [(e : Int)]) := Lib.hid (by rw [List.take_succ_eq_append_getElem hkx, he])
                have hxc := hokx.is.cap
                have hxl := hokx.is.len
                rw [he] at ce
                rw [hae] at tc0
                have hcap := HCAP.out i hil _ hem
                rw [(HCF.out e hen).1] at hcap
                have hc4 := (HCF.out e hen).2
                have HCE := Lib.hid (HCF.out e hen).1
                have dc := HF.out.l.cell e (by rw [ldL_len]; exact hen)
                rw [ldL_get hen, ldT_all] at dc
                have uc := (HG.out.below HF.out.bw).cell i hiu
                have hue : us[i] = ui := by rw [← HUI.out, getD_lt _ _ _ hiu]
                rw [hue] at uc
                have hml := HMO.out.1
                have mc := HF.out.m.cell e (by omega)
                have hmb := HMO.out.bd hen (b := 4096) (by omega) (fun j _ => HUB.out j)
                obtain ⟨v1, hv1⟩ : ∃ v, mo[e]'(by rw [hml]; exact hen) = v := ⟨_, rfl⟩
                have HV1 : Hid (mo.getD e 0 = v1) := Lib.hid (by rw [getD_lt _ _ _ (by omega), hv1])
                rw [hv1] at mc
                rw [HV1.out] at hmb
                obtain ⟨v0, hv0⟩ : ∃ v, ld l us (e : Int) = v := ⟨_, rfl⟩
                have HV0 := Lib.hid hv0
                rw [hv0] at dc hcap
                obtain ⟨ac, rfl, _, cc⟩ := (HI.out.below HF.out.bw).at e hen
                have hcapc := HI.out.cap
                have hc5 := HC5.out
                obtain ⟨v2, hv2⟩ : ∃ v, caps[e] = v := ⟨_, rfl⟩
                rw [hv2] at cc hcap hc4 HCE
                have hub := HUIB.out
                have b4 : IntKind.i64.wrap (ui + 1) = ui + 1 := IntWalk.i64_in _ (by omega)
                have q1 : decide (v2 < v0) = false := decide_eq_false (by omega)
                clear hae hel he hem hv0 hv1 hv2 hue hmb
                go_upto_region 26 with fail
                go_quiet (fail)
                have hF2 := HF.out.drewN nq
                have tc0 := HTC.out _ hF2.bw
                have dc := hF2.l.cell e (by rw [ldL_len]; exact hen)
                rw [ldL_get hen, ldT_all, HV0.out] at dc
                have uc := (HG.out.below hF2.bw).cell i hiu
                have hue : us[i] = ui := by rw [← HUI.out, getD_lt _ _ _ hiu]
                rw [hue] at uc
                have mc := hF2.m.cell e (by omega)
                have hme : mo[e]'(by omega) = v1 := by rw [← HV1.out, getD_lt _ _ _ (by omega)]
                rw [hme] at mc
                obtain ⟨ac', hac, _, cc⟩ := (HI.out.below hF2.bw).at e hen
                injection hac with hac
                subst hac
                have hce : caps[e] = v2 := by rw [← HCE.out, (HCF.out e hen).1]
                rw [hce] at cc
                clear HF hue hme hce ce q1
                have HF := Lib.hid hF2
                clear hF2
                generalize wr.drewN nq = wx at *
                cases hb with
                | true =>
                  go_upto_region 28 with fail
                  go_quiet (fail)
                  have hF3 := HF.out.drewN nq
                  clear tc0 dc uc mc cc
                  go_wp2_with fail
                  go_roundw
                  case rel => exact ⟨k + 1, true, by omega, by go_num, rfl, fun _ => rfl, fun _ _ _ _ => rfl, hF3⟩
                  case measure => simp [intOf]; omega
                | false =>
                  by_cases h1 : v0 = v2
                  · have h1b : (v0 == v2) = true := by simp [h1]
                    by_cases h2 : v1 ≤ ui + 1
                    · have h2b : decide (v1 ≤ ui + 1) = true := decide_eq_true h2
                      clear h1
                      go_upto_region 28 with fail
                      go_quiet (fail)
                      have hF3 := HF.out.drewN nq
                      clear tc0 dc uc mc cc
                      go_wp2_with fail
                      go_roundw
                      case rel => exact ⟨k + 1, true, by omega, by go_num, rfl, fun _ => rfl, fun _ _ _ _ => rfl, hF3⟩
                      case measure => simp [intOf]; omega
                    · have h2b : decide (v1 ≤ ui + 1) = false := decide_eq_false h2
                      have H2 : Hid (¬ v1 ≤ ui + 1) := h2
                      clear h1 h2
                      go_upto_region 28 with fail
                      go_quiet (fail)
                      have hF3 := HF.out.drewN nq
                      clear tc0 dc uc mc cc
                      go_wp2_with fail
                      go_roundw
                      case rel => exact ⟨k + 1, false, by omega, by go_num, rfl, HB1.out, (fun t ht e1 e2 => by
                        rw [HTK.out] at ht
                        rcases List.mem_append.1 ht with h | h
                        · exact HB2.out t h e1 e2
                        · have : t = e := by have := List.mem_singleton.1 h; omega
                          subst this
                          rw [HV1.out] at e2
                          exact absurd e2 H2.out), hF3⟩
                      case measure => simp [intOf]; omega
                  · have h1b : (v0 == v2) = false := beq_eq_false_iff_ne.2 h1
                    have H1 : Hid (¬ v0 = v2) := h1
                    clear h1
                    go_upto_region 28 with fail
                    go_quiet (fail)
                    have hF3 := HF.out.drewN nq
                    clear tc0 dc uc mc cc
                    go_wp2_with fail
                    go_roundw
                    case rel => exact ⟨k + 1, false, by omega, by go_num, rfl, HB1.out, (fun t ht e1 e2 => by
                      rw [HTK.out] at ht
                      rcases List.mem_append.1 ht with h | h
                      · exact HB2.out t h e1 e2
                      · have : t = e := by have := List.mem_singleton.1 h; omega
                        subst this
                        rw [HV0.out, HCE.out] at e1
                        exact absurd e1 H1.out), hF3⟩
                    case measure => simp [intOf]; omega
              · have HBT : Hid (hb = true) := Lib.hid (by
                  rcases HHELD.out i hil with h | ⟨e, he, h1, h2⟩
                  · exact HB1.out (by rw [← HUI.out, h, HX2.out])
                  · have hel := HLE.out i hil e he
                    obtain ⟨t, rfl⟩ : ∃ t : Nat, e = (t : Int) := ⟨e.toNat, by omega⟩
                    refine HB2.out t (by rw [List.take_of_length_le (by omega), HX1.out]; exact he) h1 ?_
                    exact HMO.out.le (by omega) (by have := HUIB.out; omega) (fun j hj hm => by rw [← HUI.out]; exact h2 j hj hm))
                rw [HBT.out]
                go_wp2_with fail
                go_roundw
                case rel => exact ⟨i + 1, by omega, by go_num, HF.out⟩
                case measure => simp [intOf]; omega
          · have bw := below_on HBW.out HF.out.bw HBW.out.size
            skip
            go_wp2_with fail
            refine (awakes_any _).mono ?_
            rintro e wn ⟨rfl, bb⟩
            replace bw := below_on bw bb bw.size
            go_wp2_with fail
            go_ret
            exact ⟨rfl, bw⟩
end Go.Proofs.Ythdfflbhogfejaa
