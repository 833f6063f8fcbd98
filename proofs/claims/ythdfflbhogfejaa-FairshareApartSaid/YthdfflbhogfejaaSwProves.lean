/- The walk of FairshareProves. -/
import Derived.Test.YthdfflbhogfejaaOpenT
import Derived.Test.YthdfflbhogfejaaFhI
namespace Go.Proofs.Ythdfflbhogfejaa
open Go.RowKit

/-- what Rates hands back, in one word -/
structure Rs (w : World) (B : Nat) (caps : List Int) (l : List Fl) (A : Option Addr) (vs : List Fx) : Prop where
  q : Qr w B A vs
  lv : vs.length = l.length
  rp : ∀ i (h : i < vs.length), Rp vs[i] ((ratesM (cpF caps) l caps.length).getD i 0)
  vq : ∀ i (h : i < vs.length), Vq vs[i] ((ratesM (cpF caps) l caps.length).getD i 0)
set_option maxRecDepth 100000 in
theorem Rs.below {w w' : World} {B : Nat} {caps : List Int} {l : List Fl} {A : Option Addr} {vs : List Fx} (h : Rs w B caps l A vs) (hb : Below w.heap.size w w') : Rs w' B caps l A vs := ⟨h.q.below hb, h.lv, h.rp, h.vq⟩
set_option maxRecDepth 100000 in
theorem Rs.vv {w : World} {B : Nat} {caps : List Int} {l : List Fl} {A : Option Addr} {vs : List Fx} (h : Rs w B caps l A vs) : ∀ v ∈ vs, v.v := fun v hv => by
  obtain ⟨i, hi, rfl⟩ := List.getElem_of_mem hv
  exact (h.vq i hi).v
set_option maxRecDepth 100000 in
theorem Rs.ok {w : World} {B : Nat} {caps : List Int} {l : List Fl} {A : Option Addr} {vs : List Fx} (h : Rs w B caps l A vs) : OkF w vs := fun v hv => by
  refine ⟨h.q.ok v hv, ?_⟩
  obtain ⟨i, hi, rfl⟩ := List.getElem_of_mem hv
  exact ⟨(h.vq i hi).l, (h.vq i hi).m⟩
set_option maxRecDepth 100000 in
theorem Rs.map {w : World} {B : Nat} {caps : List Int} {l : List Fl} {A : Option Addr} {vs : List Fx} (h : Rs w B caps l A vs) (hv : validFl caps l) : vs.map Fx.q = ratesM (cpF caps) l caps.length := rates_map (by rw [h.lv, ratesM_len hv.okR]) h.vq
set_option maxRecDepth 100000 in
theorem rates_any (w : World) (A : Option Addr) (n c : Nat) (caps : List Int) (D : Option Addr) (m d : Nat) (fs : List Fm) (hA : Is w A c caps) (hD : Ws w D d fs) (hn : n = caps.length) (hm : m = fs.length) (hv : validFl caps (fs.map Fm.fl)) (h14 : fs.length ≤ 14) :
    Calls Try.prog 19 #[.slice A n c, .slice D m d] w fun e w' => ∃ (A' : Option Addr) (vs : List Fx), e = .returned (.tuple #[.slice A' fs.length fs.length, .int .i64 0]) ∧ Rs w' w.heap.size caps (fs.map Fm.fl) A' vs ∧ vs.length = fs.length ∧ Below w.heap.size w w' := by
  refine (frates_ok w A n c caps D m d fs hA hD hn hm hv h14).mono ?_
  rintro e w' ⟨A', vs, rfl, hq, hl, hi, bb⟩
  exact ⟨A', vs, by rw [hl], ⟨hq, by rw [hl, List.length_map], fun i h => (hi i h).1, fun i h => (hi i h).2⟩, hl, bb⟩
set_option maxRecDepth 100000 in
theorem bot_any (w : World) (A : Option Addr) (n c : Nat) (caps : List Int) (D : Option Addr) (m d : Nat) (fs : List Fm) (hA : Is w A c caps) (hD : Ws w D d fs) (hn : n = caps.length) (hm : m = fs.length) (hv : validFl caps (fs.map Fm.fl)) (h14 : fs.length ≤ 14) :
    Calls Try.prog 20 #[.slice A n c, .slice D m d] w fun e w' => ∃ (A' : Option Addr) (c' : Nat) (bs : List Int), e = .returned (.tuple #[.slice A' fs.length c', .int .i64 0]) ∧ bs = botM (cpF caps) (fs.map Fm.fl) (ratesM (cpF caps) (fs.map Fm.fl) caps.length) ∧ bs.length = fs.length ∧ (∀ x ∈ bs, -1 ≤ x ∧ x ≤ 64) ∧ Gr iv 3 w' w.heap.size A' c' bs ∧ Below w.heap.size w w' := by
  refine (fbot_ok w A n c caps D m d fs hA hD hn hm hv h14).mono ?_
  rintro e w' ⟨A', c', rfl, hG, bb⟩
  have hl : (botM (cpF caps) (fs.map Fm.fl) (ratesM (cpF caps) (fs.map Fm.fl) caps.length)).length = fs.length := by rw [botM_len, List.length_map]
  refine ⟨A', c', _, by rw [hl], rfl, hl, fun x hx => ?_, hG, bb⟩
  obtain ⟨i, hi, rfl⟩ := List.mem_map.1 hx
  have hi' : i < (fs.map Fm.fl).length := by simpa using hi
  rw [botA]
  split
  · omega
  · cases hf : (lkA (fs.map Fm.fl) i).find? (fun e => decide (limP (cpF caps) (fs.map Fm.fl) (ratesM (cpF caps) (fs.map Fm.fl) caps.length) e i)) with
    | none => simp
    | some e =>
      have h1 := hv.okR.lk i hi' e (List.mem_of_find?_eq_some hf)
      have h2 := hv.1
      simp only [Option.getD_some]
      omega
set_option maxRecDepth 100000 in
theorem Fr.addr {w : World} {B c : Nat} {A : Option Addr} {vs : List Fx} (h : Fr w B A c vs) (h0 : 0 < vs.length) : ∃ g, A = some ⟨g, 0, none⟩ := by
  rcases h.2 with ⟨_, hn⟩ | ⟨g, cap, cur, hv, _⟩
  · omega
  · simp only [Value.slice.injEq] at hv
    exact ⟨g, hv.1⟩
set_option maxRecDepth 100000 in
theorem Fr.cells {w : World} {B c g : Nat} {vs : List Fx} (h : Fr w B (some ⟨g, 0, none⟩) c vs) (k : Nat) (hk : k < vs.length) : w.cell? ⟨g, k * 3, none⟩ = some (.bool vs[k].b) ∧ w.cell? ⟨g, k * 3 + 1, none⟩ = some (.slice vs[k].A vs[k].xs.length vs[k].c) ∧ w.cell? ⟨g, k * 3 + 2, none⟩ = some (.slice vs[k].D vs[k].ys.length vs[k].d) := by
  obtain ⟨h0, h1, h2⟩ := fcells_get vs k hk
  have hc := fun j hj => World.ownsRow.cellAt h j hj
  exact ⟨(hc (k * 3) (by omega)).trans h0, (hc (k * 3 + 1) (by omega)).trans h1, (hc (k * 3 + 2) (by omega)).trans h2⟩
set_option maxRecDepth 100000 in
theorem NoI.ni {w : World} {g : Nat} (h : NoI w (some ⟨g, 0, none⟩)) : NI w g := by
  obtain ⟨cur, t, e, hn⟩ := h g rfl
  exact ⟨cur, t, _, e, hn⟩
set_option maxRecDepth 100000 in
set_option maxHeartbeats 4000000 in
theorem proves_walk (w : World) (A : Option Addr) (c : Nat) (cs : List Int) (D : Option Addr) (d : Nat) (xs : List Int) (wh nu de : Int) (hA : Is w A c cs) (hB : Is w D d xs) (h1 : (Lit.int .i64 wh).wf = true) (h2 : (Lit.int .i64 nu).wf = true) (h3 : (Lit.int .i64 de).wf = true) :
    Calls Try.prog 8 #[.slice A cs.length c, .slice D xs.length d, .int .i64 wh, .int .i64 nu, .int .i64 de] w fun e w' => e = .returned (.bool true) ∧ Below w.heap.size w w' := by
  have H1 := Lib.hid (wf_i64 h1)
  have H2 := Lib.hid (wf_i64 h2)
  have H3 := Lib.hid (wf_i64 h3)
  clear h1 h2 h3
  have HA := Lib.hid hA; clear hA
  have HB := Lib.hid hB; clear hB
  have bw := Below.refl w.heap.size w
  go_enter Try.func8, Try.ntmps8
  go_wp2_with fail
  refine (caps_any w A _ c cs HA.out rfl).mono ?_
  rintro e wn ⟨A', c', rfl, hI, bb⟩
  have HI := Lib.hid hI
  replace bw := below_on bw bb bw.size
  clear bb hI
  go_wp2_with fail
  refine (flowsL_walk wn D _ d xs (capsM cs).length (HB.out.below bw) rfl (by have := (capsM_len cs).2; omega)).mono ?_
  rintro e wt ⟨D', d', fs, rfl, hfm, hT, bb⟩
  have HFM := Lib.hid hfm
  have HT := Lib.hid hT
  have HI := Lib.hid (HI.out.below bb)
  replace bw := below_on bw bb bw.size
  have h7 : fs.length ≤ 7 := by
    have h1 := congrArg List.length hfm
    rw [List.length_map] at h1
    have h2 := flowsM_len xs (capsM cs).length
    omega
  have hc5 := (capsM_len cs).2
  have HV := Lib.hid (flowsM_valid cs xs)
  rw [← hfm] at HV
  clear bb hT hfm
  obtain ⟨caps, hcaps⟩ : ∃ caps, capsM cs = caps := ⟨_, rfl⟩
  have HCAPS := Lib.hid hcaps
  rw [hcaps] at HI HV HFM hc5 ⊢
  clear hcaps
  go_wp2_with fail
  refine (rates_any wt A' _ c' caps D' _ d' fs HI.out HT.out rfl rfl HV.out (by omega)).mono ?_
  rintro e w2 ⟨AR, vs, rfl, hrs, hvl, bb⟩
  have HI2 := Lib.hid (HI.out.below bb)
  have HT2 := Lib.hid (HT.out.below bb)
  have HRS := Lib.hid hrs
  have HVL := Lib.hid hvl
  replace bw := below_on bw bb bw.size
  clear bb hrs HI HT hvl
  go_wp2_with fail
  refine (bot_any w2 A' _ c' caps D' _ d' fs HI2.out HT2.out rfl rfl HV.out (by omega)).mono ?_
  rintro e w3 ⟨AB, cB, bs, rfl, hbs, hbl, hbb, hG, bb⟩
  have HI := Lib.hid (HI2.out.below bb)
  have HT := Lib.hid (HT2.out.below bb)
  have HRS3 := Lib.hid (HRS.out.below bb)
  have HG := Lib.hid hG
  have HBS := Lib.hid hbs
  have HBL := Lib.hid hbl
  have HBI := Lib.hid (hG.is (fun x hx => by have := hbb x hx; omega))
  have HBB := Lib.hid hbb
  replace bw := below_on bw bb bw.size
  clear bb hbs hbl hbb hG HI2 HT2 HRS
  go_wp2_with fail
  refine (check_any w3 A' _ c' caps D' _ d' fs AR _ _ vs AB _ cB bs true HI.out HT.out HRS3.out.q.fr.rd HRS3.out.ok HBI.out rfl rfl HVL.out.symm HBL.out.symm (by rw [HVL.out]; omega) ⟨fun _ => rfl, fun _ => ?_⟩).mono ?_
  · rw [HBS.out]
    exact rates_chk HV.out (by rw [List.length_map]; omega) HRS3.out.vv (HRS3.out.map HV.out)
  rintro e w4 ⟨rfl, bb⟩
  have HI4 := Lib.hid (HI.out.below bb)
  have HT4 := Lib.hid (HT.out.below bb)
  have HRS4 := Lib.hid (HRS3.out.below bb)
  have HG4 := Lib.hid (HG.out.below bb)
  replace bw := below_on bw bb bw.size
  clear bb HI HT HRS3 HG HBI
  have t1 : ((fs.length : Int) != (fs.length : Int)) = false := by simp
  by_cases h0 : fs.length = 0
  · have t2 : ((fs.length : Int) == 0) = true := by simp [h0]
    clear h0
    go_upto_region 8 with fail
    go_wp2_with fail
    refine (awakes_any _).mono ?_
    rintro e wn ⟨rfl, bb⟩
    replace bw := below_on bw bb bw.size
    go_wp2_with fail
    go_ret
    exact ⟨rfl, bw⟩
  · have t2 : ((fs.length : Int) == 0) = false := beq_eq_false_iff_ne.2 (by omega)
    have HN0 : Hid (0 < fs.length) := Lib.hid (by omega)
    clear h0
    go_wp2_with fail
    refine (within_any w4 wh (fs.length : Int) H1.out (by omega)).mono ?_
    rintro e w5 ⟨rfl, rfl⟩
    have hkb := withinM_bd wh (n := (fs.length : Int)) (by have := HN0.out; omega)
    obtain ⟨k, hk⟩ : ∃ k : Nat, withinM wh (fs.length : Int) = (k : Int) := ⟨(withinM wh (fs.length : Int)).toNat, by omega⟩
    rw [hk] at hkb ⊢
    have hkl : k < fs.length := by omega
    clear hk hkb
    go_wp2_with fail
    refine (within_any w4 nu 40 H2.out (by omega)).mono ?_
    rintro e w5 ⟨rfl, rfl⟩
    have hn := withinM_bd nu (n := 40) (by omega)
    obtain ⟨n0, hn0⟩ : ∃ n0, withinM nu 40 = n0 := ⟨_, rfl⟩
    rw [hn0] at hn ⊢
    clear hn0
    go_wp2_with fail
    refine (within_any w4 de 6 H3.out (by omega)).mono ?_
    rintro e w5 ⟨rfl, rfl⟩
    have hd := withinM_bd de (n := 6) (by omega)
    obtain ⟨d0, hd0⟩ : ∃ d0, withinM de 6 = d0 := ⟨_, rfl⟩
    rw [hd0] at hd ⊢
    clear hd0
    obtain ⟨q, hq⟩ : ∃ q, Rat.divInt n0 (1 + d0) = q := ⟨_, rfl⟩
    have hsz : Sz q 128 128 := by
      rw [← hq, ← qv_divInt (by omega)]
      exact (Sz.of_qv (n := 2) (d := 2) (by omega) (lim_len2 (by omega)) (lim_len2 (by omega))).mono (by omega) (by omega)
    have hmk : makeF n0 (1 + d0) = okS q := by rw [makeF, if_neg (by omega), hq]; exact frS_ok hsz
    have HMK := Lib.hid hmk
    have HSZ := Lib.hid hsz
    have hw1 : wrap64 (1 + d0) = 1 + d0 := by unfold wrap64; omega
    clear hq hsz hmk
    go_wp2_with fail
    refine (rfmake_any w4 n0 (1 + d0) _ (by omega) (by omega) (by omega) (by omega) HMK.out).mono ?_
    rintro e w5 ⟨x1, rfl, hs1, ok1, bb⟩
    have HR1 := Lib.hid (Rp.of hs1)
    have HI5 := Lib.hid (HI4.out.below bb)
    have HT5 := Lib.hid (HT4.out.below bb)
    have HRS5 := Lib.hid (HRS4.out.below bb)
    have HG5 := Lib.hid (HG4.out.below bb)
    replace bw := below_on bw bb bw.size
    clear bb hs1 HI4 HT4 HRS4 HG4 hw1 hn hd HMK
    go_upto_region 11 with fail
    have a18 := (fa_alloc ok1).1
    have bb := (fa_alloc ok1).2
    have d18 := bw.size
    have HI := Lib.hid (HI5.out.below bb)
    have HT := Lib.hid (HT5.out.below bb)
    have HRS := Lib.hid (HRS5.out.below bb)
    have HG := Lib.hid (HG5.out.below bb)
    clear ok1 HI5 HT5 HG5
    generalize (w5.alloc (.cells #[.bool x1.b, .slice x1.A x1.xs.length x1.c, .slice x1.D x1.ys.length x1.d] 41)) = wm at a18 bb HI HT HRS HG ⊢
    have HBW := Lib.hid (below_on bw bb bw.size)
    obtain ⟨gR, rfl⟩ := HRS.out.q.addr (by rw [HVL.out]; exact HN0.out)
    have dR : gR < w5.heap.size := HRS5.out.q.lt.2
    clear HRS5 bb bw
    generalize w5.heap.size = g18 at a18 d18 dR ⊢
    have HA18 := Lib.hid a18
    have hkv : k < vs.length := by rw [HVL.out]; exact hkl
    have hcx := HRS.out.q.cells k hkv
    have hrx := HRS.out.rp k hkv
    have hox := HRS.out.q.ok _ (List.getElem_mem hkv)
    obtain ⟨x2, hx2⟩ : ∃ x2, vs[k] = x2 := ⟨_, rfl⟩
    rw [hx2] at hcx hrx hox
    have HX2 := Lib.hid hox
    have HR2 := Lib.hid hrx
    have HCX : Hid (∀ w', Below wm.heap.size wm w' → w'.cell? ⟨gR, k * 3, none⟩ = some (.bool x2.b) ∧ w'.cell? ⟨gR, k * 3 + 1, none⟩ = some (.slice x2.A x2.xs.length x2.c) ∧ w'.cell? ⟨gR, k * 3 + 2, none⟩ = some (.slice x2.D x2.ys.length x2.d)) := Lib.hid (fun w' hb => by
      have hl : gR < wm.heap.size := HRS.out.q.lt.2
      exact ⟨(hb.cell (p := ⟨gR, k * 3, none⟩) hl).trans hcx.1, (hb.cell (p := ⟨gR, k * 3 + 1, none⟩) hl).trans hcx.2.1, (hb.cell (p := ⟨gR, k * 3 + 2, none⟩) hl).trans hcx.2.2⟩)
    clear hcx hrx hox hx2 a18
    obtain ⟨sb, hsb⟩ : ∃ sb, decide (x1.b = x2.b ∧ x1.xs = x2.xs ∧ x1.ys = x2.ys) = sb := ⟨_, rfl⟩
    have HSB := Lib.hid hsb
    clear hsb
    go_cut [91] (fun s91 w2 => s91 = .bool sb ∧ Below wm.heap.size wm w2)
    case first =>
      --REG{
      refine wp_region_held_drew (S := fun w' => (w'.cell? ⟨gR, k * 3, none⟩ = some (.bool x2.b) ∧ w'.cell? ⟨gR, k * 3 + 1, none⟩ = some (.slice x2.A x2.xs.length x2.c) ∧ w'.cell? ⟨gR, k * 3 + 2, none⟩ = some (.slice x2.D x2.ys.length x2.d)) ∧ w'.cell? ⟨g18, 0, none⟩ = some (.bool x1.b) ∧ w'.cell? ⟨g18, 1, none⟩ = some (.slice x1.A x1.xs.length x1.c) ∧ w'.cell? ⟨g18, 2, none⟩ = some (.slice x1.D x1.ys.length x1.d)) (by kernel_rfl) ⟨HCX.out _ ((Below.refl wm.heap.size wm).drew), (HA18.out.below ((Below.refl wm.heap.size wm).drew)).c0, (HA18.out.below ((Below.refl wm.heap.size wm).drew)).c1, (HA18.out.below ((Below.refl wm.heap.size wm).drew)).c2⟩ (fun hHeld => ?_)
      have bz := (Below.refl wm.heap.size wm).drew
      generalize wm.drew = wd at *
      refine wpAnyH_take (i := 0) (v := x1.val) rfl (by kernel_rfl) (by kernel_rfl) (by kernel_rfl) (fun _ _ _ h => h) (Or.inl ⟨by rfl, ?_⟩) (by assumption) ?_
      · intro w hSw
        try dsimp only at hSw
        obtain ⟨_, s0, s1, s2⟩ := hSw
        go_simp
        try with_reducible rfl
      try simp only [Act.put, List.getElem_toArray, List.getElem_cons_zero, List.setIfInBounds_toArray, List.set_cons_zero, List.set_cons_succ]
      refine wpAnyH_take (i := 1) (v := .slice (some ⟨gR, 0, none⟩) fs.length fs.length) rfl (by kernel_rfl) (by kernel_rfl) (by kernel_rfl) (fun _ _ _ h => h) (Or.inl ⟨by rfl, ?_⟩) (by assumption) ?_
      · intro w hSw
        try dsimp only at hSw
        go_simp
        try with_reducible rfl
      try simp only [Act.put, List.getElem_toArray, List.getElem_cons_zero, List.getElem_cons_succ, List.setIfInBounds_toArray, List.set_cons_zero, List.set_cons_succ]
      refine wpAnyH_take (i := 2) (v := .int .i64 (k : Int)) rfl (by kernel_rfl) (by kernel_rfl) (by kernel_rfl) (fun _ _ _ h => h) (Or.inl ⟨by rfl, ?_⟩) (by assumption) ?_
      · intro w hSw
        try dsimp only at hSw
        go_simp
        try with_reducible rfl
      try simp only [Act.put, List.getElem_toArray, List.getElem_cons_zero, List.getElem_cons_succ, List.setIfInBounds_toArray, List.set_cons_zero, List.set_cons_succ]
      refine wpAnyH_take (i := 3) (v := .pointer (some ⟨gR, k * 3, none⟩)) rfl (by kernel_rfl) (by kernel_rfl) (by kernel_rfl) (fun _ _ _ h => h) (Or.inl ⟨by rfl, ?_⟩) (by assumption) ?_
      · intro w hSw
        try dsimp only at hSw
        go_simp
        try with_reducible rfl
      try simp only [Act.put, List.getElem_toArray, List.getElem_cons_zero, List.getElem_cons_succ, List.setIfInBounds_toArray, List.set_cons_zero, List.set_cons_succ]
      refine wpAnyH_take (i := 4) (v := x2.val) rfl (by kernel_rfl) (by kernel_rfl) (by kernel_rfl) (fun _ _ _ h => h) (Or.inl ⟨by rfl, ?_⟩) (by assumption) ?_
      · intro w hSw
        try dsimp only at hSw
        obtain ⟨⟨s0, s1, s2⟩, _⟩ := hSw
        go_simp
        try with_reducible rfl
      try simp only [Act.put, List.getElem_toArray, List.getElem_cons_zero, List.getElem_cons_succ, List.setIfInBounds_toArray, List.set_cons_zero, List.set_cons_succ]
      refine wpAnyH_ready (rs := [5]) (by kernel_rfl) (by simp) ?_
      refine AllReadyH.cons rfl (fun K hK => ?_) ?_
      · go_simp
        go_at_call 32
        refine (samefr_any wd x1 x2 sb (HA18.out.ok.below bz) (HX2.out.below bz) HSB.out).mono ?_
        rintro e wd ⟨rfl, bb⟩
        replace bz := below_on bz bb bz.size
        clear bb
        refine hK.out _ _ ⟨HCX.out _ bz, (HA18.out.below bz).c0, (HA18.out.below bz).c1, (HA18.out.below bz).c2⟩ (fun hHeld => ?_)
        clear hK K
        try simp only [Act.put]
        try simp only [List.setIfInBounds_toArray, List.set_cons_zero, List.set_cons_succ]
        refine wpAnyH_done (by kernel_rfl) ?_ _
        go_wp2_with fail
        go_meet
        case rel => exact ⟨rfl, bz⟩
      exact AllReadyH.nil
      --REG}
    case rest =>
      obtain ⟨rfl, bb⟩ := hcut
      have bw := below_on HBW.out bb HBW.out.size
      cases sb with
      | true =>
        clear bb
        go_wp2_with fail
        refine (awakes_any _).mono ?_
        rintro e wn ⟨rfl, bb⟩
        replace bw := below_on bw bb bw.size
        go_wp2_with fail
        go_ret
        exact ⟨rfl, bw⟩
      | false =>
        have HNE : Hid (¬ q = (ratesM (cpF caps) (fs.map Fm.fl) caps.length).getD k 0) := Lib.hid (fun e => by
          have h1 := HR1.out
          rw [e] at h1
          exact of_decide_eq_false HSB.out (h1.same HR2.out))
        have HIc := Lib.hid (HI.out.below bb)
        have HTc := Lib.hid (HT.out.below bb)
        have HRSc := Lib.hid (HRS.out.below bb)
        have HGc := Lib.hid (HG.out.below bb)
        have HAc := Lib.hid (HA18.out.below bb)
        have HBWc := Lib.hid bw
        have hw2 : g18 < wc.heap.size := HAc.out.lt
        clear HI HT HRS HG HA18 HCX HX2 HBW bb bw HSB
        go_upto_region 14 with (at_builtin; refine wpList_append_frac _ rfl _ _ rfl rfl (A := none) (c := 0) (n := 0) (xs := []) rfl rfl (fr_nil _ _) (NoI.nil _) _ fs.length fs.length vs rfl HVL.out.symm HRSc.out.q.fr.rd (by omega) (by omega) (Nat.le_refl _) ?_; intro A4 c4 wz fr4 ni4 bz4 gr4 hat4)
        rw [List.nil_append] at fr4
        obtain ⟨g20, rfl⟩ := fr4.addr (by rw [HVL.out]; exact HN0.out)
        have d20 := (fr4.lt g20 rfl).1
        obtain ⟨c0, c1, c2⟩ := fr4.cells k hkv
        have f0 := fr4.free (k * 3)
        have f1 := fr4.free (k * 3 + 1)
        have f2 := fr4.free (k * 3 + 2)
        have ha := HAc.out.below bz4
        have ci0 := ha.c0
        have ci1 := ha.c1
        have ci2 := ha.c2
        have n1 : ¬ g20 = g18 := by omega
        have n2 : ¬ g18 = g20 := by omega
        go_upto_region 15 with fail
        have hfr := fr4.put k x1
        have hok : OkF (((wz.setCell ⟨g20, k * 3, none⟩ (.bool x1.b)).setCell ⟨g20, k * 3 + 1, none⟩ (.slice x1.A x1.xs.length x1.c)).setCell ⟨g20, k * 3 + 2, none⟩ (.slice x1.D x1.ys.length x1.d)) (vs.set k x1) := fun v hv => by
          rcases List.mem_or_eq_of_mem_set hv with h1 | h1
          · have h2 := HRSc.out.ok v h1
            exact ⟨q3_ok (h2.1.below bz4) ni4.ni, h2.2⟩
          · rw [h1]; exact ⟨q3_ok ha.ok ni4.ni, HR1.out.l1 HSZ.out, HR1.out.l2 HSZ.out⟩
        have hbl := q3_below (i := k * 3) (j := k * 3 + 1) (k := k * 3 + 2) (v0 := .bool x1.b) (v1 := .slice x1.A x1.xs.length x1.c) (v2 := .slice x1.D x1.ys.length x1.d) bz4 d20
        clear fr4 ni4 bz4 gr4 hat4 c0 c1 c2 f0 f1 f2 ha ci0 ci1 ci2
        generalize (((wz.setCell ⟨g20, k * 3, none⟩ (.bool x1.b)).setCell ⟨g20, k * 3 + 1, none⟩ (.slice x1.A x1.xs.length x1.c)).setCell ⟨g20, k * 3 + 2, none⟩ (.slice x1.D x1.ys.length x1.d)) = ws at hfr hok hbl ⊢
        have HFR := Lib.hid hfr
        have HOKF := Lib.hid hok
        have HI := Lib.hid (HIc.out.below hbl)
        have HT := Lib.hid (HTc.out.below hbl)
        have HG := Lib.hid (HGc.out.below hbl)
        have HBW := Lib.hid (below_on HBWc.out hbl HBWc.out.size)
        have HLS : Hid ((vs.set k x1).length = fs.length) := Lib.hid (by rw [List.length_set]; exact HVL.out)
        clear hfr hok hbl HIc HTc HGc HBWc HRSc HAc
        go_wp2_with fail
        go_loopw [21] (fun tv wr => ∃ j : Nat, tv = .int .i64 ((j : Int) - 1) ∧ j ≤ caps.length + 1 ∧ Below ws.heap.size ws wr) (fun tv _ => caps.length + 1 - (intOf tv + 1).toNat)
        case atStart => exact ⟨0, rfl, by omega, Below.refl _ _⟩
        case round =>
          obtain ⟨j, rfl, hj, bz⟩ := hrel
          have bwr := below_on HBW.out bz HBW.out.size
          by_cases hjc : (j : Int) - 1 < (caps.length : Int)
          · obtain ⟨i1, hi, hi0, hi1, hi2⟩ := info_parts int_info
            have hjd : decide ((j : Int) - 1 < (caps.length : Int)) = true := decide_eq_true hjc
            go_upto_region 19 with (at_builtin; refine wpList_append_rd _ (mk := iv) (fun _ => rfl) rfl _ _ 22 rfl 3 i1 (iv 0) 8 Try.underlying22 hi hi0 hi1 hi2 rfl (B := wr.heap.size) (A := none) (c := 0) (n := 0) (xs := []) rfl rfl (Gr.nil _ _) AB fs.length cB bs rfl HBL.out.symm (HG.out.below bz).rd (by simp only [maxLen]; omega) (by omega) (Nat.le_refl _) ?_; intro AK cK wq hgq hgrq hbq hatq)
            rw [List.nil_append] at hgq
            obtain ⟨gK, rfl⟩ := hgq.some_ (by rw [HBL.out]; exact HN0.out)
            have dK := (hgq.form.2.2 _ rfl).1
            have e0 := hgq.cell k (by rw [HBL.out]; exact hkl)
            have e1 := hgq.free k
            go_upto_region 20 with fail
            have hgs := hgq.store k ((j : Int) - 1)
            have hbs := hbq.setCell (p := ⟨gK, k, none⟩) dK (iv ((j : Int) - 1))
            clear hgq hgrq hbq hatq e0 e1 hjd
            generalize (wq.setCell ⟨gK, k, none⟩ (.int .i64 ((j : Int) - 1))) = wx at hgs hbs ⊢
            have bzx := below_on bz hbs bz.size
            have hats : Is wx (some ⟨gK, 0, none⟩) cK (bs.set k ((j : Int) - 1)) := gr_is hgs (fun x hx => by
              rcases List.mem_or_eq_of_mem_set hx with h | h
              · have := HBB.out x h; omega
              · rw [h]; omega)
            have HATS := Lib.hid hats
            clear hats hgs
            go_wp2_with fail
            refine (check_any wx A' _ c' caps D' _ d' fs (some ⟨g20, 0, none⟩) _ c4 (vs.set k x1) (some ⟨gK, 0, none⟩) _ cK (bs.set k ((j : Int) - 1)) false (HI.out.below bzx) (HT.out.below bzx) (HFR.out.below bzx).rd (HOKF.out.below bzx) HATS.out rfl rfl HLS.out.symm (by rw [List.length_set]; exact HBL.out.symm) (by rw [HLS.out]; omega) ⟨fun h => ?_, fun h => by cases h⟩).mono ?_
            · exfalso
              have h1 := congrArg (fun l : List Rat => l.getD k 0) h.rates
              rw [map_q_getD _ (by rw [List.length_set]; exact hkv), List.getElem_set_self, HR1.out.q] at h1
              exact HNE.out h1
            rintro e wy ⟨rfl, bb⟩
            go_wp2_with fail
            go_roundw
            case rel => exact ⟨j + 1, by go_num, by omega, below_on bzx bb bzx.size⟩
            case measure => simp [intOf]; omega
          · have hjd : decide ((j : Int) - 1 < (caps.length : Int)) = false := decide_eq_false hjc
            have bw := bwr
            skip
            go_wp2_with fail
            refine (awakes_any _).mono ?_
            rintro e wn ⟨rfl, bb⟩
            replace bw := below_on bw bb bw.size
            go_wp2_with fail
            go_ret
            exact ⟨rfl, bw⟩
end Go.Proofs.Ythdfflbhogfejaa
