/- The walks of the reference's Full, Feasible and Binds. -/
import Derived.Test.YthdfflbhogfejaaFhL
namespace Go.Proofs.Ythdfflbhogfejaa
set_option maxRecDepth 100000
open Go.RowKit

theorem OkF.of {w : World} {vs : List Fx} (h : ∀ v ∈ vs, v.ok w) (k : ∀ v ∈ vs, v.xs.length ≤ 10000 ∧ v.ys.length ≤ 10000) : OkF w vs := fun v hv => ⟨h v hv, k v hv⟩
theorem cp_cell {w : World} {C : Option Addr} {cC : Nat} {caps : List Int} (h : Is w C cC caps) {k : Nat} (hk : k < caps.length) : ∃ ac, C = some ac ∧ (∀ w', Below w.heap.size w w' → w'.cell? (ac.add k) = some (.int .i64 (cpF caps k))) := by
  obtain ⟨ac, rfl, _, hcc⟩ := h.at k hk
  refine ⟨ac, rfl, fun w' hb => ?_⟩
  rw [(hb.cell (p := ac.add k) (World.block_lt_of_cell? w _ hcc)).trans hcc, cpF, Int.toNat_natCast, getD_lt _ _ _ hk]
theorem cp_wf {w : World} {C : Option Addr} {cC : Nat} {caps : List Int} (h : Is w C cC caps) {k : Nat} (hk : k < caps.length) : -9223372036854775808 ≤ cpF caps k ∧ cpF caps k ≤ 9223372036854775807 := by
  have := h.wf _ (List.getElem_mem hk)
  rw [cpF, Int.toNat_natCast, getD_lt _ _ _ hk]
  exact this
set_option maxHeartbeats 3200000 in
theorem rfull_any (w : World) (C : Option Addr) (nC cC : Nat) (caps : List Int) (D : Option Addr) (m d : Nat) (fs : List Fm) (A : Option Addr) (n c : Nat) (vs : List Fx) (link : Nat) (q : Rat) (b : Bool)
    (hC : Is w C cC caps) (hD : Ws w D d fs) (hA : RdF w A vs) (hok : OkF w vs) (hv : ∀ v ∈ vs, v.v) (hnC : nC = caps.length) (hm : m = fs.length) (hn : n = vs.length) (hl : vs.length = fs.length) (hle : fs.length ≤ 100) (hlk : link < caps.length) (hq : loadE (fs.map Fm.fl) (vs.map Fx.q) link fs.length = some q) (hb : decide ((cpF caps link : Rat) ≤ q) = b) :
    Calls Try.prog 49 #[.slice C nC cC, .slice D m d, .slice A n c, .int .i64 (link : Int)] w fun e w' => e = .returned (.bool b) ∧ Below w.heap.size w w' := by
  have HD := Lib.hid hD
  have HA := Lib.hid hA
  have HOK := Lib.hid hok
  have HV := Lib.hid hv
  have HVL := Lib.hid hl
  have HQ := Lib.hid hq
  have hlc := hC.len
  have hcap := hC.cap
  obtain ⟨ac, rfl, hcc⟩ := cp_cell hC hlk
  have HCB := Lib.hid (cp_wf hC hlk)
  have HU : Hid (decide (q < (cpF caps link : Rat)) = !b) := Lib.hid (by
    rw [← hb]
    by_cases h : q < (cpF caps link : Rat)
    · rw [decide_eq_true h, decide_eq_false (by grind)]; rfl
    · rw [decide_eq_false h, decide_eq_true (by grind)]; rfl)
  obtain ⟨cl, hcl⟩ : ∃ cl, cpF caps link = cl := ⟨_, rfl⟩
  rw [hcl] at hcc HCB HU
  have HCC := Lib.hid hcc
  clear hD hA hok hv hl hq hcl hcc hC hb
  subst hm hn hnC
  go_enter Try.func49, Try.ntmps49
  go_upto_region 1 with fail
  refine wp_region_held_drew (S := fun w' => w'.cell? (ac.add link) = some (.int .i64 cl)) (by kernel_rfl) (HCC.out _ ((Below.refl w.heap.size w).drew)) (fun hHeld => ?_)
  have bz := (Below.refl w.heap.size w).drew
  generalize w.drew = wd at *
  refine wpAnyH_take (i := 0) (v := .slice D fs.length d) rfl (by kernel_rfl) (by kernel_rfl) (by kernel_rfl) (fun _ _ _ h => h) (Or.inl ⟨by rfl, ?_⟩) (by assumption) ?_
  ·intro w hSw
   try dsimp only at hSw
   go_simp
   try with_reducible rfl
  try simp only [Act.put, tzA, tzB, tzC, tzD, tzE, tzF]
  refine wpAnyH_take (i := 1) (v := .slice A vs.length c) rfl (by kernel_rfl) (by kernel_rfl) (by kernel_rfl) (fun _ _ _ h => h) (Or.inl ⟨by rfl, ?_⟩) (by assumption) ?_
  ·intro w hSw
   try dsimp only at hSw
   go_simp
   try with_reducible rfl
  try simp only [Act.put, tzA, tzB, tzC, tzD, tzE, tzF]
  refine wpAnyH_take (i := 2) (v := .int .i64 (link : Int)) rfl (by kernel_rfl) (by kernel_rfl) (by kernel_rfl) (fun _ _ _ h => h) (Or.inl ⟨by rfl, ?_⟩) (by assumption) ?_
  ·intro w hSw
   try dsimp only at hSw
   go_simp
   try with_reducible rfl
  try simp only [Act.put, tzA, tzB, tzC, tzD, tzE, tzF]
  refine wpAnyH_take (i := 4) (v := .slice (some ac) caps.length cC) rfl (by kernel_rfl) (by kernel_rfl) (by kernel_rfl) (fun _ _ _ h => h) (Or.inl ⟨by rfl, ?_⟩) (by assumption) ?_
  ·intro w hSw
   try dsimp only at hSw
   go_simp
   try with_reducible rfl
  try simp only [Act.put, tzA, tzB, tzC, tzD, tzE, tzF]
  refine wpAnyH_take (i := 5) (v := .int .i64 (link : Int)) rfl (by kernel_rfl) (by kernel_rfl) (by kernel_rfl) (fun _ _ _ h => h) (Or.inl ⟨by rfl, ?_⟩) (by assumption) ?_
  ·intro w hSw
   try dsimp only at hSw
   go_simp
   try with_reducible rfl
  try simp only [Act.put, tzA, tzB, tzC, tzD, tzE, tzF]
  refine wpAnyH_take (i := 6) (v := .pointer (some (ac.add link))) rfl (by kernel_rfl) (by kernel_rfl) (by kernel_rfl) (fun _ _ _ h => h) (Or.inl ⟨by rfl, ?_⟩) (by assumption) ?_
  ·intro w hSw
   try dsimp only at hSw
   go_simp
   try with_reducible rfl
  try simp only [Act.put, tzA, tzB, tzC, tzD, tzE, tzF]
  refine wpAnyH_take (i := 7) (v := .int .i64 cl) rfl (by kernel_rfl) (by kernel_rfl) (by kernel_rfl) (fun _ _ _ h => h) (Or.inl ⟨by rfl, ?_⟩) (by assumption) ?_
  ·intro w hSw
   try dsimp only at hSw
   go_simp
   try with_reducible rfl
  try simp only [Act.put, tzA, tzB, tzC, tzD, tzE, tzF]
  refine wpAnyH_ready (rs := [3]) (by kernel_rfl) (by simp) ?_
  refine AllReadyH.cons rfl (fun K hK => ?_) ?_
  ·go_simp
   go_at_call 73
   refine (rload_any wd D _ d fs A _ c vs (link : Int) q (HD.out.below bz) (HA.out.below bz) (HOK.out.below bz) HV.out rfl rfl HVL.out hle HQ.out).mono ?_
   rintro e wd ⟨x1, rfl, n1, bb⟩
   try replace n1 := n1.below bb
   try replace n2 := n2.below bb
   replace bz := below_on bz bb bz.size
   clear bb
   refine hK.out _ _ (HCC.out _ bz) (fun hHeld => ?_)
   clear hK K
   try simp only [Act.put]
   try simp only [tzD, tzE, tzF]
   refine wpAnyH_ready (rs := [8]) (by kernel_rfl) (by simp) ?_
   refine AllReadyH.cons rfl (fun K hK => ?_) ?_
   ·go_simp
    go_at_call 34
    refine (rwhole_any wd cl (by have := HCB.out; omega) (by have := HCB.out; omega)).mono ?_
    rintro e wd ⟨y, rfl, _, n2, bb⟩
    try replace n1 := n1.below bb
    try replace n2 := n2.below bb
    replace bz := below_on bz bb bz.size
    clear bb
    refine hK.out _ _ (HCC.out _ bz) (fun hHeld => ?_)
    clear hK K
    try simp only [Act.put]
    try simp only [tzD, tzE, tzF]
    refine wpAnyH_ready (rs := [9]) (by kernel_rfl) (by simp) ?_
    refine AllReadyH.cons rfl (fun K hK => ?_) ?_
    ·go_simp
     go_at_call 33
     refine (rless_any wd x1 y q (cl : Rat) (!b) n1 n2 HU.out).mono ?_
     rintro e wd ⟨rfl, bb⟩
     clear n1 n2
     try replace n1 := n1.below bb
     try replace n2 := n2.below bb
     replace bz := below_on bz bb bz.size
     clear bb
     refine hK.out _ _ (HCC.out _ bz) (fun hHeld => ?_)
     clear hK K
     try simp only [Act.put]
     try simp only [tzD, tzE, tzF]
     refine wpAnyH_take (i := 10) (v := .bool b) rfl (by kernel_rfl) (by kernel_rfl) (by kernel_rfl) (fun _ _ _ h => h) (Or.inl ⟨by rfl, ?_⟩) (by assumption) ?_
     ·intro w hSw
      try dsimp only at hSw
      go_simp
      try simp
     try simp only [Act.put, tzA, tzB, tzC, tzD, tzE, tzF]
     refine wpAnyH_ready (rs := [11]) (by kernel_rfl) (by simp) ?_
     refine AllReadyH.cons rfl (fun K hK => ?_) ?_
     ·go_simp
      refine hK.out _ _ (HCC.out _ bz) (fun hHeld => ?_)
      clear hK K
      try simp only [Act.put]
      try simp only [tzD, tzE, tzF]
      refine wpAnyH_done (by kernel_rfl) ?_ _
      go_wp2_with fail
      go_ret
      exact ⟨ret_bool rfl, bz⟩
     exact AllReadyH.nil
    exact AllReadyH.nil
   exact AllReadyH.nil
  exact AllReadyH.nil
set_option maxHeartbeats 6400000 in
theorem rbinds_any (w : World) (C : Option Addr) (nC cC : Nat) (caps : List Int) (D : Option Addr) (m d : Nat) (fs : List Fm) (A : Option Addr) (n c : Nat) (vs : List Fx) (i : Nat) (link : Int) (b : Bool)
    (hC : Is w C cC caps) (hD : Ws w D d fs) (hA : RdF w A vs) (hok : OkF w vs) (hv : ∀ v ∈ vs, v.v) (hnC : nC = caps.length) (hm : m = fs.length) (hn : n = vs.length) (hl : vs.length = fs.length) (hle : fs.length ≤ 100) (hi : i < fs.length)
    (hlk : ∀ e ∈ lkA (fs.map Fm.fl) i, 0 ≤ e ∧ e < (caps.length : Int))
    (hld : ∀ k : Nat, k < caps.length → ∃ q, loadE (fs.map Fm.fl) (vs.map Fx.q) (k : Int) fs.length = some q)
    (hb : (link ∈ lkA (fs.map Fm.fl) i ∧ (∃ q, loadE (fs.map Fm.fl) (vs.map Fx.q) link fs.length = some q ∧ (cpF caps link : Rat) ≤ q) ∧ ∀ k, k < fs.length → link ∈ lkA (fs.map Fm.fl) k → (vs.map Fx.q).getD k 0 ≤ (vs.map Fx.q).getD i 0) ↔ b = true) :
    Calls Try.prog 50 #[.slice C nC cC, .slice D m d, .slice A n c, .int .i64 (i : Int), .int .i64 link] w fun e w' => e = .returned (.bool b) ∧ Below w.heap.size w w' := by
  have HC := Lib.hid hC
  have HD := Lib.hid hD
  have HA := Lib.hid hA
  have HOK := Lib.hid hok
  have HV := Lib.hid hv
  have HVL := Lib.hid hl
  have HLD := Lib.hid hld
  have HB := Lib.hid hb
  have HBF : Hid (¬ (link ∈ lkA (fs.map Fm.fl) i ∧ (∃ q, loadE (fs.map Fm.fl) (vs.map Fx.q) link fs.length = some q ∧ (cpF caps link : Rat) ≤ q) ∧ ∀ k, k < fs.length → link ∈ lkA (fs.map Fm.fl) k → (vs.map Fx.q).getD k 0 ≤ (vs.map Fx.q).getD i 0) → b = false) := Lib.hid (fun h => by cases b with
    | false => rfl
    | true => exact absurd (hb.2 rfl) h)
  obtain ⟨ad, rfl, _, hcc⟩ := hD.rd (by omega)
  obtain ⟨hc0, hc1⟩ := hcc i hi
  have hxo := hD.ok _ (List.getElem_mem hi)
  have hgl := (fl_get hi).1
  have hdcap := hD.cap
  have hdmax := hD.max
  obtain ⟨x, hx⟩ : ∃ x, fs[i] = x := ⟨_, rfl⟩
  rw [hx] at hc0 hc1 hxo hgl
  have HGL := Lib.hid hgl
  have HLK := Lib.hid hlk
  obtain ⟨u, hu⟩ : ∃ u, decide (link ∈ x.ls) = u := ⟨_, rfl⟩
  have HU := Lib.hid hu
  clear hC hD hA hok hv hl hb hlk hld hcc hx hgl hu
  subst hm hn hnC
  go_enter Try.func50, Try.ntmps50
  go_wp2_with fail
  refine (ruses_any w x link u hxo HU.out).mono ?_
  rintro e wr ⟨rfl, bw⟩
  clear hxo hc0 hc1
  cases u with
  | false =>
    have HBB : Hid (b = false) := Lib.hid (HBF.out (fun h => of_decide_eq_false HU.out (by rw [← HGL.out]; exact h.1)))
    go_wp2_with fail
    go_ret
    exact ⟨ret_bool HBB.out.symm, bw⟩
  | true =>
    have hmem : link ∈ lkA (fs.map Fm.fl) i := by rw [HGL.out]; exact of_decide_eq_true HU.out
    have HMEM := Lib.hid hmem
    have hbd := HLK.out link hmem
    obtain ⟨t, rfl⟩ : ∃ t : Nat, link = (t : Int) := ⟨link.toNat, by omega⟩
    have htc : t < caps.length := by omega
    obtain ⟨q, hq⟩ := HLD.out t htc
    have HQ := Lib.hid hq
    obtain ⟨u, hu⟩ : ∃ u, decide ((cpF caps (t : Int) : Rat) ≤ q) = u := ⟨_, rfl⟩
    have HQU := Lib.hid hu
    clear hmem hbd hq hu HU
    go_wp2_with fail
    refine (rfull_any wr C _ cC caps (some ad) _ d fs A _ c vs t q u (HC.out.below bw) (HD.out.below bw) (HA.out.below bw) (HOK.out.below bw) HV.out rfl rfl rfl HVL.out hle htc HQ.out HQU.out).mono ?_
    rintro e wn ⟨rfl, bb⟩
    replace bw := below_on bw bb bw.size
    clear bb
    cases u with
    | false =>
      have HBB : Hid (b = false) := Lib.hid (HBF.out (fun h => by
        obtain ⟨p, h1, h2⟩ := h.2.1
        rw [HQ.out] at h1
        cases h1
        exact of_decide_eq_false HQU.out h2))
      go_wp2_with fail
      go_ret
      exact ⟨ret_bool HBB.out.symm, bw⟩
    | true =>
      go_wp2_with fail
      go_loopw [11] (fun jv wr => ∃ k : Nat, k ≤ fs.length ∧ jv = .int .i64 k ∧ (∀ s, s < k → (t : Int) ∈ lkA (fs.map Fm.fl) s → (vs.map Fx.q).getD s 0 ≤ (vs.map Fx.q).getD i 0) ∧ Below w.heap.size w wr) (fun jv _ => fs.length - (intOf jv).toNat)
      case atStart => exact ⟨0, by omega, rfl, fun s h => by omega, bw⟩
      case round =>
        clear bw
        obtain ⟨k, hk, rfl, hle2, bw⟩ := hrel
        have HLE := Lib.hid hle2
        clear hle2
        by_cases hlt : k < fs.length
        · have hW := HD.out.below bw
          obtain ⟨_, had, _, hcc⟩ := hW.rd (by omega)
          injection had with had
          subst had
          obtain ⟨hc0, hc1⟩ := hcc k hlt
          have hok := hW.ok _ (List.getElem_mem hlt)
          have hgl := (fl_get hlt).1
          obtain ⟨x, hx⟩ : ∃ x, fs[k] = x := ⟨_, rfl⟩
          rw [hx] at hc0 hc1 hok hgl
          have HGL := Lib.hid hgl
          have HXO := Lib.hid hok
          have HC0 : Hid (∀ w', Below wr.heap.size wr w' → w'.cell? (ad.add (k * 2)) = some (.slice x.A x.ls.length x.c) ∧ w'.cell? ⟨(ad.add (k * 2)).block, (ad.add (k * 2)).off + 1, none⟩ = some (.int .i64 x.m)) := Lib.hid (fun w' hb =>
            ⟨(hb.cell (p := ad.add (k * 2)) (World.block_lt_of_cell? wr _ hc0)).trans hc0, (hb.cell (p := ⟨(ad.add (k * 2)).block, (ad.add (k * 2)).off + 1, none⟩) (World.block_lt_of_cell? wr _ hc1)).trans hc1⟩)
          clear hcc hx hW hgl hc0 hc1 hok
          have hkv : k < vs.length := by rw [HVL.out]; exact hlt
          have hiv : i < vs.length := by rw [HVL.out]; exact hi
          have hmk := map_q_getD vs hkv
          have hmi := map_q_getD vs hiv
          have hn2 := okf_nm (HOK.out.below bw) HV.out hkv
          have hn3 := okf_nm (HOK.out.below bw) HV.out hiv
          obtain ⟨ad2, rfl, e2⟩ := (HA.out.below bw).at k hkv
          obtain ⟨ad3, had, e3⟩ := (HA.out.below bw).at i hiv
          injection had with had
          subst had
          obtain ⟨x2, hx2⟩ : ∃ x2, vs[k] = x2 := ⟨_, rfl⟩
          obtain ⟨x3, hx3⟩ : ∃ x3, vs[i] = x3 := ⟨_, rfl⟩
          rw [hx2] at hmk hn2 e2
          rw [hx3] at hmi hn3 e3
          have N2 := Lib.hid hn2
          have N3 := Lib.hid hn3
          have E2 := Lib.hid e2
          have E3 := Lib.hid e3
          have HMK := Lib.hid hmk
          have HMI := Lib.hid hmi
          clear hn2 hn3 e2 e3 hmk hmi hx2 hx3
          go_upto_region 6 with fail
          go_cut [49] (fun s49 w2 => s49 = .bool (decide ((t : Int) ∈ x.ls ∧ x3.q < x2.q)) ∧ Below wr.heap.size wr w2)
          case first =>
            by_cases hu : (t : Int) ∈ x.ls
            · have HU := Lib.hid (decide_eq_true hu)
              obtain ⟨u, hz⟩ : ∃ u, decide (x3.q < x2.q) = u := ⟨_, rfl⟩
              have HZ := Lib.hid hz
              have HP : Hid (Value.bool u = .bool (decide ((t : Int) ∈ x.ls ∧ x3.q < x2.q))) := Lib.hid (by
                congr 1
                rw [← hz, decide_eq_decide]
                exact ⟨fun h => ⟨hu, h⟩, fun h => h.2⟩)
              clear hz hu
              refine wp_region_held_drew (S := fun w' => (w'.cell? (ad.add (k * 2)) = some (.slice x.A x.ls.length x.c) ∧ w'.cell? ⟨(ad.add (k * 2)).block, (ad.add (k * 2)).off + 1, none⟩ = some (.int .i64 x.m)) ∧ (w'.cell? (ad2.add (k * 3)) = some (.bool x2.b) ∧ w'.cell? ⟨(ad2.add (k * 3)).block, (ad2.add (k * 3)).off + 1, none⟩ = some (.slice x2.A x2.xs.length x2.c) ∧ w'.cell? ⟨(ad2.add (k * 3)).block, (ad2.add (k * 3)).off + 2, none⟩ = some (.slice x2.D x2.ys.length x2.d)) ∧ (w'.cell? (ad2.add (i * 3)) = some (.bool x3.b) ∧ w'.cell? ⟨(ad2.add (i * 3)).block, (ad2.add (i * 3)).off + 1, none⟩ = some (.slice x3.A x3.xs.length x3.c) ∧ w'.cell? ⟨(ad2.add (i * 3)).block, (ad2.add (i * 3)).off + 2, none⟩ = some (.slice x3.D x3.ys.length x3.d))) (by kernel_rfl) ⟨HC0.out _ ((Below.refl wr.heap.size wr).drew), ⟨(E2.out.below ((Below.refl wr.heap.size wr).drew)).c0, (E2.out.below ((Below.refl wr.heap.size wr).drew)).c1, (E2.out.below ((Below.refl wr.heap.size wr).drew)).c2⟩, (E3.out.below ((Below.refl wr.heap.size wr).drew)).c0, (E3.out.below ((Below.refl wr.heap.size wr).drew)).c1, (E3.out.below ((Below.refl wr.heap.size wr).drew)).c2⟩ (fun hHeld => ?_)
              have bz := (Below.refl wr.heap.size wr).drew
              generalize wr.drew = wd at *
              refine wpAnyH_take (i := 0) (v := .slice (some ad) fs.length d) rfl (by kernel_rfl) (by kernel_rfl) (by kernel_rfl) (fun _ _ _ h => h) (Or.inl ⟨by rfl, ?_⟩) (by assumption) ?_
              ·intro w hSw
               try dsimp only at hSw
               go_simp
               try with_reducible rfl
              try simp only [Act.put, tzA, tzB, tzC, tzD, tzE, tzF]
              refine wpAnyH_take (i := 1) (v := .int .i64 (k : Int)) rfl (by kernel_rfl) (by kernel_rfl) (by kernel_rfl) (fun _ _ _ h => h) (Or.inl ⟨by rfl, ?_⟩) (by assumption) ?_
              ·intro w hSw
               try dsimp only at hSw
               go_simp
               try with_reducible rfl
              try simp only [Act.put, tzA, tzB, tzC, tzD, tzE, tzF]
              refine wpAnyH_take (i := 2) (v := .pointer (some (ad.add (k * 2)))) rfl (by kernel_rfl) (by kernel_rfl) (by kernel_rfl) (fun _ _ _ h => h) (Or.inl ⟨by rfl, ?_⟩) (by assumption) ?_
              ·intro w hSw
               try dsimp only at hSw
               go_simp
               try with_reducible rfl
              try simp only [Act.put, tzA, tzB, tzC, tzD, tzE, tzF]
              refine wpAnyH_take (i := 3) (v := x.val) rfl (by kernel_rfl) (by kernel_rfl) (by kernel_rfl) (fun _ _ _ h => h) (Or.inl ⟨by rfl, ?_⟩) (by assumption) ?_
              ·intro w hSw
               try dsimp only at hSw
               obtain ⟨⟨s0, s1⟩, _⟩ := hSw
               go_simp
               try with_reducible rfl
              try simp only [Act.put, tzA, tzB, tzC, tzD, tzE, tzF]
              refine wpAnyH_take (i := 4) (v := .int .i64 (t : Int)) rfl (by kernel_rfl) (by kernel_rfl) (by kernel_rfl) (fun _ _ _ h => h) (Or.inl ⟨by rfl, ?_⟩) (by assumption) ?_
              ·intro w hSw
               try dsimp only at hSw
               go_simp
               try with_reducible rfl
              try simp only [Act.put, tzA, tzB, tzC, tzD, tzE, tzF]
              refine wpAnyH_ready (rs := [5]) (by kernel_rfl) (by simp) ?_
              refine AllReadyH.cons rfl (fun K hK => ?_) ?_
              ·go_simp
               go_at_call 69
               refine (ruses_any wd x (t : Int) true (HXO.out.below bz) HU.out).mono ?_
               rintro e wd ⟨rfl, bb⟩
               replace bz := below_on bz bb bz.size
               clear bb
               refine hK.out _ _ ⟨HC0.out _ bz, ⟨(E2.out.below bz).c0, (E2.out.below bz).c1, (E2.out.below bz).c2⟩, (E3.out.below bz).c0, (E3.out.below bz).c1, (E3.out.below bz).c2⟩ (fun hHeld => ?_)
               clear hK K
               try simp only [Act.put]
               try simp only [tzD, tzE, tzF]
               refine wpAnyH_take (i := 6) (v := .bool true) rfl (by kernel_rfl) (by kernel_rfl) (by kernel_rfl) (fun _ _ _ h => h) (Or.inl ⟨by rfl, ?_⟩) (by assumption) ?_
               ·intro w hSw
                try dsimp only at hSw
                go_simp
                try with_reducible rfl
               try simp only [Act.put, tzA, tzB, tzC, tzD, tzE, tzF]
               refine wpAnyH_take (i := 7) (v := .slice (some ad2) vs.length c) rfl (by kernel_rfl) (by kernel_rfl) (by kernel_rfl) (fun _ _ _ h => h) (Or.inl ⟨by kernel_rfl, ?_⟩) (by assumption) ?_
               ·intro w hSw
                try dsimp only at hSw
                go_simp
                try with_reducible rfl
               try simp only [Act.put, tzA, tzB, tzC, tzD, tzE, tzF]
               refine wpAnyH_take (i := 8) (v := .int .i64 (i : Int)) rfl (by kernel_rfl) (by kernel_rfl) (by kernel_rfl) (fun _ _ _ h => h) (Or.inl ⟨by kernel_rfl, ?_⟩) (by assumption) ?_
               ·intro w hSw
                try dsimp only at hSw
                go_simp
                try with_reducible rfl
               try simp only [Act.put, tzA, tzB, tzC, tzD, tzE, tzF]
               refine wpAnyH_take (i := 9) (v := .pointer (some (ad2.add (i * 3)))) rfl (by kernel_rfl) (by kernel_rfl) (by kernel_rfl) (fun _ _ _ h => h) (Or.inl ⟨by kernel_rfl, ?_⟩) (by assumption) ?_
               ·intro w hSw
                try dsimp only at hSw
                go_simp
                try with_reducible rfl
               try simp only [Act.put, tzA, tzB, tzC, tzD, tzE, tzF]
               refine wpAnyH_take (i := 10) (v := x3.val) rfl (by kernel_rfl) (by kernel_rfl) (by kernel_rfl) (fun _ _ _ h => h) (Or.inl ⟨by kernel_rfl, ?_⟩) (by assumption) ?_
               ·intro w hSw
                try dsimp only at hSw
                obtain ⟨_, _, s0, s1, s2⟩ := hSw
                go_simp
                try with_reducible rfl
               try simp only [Act.put, tzA, tzB, tzC, tzD, tzE, tzF]
               refine wpAnyH_take (i := 11) (v := .slice (some ad2) vs.length c) rfl (by kernel_rfl) (by kernel_rfl) (by kernel_rfl) (fun _ _ _ h => h) (Or.inl ⟨by kernel_rfl, ?_⟩) (by assumption) ?_
               ·intro w hSw
                try dsimp only at hSw
                go_simp
                try with_reducible rfl
               try simp only [Act.put, tzA, tzB, tzC, tzD, tzE, tzF]
               refine wpAnyH_take (i := 12) (v := .int .i64 (k : Int)) rfl (by kernel_rfl) (by kernel_rfl) (by kernel_rfl) (fun _ _ _ h => h) (Or.inl ⟨by kernel_rfl, ?_⟩) (by assumption) ?_
               ·intro w hSw
                try dsimp only at hSw
                go_simp
                try with_reducible rfl
               try simp only [Act.put, tzA, tzB, tzC, tzD, tzE, tzF]
               refine wpAnyH_take (i := 13) (v := .pointer (some (ad2.add (k * 3)))) rfl (by kernel_rfl) (by kernel_rfl) (by kernel_rfl) (fun _ _ _ h => h) (Or.inl ⟨by kernel_rfl, ?_⟩) (by assumption) ?_
               ·intro w hSw
                try dsimp only at hSw
                go_simp
                try with_reducible rfl
               try simp only [Act.put, tzA, tzB, tzC, tzD, tzE, tzF]
               refine wpAnyH_take (i := 14) (v := x2.val) rfl (by kernel_rfl) (by kernel_rfl) (by kernel_rfl) (fun _ _ _ h => h) (Or.inl ⟨by kernel_rfl, ?_⟩) (by assumption) ?_
               ·intro w hSw
                try dsimp only at hSw
                obtain ⟨_, ⟨s0, s1, s2⟩, _⟩ := hSw
                go_simp
                try with_reducible rfl
               try simp only [Act.put, tzA, tzB, tzC, tzD, tzE, tzF]
               refine wpAnyH_ready (rs := [15]) (by kernel_rfl) (by simp) ?_
               refine AllReadyH.cons rfl (fun K hK => ?_) ?_
               ·go_simp
                go_at_call 33
                refine (rless_any wd x3 x2 x3.q x2.q u (N3.out.below bz) (N2.out.below bz) HZ.out).mono ?_
                rintro e wd ⟨rfl, bb⟩
                replace bz := below_on bz bb bz.size
                clear bb
                refine hK.out _ _ ⟨HC0.out _ bz, ⟨(E2.out.below bz).c0, (E2.out.below bz).c1, (E2.out.below bz).c2⟩, (E3.out.below bz).c0, (E3.out.below bz).c1, (E3.out.below bz).c2⟩ (fun hHeld => ?_)
                clear hK K
                try simp only [Act.put]
                try simp only [tzD, tzE, tzF]
                refine wpAnyH_take (i := 16) (v := .bool u) rfl (by kernel_rfl) (by kernel_rfl) (by kernel_rfl) (fun _ _ _ h => h) (Or.inl ⟨by rfl, ?_⟩) (by assumption) ?_
                ·intro w hSw
                 try dsimp only at hSw
                 go_simp
                 try with_reducible rfl
                try simp only [Act.put, tzA, tzB, tzC, tzD, tzE, tzF]
                refine wpAnyH_done (by kernel_rfl) ?_ _
                go_wp2_with fail
                go_meet
                case rel => exact ⟨HP.out, bz⟩
               exact AllReadyH.nil
              exact AllReadyH.nil
            · have HU := Lib.hid (decide_eq_false hu)
              have HP : Hid (Value.bool false = .bool (decide ((t : Int) ∈ x.ls ∧ x3.q < x2.q))) := Lib.hid (by rw [decide_eq_false (fun h => hu h.1)])
              clear hu
              refine wp_region_held_drew (S := fun w' => (w'.cell? (ad.add (k * 2)) = some (.slice x.A x.ls.length x.c) ∧ w'.cell? ⟨(ad.add (k * 2)).block, (ad.add (k * 2)).off + 1, none⟩ = some (.int .i64 x.m)) ∧ (w'.cell? (ad2.add (k * 3)) = some (.bool x2.b) ∧ w'.cell? ⟨(ad2.add (k * 3)).block, (ad2.add (k * 3)).off + 1, none⟩ = some (.slice x2.A x2.xs.length x2.c) ∧ w'.cell? ⟨(ad2.add (k * 3)).block, (ad2.add (k * 3)).off + 2, none⟩ = some (.slice x2.D x2.ys.length x2.d)) ∧ (w'.cell? (ad2.add (i * 3)) = some (.bool x3.b) ∧ w'.cell? ⟨(ad2.add (i * 3)).block, (ad2.add (i * 3)).off + 1, none⟩ = some (.slice x3.A x3.xs.length x3.c) ∧ w'.cell? ⟨(ad2.add (i * 3)).block, (ad2.add (i * 3)).off + 2, none⟩ = some (.slice x3.D x3.ys.length x3.d))) (by kernel_rfl) ⟨HC0.out _ ((Below.refl wr.heap.size wr).drew), ⟨(E2.out.below ((Below.refl wr.heap.size wr).drew)).c0, (E2.out.below ((Below.refl wr.heap.size wr).drew)).c1, (E2.out.below ((Below.refl wr.heap.size wr).drew)).c2⟩, (E3.out.below ((Below.refl wr.heap.size wr).drew)).c0, (E3.out.below ((Below.refl wr.heap.size wr).drew)).c1, (E3.out.below ((Below.refl wr.heap.size wr).drew)).c2⟩ (fun hHeld => ?_)
              have bz := (Below.refl wr.heap.size wr).drew
              generalize wr.drew = wd at *
              refine wpAnyH_take (i := 0) (v := .slice (some ad) fs.length d) rfl (by kernel_rfl) (by kernel_rfl) (by kernel_rfl) (fun _ _ _ h => h) (Or.inl ⟨by rfl, ?_⟩) (by assumption) ?_
              ·intro w hSw
               try dsimp only at hSw
               go_simp
               try with_reducible rfl
              try simp only [Act.put, tzA, tzB, tzC, tzD, tzE, tzF]
              refine wpAnyH_take (i := 1) (v := .int .i64 (k : Int)) rfl (by kernel_rfl) (by kernel_rfl) (by kernel_rfl) (fun _ _ _ h => h) (Or.inl ⟨by rfl, ?_⟩) (by assumption) ?_
              ·intro w hSw
               try dsimp only at hSw
               go_simp
               try with_reducible rfl
              try simp only [Act.put, tzA, tzB, tzC, tzD, tzE, tzF]
              refine wpAnyH_take (i := 2) (v := .pointer (some (ad.add (k * 2)))) rfl (by kernel_rfl) (by kernel_rfl) (by kernel_rfl) (fun _ _ _ h => h) (Or.inl ⟨by rfl, ?_⟩) (by assumption) ?_
              ·intro w hSw
               try dsimp only at hSw
               go_simp
               try with_reducible rfl
              try simp only [Act.put, tzA, tzB, tzC, tzD, tzE, tzF]
              refine wpAnyH_take (i := 3) (v := x.val) rfl (by kernel_rfl) (by kernel_rfl) (by kernel_rfl) (fun _ _ _ h => h) (Or.inl ⟨by rfl, ?_⟩) (by assumption) ?_
              ·intro w hSw
               try dsimp only at hSw
               obtain ⟨⟨s0, s1⟩, _⟩ := hSw
               go_simp
               try with_reducible rfl
              try simp only [Act.put, tzA, tzB, tzC, tzD, tzE, tzF]
              refine wpAnyH_take (i := 4) (v := .int .i64 (t : Int)) rfl (by kernel_rfl) (by kernel_rfl) (by kernel_rfl) (fun _ _ _ h => h) (Or.inl ⟨by rfl, ?_⟩) (by assumption) ?_
              ·intro w hSw
               try dsimp only at hSw
               go_simp
               try with_reducible rfl
              try simp only [Act.put, tzA, tzB, tzC, tzD, tzE, tzF]
              refine wpAnyH_ready (rs := [5]) (by kernel_rfl) (by simp) ?_
              refine AllReadyH.cons rfl (fun K hK => ?_) ?_
              ·go_simp
               go_at_call 69
               refine (ruses_any wd x (t : Int) false (HXO.out.below bz) HU.out).mono ?_
               rintro e wd ⟨rfl, bb⟩
               replace bz := below_on bz bb bz.size
               clear bb
               refine hK.out _ _ ⟨HC0.out _ bz, ⟨(E2.out.below bz).c0, (E2.out.below bz).c1, (E2.out.below bz).c2⟩, (E3.out.below bz).c0, (E3.out.below bz).c1, (E3.out.below bz).c2⟩ (fun hHeld => ?_)
               clear hK K
               try simp only [Act.put]
               try simp only [tzD, tzE, tzF]
               refine wpAnyH_take (i := 6) (v := .bool false) rfl (by kernel_rfl) (by kernel_rfl) (by kernel_rfl) (fun _ _ _ h => h) (Or.inl ⟨by rfl, ?_⟩) (by assumption) ?_
               ·intro w hSw
                try dsimp only at hSw
                go_simp
                try with_reducible rfl
               try simp only [Act.put, tzA, tzB, tzC, tzD, tzE, tzF]
               refine wpAnyH_take (i := 7) (v := undef) rfl (by kernel_rfl) (by kernel_rfl) (by kernel_rfl) (fun _ _ _ h => h) (Or.inr ⟨by kernel_rfl, rfl⟩) (by assumption) ?_
               try simp only [Act.put, tzA, tzB, tzC, tzD, tzE, tzF]
               refine wpAnyH_take (i := 8) (v := undef) rfl (by kernel_rfl) (by kernel_rfl) (by kernel_rfl) (fun _ _ _ h => h) (Or.inr ⟨by kernel_rfl, rfl⟩) (by assumption) ?_
               try simp only [Act.put, tzA, tzB, tzC, tzD, tzE, tzF]
               refine wpAnyH_take (i := 9) (v := undef) rfl (by kernel_rfl) (by kernel_rfl) (by kernel_rfl) (fun _ _ _ h => h) (Or.inr ⟨by kernel_rfl, rfl⟩) (by assumption) ?_
               try simp only [Act.put, tzA, tzB, tzC, tzD, tzE, tzF]
               refine wpAnyH_take (i := 10) (v := undef) rfl (by kernel_rfl) (by kernel_rfl) (by kernel_rfl) (fun _ _ _ h => h) (Or.inr ⟨by kernel_rfl, rfl⟩) (by assumption) ?_
               try simp only [Act.put, tzA, tzB, tzC, tzD, tzE, tzF]
               refine wpAnyH_take (i := 11) (v := undef) rfl (by kernel_rfl) (by kernel_rfl) (by kernel_rfl) (fun _ _ _ h => h) (Or.inr ⟨by kernel_rfl, rfl⟩) (by assumption) ?_
               try simp only [Act.put, tzA, tzB, tzC, tzD, tzE, tzF]
               refine wpAnyH_take (i := 12) (v := undef) rfl (by kernel_rfl) (by kernel_rfl) (by kernel_rfl) (fun _ _ _ h => h) (Or.inr ⟨by kernel_rfl, rfl⟩) (by assumption) ?_
               try simp only [Act.put, tzA, tzB, tzC, tzD, tzE, tzF]
               refine wpAnyH_take (i := 13) (v := undef) rfl (by kernel_rfl) (by kernel_rfl) (by kernel_rfl) (fun _ _ _ h => h) (Or.inr ⟨by kernel_rfl, rfl⟩) (by assumption) ?_
               try simp only [Act.put, tzA, tzB, tzC, tzD, tzE, tzF]
               refine wpAnyH_take (i := 14) (v := undef) rfl (by kernel_rfl) (by kernel_rfl) (by kernel_rfl) (fun _ _ _ h => h) (Or.inr ⟨by kernel_rfl, rfl⟩) (by assumption) ?_
               try simp only [Act.put, tzA, tzB, tzC, tzD, tzE, tzF]
               refine wpAnyH_take (i := 15) (v := undef) rfl (by kernel_rfl) (by kernel_rfl) (by kernel_rfl) (fun _ _ _ h => h) (Or.inr ⟨by kernel_rfl, rfl⟩) (by assumption) ?_
               try simp only [Act.put, tzA, tzB, tzC, tzD, tzE, tzF]
               refine wpAnyH_take (i := 16) (v := .bool false) rfl (by kernel_rfl) (by kernel_rfl) (by kernel_rfl) (fun _ _ _ h => h) (Or.inl ⟨by rfl, ?_⟩) (by assumption) ?_
               ·intro w hSw
                try dsimp only at hSw
                go_simp
                try with_reducible rfl
               try simp only [Act.put, tzA, tzB, tzC, tzD, tzE, tzF]
               refine wpAnyH_done (by kernel_rfl) ?_ _
               go_wp2_with fail
               go_meet
               case rel => exact ⟨HP.out, bz⟩
              exact AllReadyH.nil
          case rest =>
            obtain ⟨rfl, bb⟩ := hcut
            replace bw := below_on bw bb bw.size
            by_cases hbad : (t : Int) ∈ x.ls ∧ x3.q < x2.q
            · have HBB : Hid (b = false) := Lib.hid (HBF.out (fun h => by
                have := h.2.2 k hlt (by rw [HGL.out]; exact hbad.1)
                rw [HMK.out, HMI.out] at this
                have h2 := hbad.2
                grind))
              rw [decide_eq_true hbad]
              clear hbad
              go_wp2_with fail
              go_ret
              exact ⟨ret_bool HBB.out.symm, bw⟩
            · have HNX : Hid (∀ s, s < k + 1 → (t : Int) ∈ lkA (fs.map Fm.fl) s → (vs.map Fx.q).getD s 0 ≤ (vs.map Fx.q).getD i 0) := Lib.hid (fun s ht hm => by
                rcases Nat.lt_or_ge s k with h1 | h1
                · exact HLE.out s h1 hm
                · obtain rfl : s = k := by omega
                  rw [HMK.out, HMI.out]
                  rw [HGL.out] at hm
                  by_cases h3 : x3.q < x2.q
                  · exact absurd ⟨hm, h3⟩ hbad
                  · grind)
              rw [decide_eq_false hbad]
              clear hbad
              go_wp2_with fail
              go_roundw
              case rel => exact ⟨k + 1, by omega, by go_num, HNX.out, bw⟩
              case measure => simp [intOf]; omega
        · have HBB : Hid (b = true) := Lib.hid (HB.out.1 ⟨HMEM.out, ⟨q, HQ.out, of_decide_eq_true HQU.out⟩, fun s hs hm => HLE.out s (by omega) hm⟩)
          go_wp2_with fail
          go_ret
          exact ⟨ret_bool HBB.out.symm, bw⟩
end Go.Proofs.Ythdfflbhogfejaa
