/- The load of a link, with the error that an addition may give; what limits a flow. No program in sight. The walk of fairshare.limits. -/
import Derived.Test.YthdfflbhogfejaaFhB
import Derived.Test.YthdfflbhogfejaaFsV
namespace Go.Proofs.Ythdfflbhogfejaa
set_option maxRecDepth 100000

/-- what Sum reckons, as rational numbers -/
def sumE : List Rat → Rat → Option Rat
  | [], q => some q
  | x :: xs, q => if bigQ (q + x) then none else sumE xs (q + x)
def addE (r x : Rat) : Option Rat := if bigQ (r + x) then none else some (r + x)
theorem sumE_snoc (xs : List Rat) (x : Rat) : ∀ q, sumE (xs ++ [x]) q = (sumE xs q).bind (fun r => addE r x) := by
  induction xs with
  | nil => intro q; simp only [List.nil_append, sumE, Option.bind_some, addE]
  | cons y xs ih =>
    intro q
    rw [List.cons_append, sumE, sumE]
    split
    · rfl
    · exact ih _
def eS : Option Rat → Bool × List Nat × List Nat × Int
  | some r => okS r
  | none => errF 2
theorem sumS_E {vs : List Fx} (h : ∀ v ∈ vs, v.v) : ∀ q, sumS vs q = eS (sumE (vs.map Fx.q) q) := by
  induction vs with
  | nil => intro q; rfl
  | cons v vs ih =>
    intro q
    rw [sumS, if_pos (h v (by simp)), List.map_cons, sumE]
    split
    · rfl
    · exact ih (fun u hu => h u (by simp [hu])) _
/-- the load of a link, from the first flows -/
def loadE (l : List Fl) (R : List Rat) (link : Int) : Nat → Option Rat
  | 0 => some 0
  | i + 1 => if link ∈ lkA l i then (loadE l R link i).bind (fun r => addE r (R.getD i 0)) else loadE l R link i
theorem map_q_getD (vs : List Fx) {i : Nat} (h : i < vs.length) : (vs.map Fx.q).getD i 0 = vs[i].q := by
  rw [getD_lt _ _ _ (by simpa using h)]; simp
theorem loadE_used {l : List Fl} {vs : List Fx} {link : Int} : ∀ i, i ≤ vs.length → sumE ((usedL l vs link i).map Fx.q) 0 = loadE l (vs.map Fx.q) link i := by
  intro i
  induction i with
  | zero => intro _; rfl
  | succ i ih =>
    intro hi
    rw [usedL, loadE]
    split
    · rw [List.map_append, List.map_cons, List.map_nil, sumE_snoc, ih (by omega), map_q_getD vs (by omega), List.getD_eq_getElem?_getD, List.getElem?_eq_getElem (by omega)]; rfl
    · exact ih (by omega)
theorem usedL_v {l : List Fl} {vs : List Fx} {link : Int} (h : ∀ v ∈ vs, v.v) : ∀ i, i ≤ vs.length → ∀ v ∈ usedL l vs link i, v.v := by
  intro i
  induction i with
  | zero => intro _ v hv; cases hv
  | succ i ih =>
    intro hi
    rw [usedL]
    split
    · intro v hv
      rcases List.mem_append.1 hv with h2 | h2
      · exact ih (by omega) v h2
      · obtain rfl : v = vs.getD i Fx.nil := by simpa using h2
        rw [List.getD_eq_getElem?_getD, List.getElem?_eq_getElem (by omega)]
        exact h _ (List.getElem_mem _)
    · exact ih (by omega)
theorem load_spec {l : List Fl} {vs : List Fx} {link : Int} (h : ∀ v ∈ vs, v.v) (hl : vs.length = l.length) : sumS (usedL l vs link l.length) 0 = eS (loadE l (vs.map Fx.q) link l.length) := by
  rw [sumS_E (usedL_v h _ (by omega)), loadE_used _ (by omega)]
theorem loadE_ok {l : List Fl} {R : List Rat} {link : Int} : ∀ i, (∀ m, m ≤ i → ¬ bigQ (sumTo (tk l R link) m)) → loadE l R link i = some (sumTo (tk l R link) i) := by
  intro i
  induction i with
  | zero => intro _; rfl
  | succ i ih =>
    intro h
    have h1 := ih (fun m hm => h m (by omega))
    have h2 := h (i + 1) (Nat.le_refl _)
    rw [sumTo, tk] at h2
    rw [loadE, sumTo, tk]
    by_cases hm : link ∈ lkA l i
    · rw [if_pos hm] at h2 ⊢
      rw [if_pos hm, h1]
      exact if_neg h2
    · rw [if_neg hm, if_neg hm, h1]; congr 1; grind
theorem big_zero : ¬ bigQ (0 : Rat) := by
  have h1 : (lim (0 : Rat).num.natAbs).length ≤ 128 := sz_zero.1
  have h2 : (lim (0 : Rat).den).length ≤ 128 := sz_zero.2
  rw [bigQ]; omega
theorem loadE_big {l : List Fl} {R : List Rat} {link : Int} : ∀ i r, loadE l R link i = some r → ¬ bigQ r := by
  intro i
  induction i with
  | zero => intro r h; cases h; exact big_zero
  | succ i ih =>
    intro r h
    rw [loadE] at h
    by_cases hm : link ∈ lkA l i
    · rw [if_pos hm] at h
      cases hx : loadE l R link i with
      | none => rw [hx] at h; cases h
      | some x =>
        rw [hx] at h
        replace h : addE x (R.getD i 0) = some r := h
        rw [addE] at h
        split at h
        · cases h
        · rename_i hb; cases h; exact hb
    · rw [if_neg hm] at h
      exact ih r h
/-- a link limits a flow: it is full, and nobody on it has more -/
def limP (cp : Int → Int) (l : List Fl) (R : List Rat) (link : Int) (i : Nat) : Prop := loadE l R link l.length = some (cp link : Rat) ∧ ∀ k, k < l.length → link ∈ lkA l k → R.getD k 0 ≤ R.getD i 0
instance (cp : Int → Int) (l : List Fl) (R : List Rat) (link : Int) (i : Nat) : Decidable (limP cp l R link i) := inferInstanceAs (Decidable (_ ∧ _))
end Go.Proofs.Ythdfflbhogfejaa
namespace Go.Proofs.Ythdfflbhogfejaa
set_option maxRecDepth 100000
open Go.RowKit

theorem okf_nm {w : World} {vs : List Fx} (h : OkF w vs) (hv : ∀ v ∈ vs, v.v) {k : Nat} (hk : k < vs.length) : Nm w vs[k] vs[k].q := ⟨(h _ (List.getElem_mem hk)).1, hv _ (List.getElem_mem hk), rfl, (h _ (List.getElem_mem hk)).2.1, (h _ (List.getElem_mem hk)).2.2⟩
/-- the load of a link: a number, or the error 2 -/
theorem load_nm (w : World) (D : Option Addr) (m d : Nat) (fs : List Fm) (A : Option Addr) (n c : Nat) (vs : List Fx) (link : Int) (hD : Ws w D d fs) (hA : RdF w A vs) (hok : OkF w vs) (hv : ∀ v ∈ vs, v.v) (hm : m = fs.length) (hn : n = vs.length) (hl : vs.length = fs.length) (hle : fs.length ≤ 100) :
    Calls Try.prog 45 #[.slice D m d, .slice A n c, .int .i64 link] w fun e w' => ∃ x : Fx, e = .returned (.tuple #[x.val, .int .i64 (if (loadE (fs.map Fm.fl) (vs.map Fx.q) link fs.length).isSome then 0 else 2)]) ∧ (∀ q, loadE (fs.map Fm.fl) (vs.map Fx.q) link fs.length = some q → Vq x q) ∧ x.ok w' ∧ Below w.heap.size w w' := by
  have hs := load_spec (l := fs.map Fm.fl) (link := link) hv (by rw [List.length_map]; exact hl)
  rw [List.length_map] at hs
  refine (load_any w D m d fs A n c vs link _ hD hA hok hm hn hl hle hs).mono ?_
  rintro e w' ⟨x, rfl, h1, ok, bb⟩
  cases hx : loadE (fs.map Fm.fl) (vs.map Fx.q) link fs.length with
  | none =>
    rw [hx] at h1
    exact ⟨x, rfl, (fun q h => by cases h), ok, bb⟩
  | some q =>
    rw [hx] at h1
    have r := Rp.of (q := q) h1
    refine ⟨x, rfl, fun p hp => ?_, ok, bb⟩
    cases hp
    exact (Nm.of ok r (Sz.of_big (loadE_big _ _ hx))).vq
set_option maxHeartbeats 4000000 in
theorem limits_any (w : World) (C : Option Addr) (nC cC : Nat) (caps : List Int) (D : Option Addr) (m d : Nat) (fs : List Fm) (A : Option Addr) (n c : Nat) (vs : List Fx) (link i : Nat) (b : Bool)
    (hC : Is w C cC caps) (hD : Ws w D d fs) (hA : RdF w A vs) (hok : OkF w vs) (hv : ∀ v ∈ vs, v.v) (hnC : nC = caps.length) (hm : m = fs.length) (hn : n = vs.length) (hl : vs.length = fs.length) (hle : fs.length ≤ 100) (hlk : link < caps.length) (hi : i < fs.length) (hb : decide (limP (cpF caps) (fs.map Fm.fl) (vs.map Fx.q) link i) = b) :
    Calls Try.prog 43 #[.slice C nC cC, .slice D m d, .slice A n c, .int .i64 (link : Int), .int .i64 (i : Int)] w fun e w' => e = .returned (.bool b) ∧ Below w.heap.size w w' := by
  have HD := Lib.hid hD
  have HA := Lib.hid hA
  have HOK := Lib.hid hok
  have HV := Lib.hid hv
  have HVL := Lib.hid hl
  have HB := Lib.hid hb
  have hlc := hC.len
  obtain ⟨ac, rfl, hacl, hcc⟩ := hC.at link hlk
  have HCP : Hid (cpF caps link = caps[link]) := Lib.hid (by rw [cpF, Int.toNat_natCast, getD_lt _ _ _ hlk])
  have HCB := Lib.hid (hC.wf _ (List.getElem_mem hlk))
  have hcap := hC.cap
  obtain ⟨cl, hcl⟩ : ∃ cl, caps[link] = cl := ⟨_, rfl⟩
  rw [hcl] at hcc HCP HCB
  have HCC0 : Hid (∀ w', Below w.heap.size w w' → w'.cell? (ac.add link) = some (.int .i64 cl)) := Lib.hid (fun w' hb => (hb.cell (p := ac.add link) (World.block_lt_of_cell? w _ hcc)).trans hcc)
  clear hD hA hok hv hl hb hcl hcc hacl hC
  subst hm hn hnC
  go_enter Try.func43, Try.ntmps43
  go_wp2_with fail
  refine (load_nm w D _ d fs A _ c vs link HD.out HA.out HOK.out HV.out rfl rfl HVL.out hle).mono ?_
  rintro e wn ⟨x1, rfl, hq1, ok1, bw⟩
  have HQ1 := Lib.hid hq1
  clear hq1
  obtain ⟨E, hE⟩ : ∃ E : Int, (if (loadE (fs.map Fm.fl) (vs.map Fx.q) link fs.length).isSome then 0 else 2) = E := ⟨_, rfl⟩
  rw [hE]
  have HE := Lib.hid hE
  clear hE
  go_upto_region 2 with fail
  have a11 := (fa_alloc ok1).1
  have bb := (fa_alloc ok1).2
  clear ok1
  generalize (wn.alloc (.cells #[.bool x1.b, .slice x1.A x1.xs.length x1.c, .slice x1.D x1.ys.length x1.d] 41)) = wm at a11 bb ⊢
  have HBW := Lib.hid (below_on bw bb bw.size)
  generalize wn.heap.size = g11 at a11 ⊢
  have HA11 := Lib.hid a11
  have HCC : Hid (∀ w', Below wm.heap.size wm w' → w'.cell? (ac.add link) = some (.int .i64 cl)) := Lib.hid (fun w' hb => HCC0.out w' (below_on HBW.out hb HBW.out.size))
  clear a11 bb bw HCC0
  go_cut [33] (fun s33 wx => s33 = .bool (decide (¬ loadE (fs.map Fm.fl) (vs.map Fx.q) link fs.length = some (cl : Rat))) ∧ Below wm.heap.size wm wx)
  case first =>
    cases hx : loadE (fs.map Fm.fl) (vs.map Fx.q) link fs.length with
    | none =>
      obtain rfl : E = 2 := by rw [← HE.out, hx]; rfl
      have HP : Hid (Value.bool true = .bool (decide (¬ loadE (fs.map Fm.fl) (vs.map Fx.q) link fs.length = some (cl : Rat)))) := Lib.hid (by rw [hx, decide_eq_true (by simp)])
      clear hx HE HQ1
      refine wp_region_held_drew (S := fun w' => True) (by kernel_rfl) trivial (fun hHeld => ?_)
      have bz := (Below.refl wm.heap.size wm).drew
      generalize wm.drew = wd at *
      refine tkw 0 (.int .i64 2) rfl (by kernel_rfl) (by kernel_rfl) (by kernel_rfl) (fun _ _ _ h => h) ⟨by rfl, ?_⟩ (by assumption) ?_
      ·intro w hSw; go_simp; (try with_reducible rfl)
      try simp only [Act.put, tzA, tzB, tzD, tzE, tzF]
      refine tkw 1 (.bool true) rfl (by kernel_rfl) (by kernel_rfl) (by kernel_rfl) (fun _ _ _ h => h) ⟨by rfl, ?_⟩ (by assumption) ?_
      ·intro w hSw; go_simp; (try with_reducible rfl)
      try simp only [Act.put, tzA, tzB, tzC, tzD, tzE, tzF]
      refine tkw 2 (.bool true) rfl (by kernel_rfl) (by kernel_rfl) (by kernel_rfl) (fun _ _ _ h => h) ⟨by rfl, ?_⟩ (by assumption) ?_
      ·intro w hSw; go_simp; (try with_reducible rfl)
      try simp only [Act.put, tzA, tzB, tzC, tzD, tzE, tzF]
      refine tku 3 rfl (by kernel_rfl) (by kernel_rfl) (by kernel_rfl) (fun _ _ _ h => h) (by kernel_rfl) (by assumption) ?_
      try simp only [Act.put, tzA, tzB, tzC, tzD, tzE, tzF]
      refine tku 4 rfl (by kernel_rfl) (by kernel_rfl) (by kernel_rfl) (fun _ _ _ h => h) (by kernel_rfl) (by assumption) ?_
      try simp only [Act.put, tzA, tzB, tzC, tzD, tzE, tzF]
      refine tku 5 rfl (by kernel_rfl) (by kernel_rfl) (by kernel_rfl) (fun _ _ _ h => h) (by kernel_rfl) (by assumption) ?_
      try simp only [Act.put, tzA, tzB, tzC, tzD, tzE, tzF]
      refine tku 6 rfl (by kernel_rfl) (by kernel_rfl) (by kernel_rfl) (fun _ _ _ h => h) (by kernel_rfl) (by assumption) ?_
      try simp only [Act.put, tzA, tzB, tzC, tzD, tzE, tzF]
      refine tku 7 rfl (by kernel_rfl) (by kernel_rfl) (by kernel_rfl) (fun _ _ _ h => h) (by kernel_rfl) (by assumption) ?_
      try simp only [Act.put, tzA, tzB, tzC, tzD, tzE, tzF]
      refine tku 8 rfl (by kernel_rfl) (by kernel_rfl) (by kernel_rfl) (fun _ _ _ h => h) (by kernel_rfl) (by assumption) ?_
      try simp only [Act.put, tzA, tzB, tzC, tzD, tzE, tzF]
      refine tku 9 rfl (by kernel_rfl) (by kernel_rfl) (by kernel_rfl) (fun _ _ _ h => h) (by kernel_rfl) (by assumption) ?_
      try simp only [Act.put, tzA, tzB, tzC, tzD, tzE, tzF]
      refine tku 10 rfl (by kernel_rfl) (by kernel_rfl) (by kernel_rfl) (fun _ _ _ h => h) (by kernel_rfl) (by assumption) ?_
      try simp only [Act.put, tzA, tzB, tzC, tzD, tzE, tzF]
      refine tkw 11 (.bool true) rfl (by kernel_rfl) (by kernel_rfl) (by kernel_rfl) (fun _ _ _ h => h) ⟨by rfl, ?_⟩ (by assumption) ?_
      ·intro w hSw; go_simp; (try with_reducible rfl)
      try simp only [Act.put, tzA, tzB, tzC, tzD, tzE, tzF]
      refine wpAnyH_done (by kernel_rfl) ?_ _
      go_wp2_with fail
      go_meet
      case rel => exact ⟨HP.out, bz⟩
    | some q =>
      obtain rfl : E = 0 := by rw [← HE.out, hx]; rfl
      have HQ0 := Lib.hid (HQ1.out q hx)
      clear HE HQ1
      have HQ1 := HQ0
      obtain ⟨z, hz⟩ : ∃ z, cmpQ q (cl : Rat) = z := ⟨_, rfl⟩
      have HZ := Lib.hid hz
      have HP : Hid (Value.bool (z != 0) = .bool (decide (¬ loadE (fs.map Fm.fl) (vs.map Fx.q) link fs.length = some (cl : Rat)))) := Lib.hid (by
        have := cmp_zero hz
        congr 1
        rw [hx, bne, this]
        by_cases h : q = (cl : Rat)
        · rw [decide_eq_true h, decide_eq_false (by rw [h]; simp)]; rfl
        · rw [decide_eq_false h, decide_eq_true (by simpa using h)]; rfl)
      clear hz hx
      refine wp_region_held_drew (S := fun w' => w'.cell? (ac.add link) = some (.int .i64 cl) ∧ w'.cell? ⟨g11, 0, none⟩ = some (.bool x1.b) ∧ w'.cell? ⟨g11, 1, none⟩ = some (.slice x1.A x1.xs.length x1.c) ∧ w'.cell? ⟨g11, 2, none⟩ = some (.slice x1.D x1.ys.length x1.d)) (by kernel_rfl) ⟨HCC.out _ ((Below.refl wm.heap.size wm).drew), (HA11.out.below ((Below.refl wm.heap.size wm).drew)).c0, (HA11.out.below ((Below.refl wm.heap.size wm).drew)).c1, (HA11.out.below ((Below.refl wm.heap.size wm).drew)).c2⟩ (fun hHeld => ?_)
      have bz := (Below.refl wm.heap.size wm).drew
      generalize wm.drew = wd at *
      refine tkw 0 (.int .i64 0) rfl (by kernel_rfl) (by kernel_rfl) (by kernel_rfl) (fun _ _ _ h => h) ⟨by rfl, ?_⟩ (by assumption) ?_
      ·intro w hSw; go_simp; (try with_reducible rfl)
      try simp only [Act.put, tzA, tzB, tzD, tzE, tzF]
      refine tkw 1 (.bool false) rfl (by kernel_rfl) (by kernel_rfl) (by kernel_rfl) (fun _ _ _ h => h) ⟨by rfl, ?_⟩ (by assumption) ?_
      ·intro w hSw; go_simp; (try with_reducible rfl)
      try simp only [Act.put, tzA, tzB, tzC, tzD, tzE, tzF]
      refine tkw 2 (.bool false) rfl (by kernel_rfl) (by kernel_rfl) (by kernel_rfl) (fun _ _ _ h => h) ⟨by rfl, ?_⟩ (by assumption) ?_
      ·intro w hSw; go_simp; (try with_reducible rfl)
      try simp only [Act.put, tzA, tzB, tzC, tzD, tzE, tzF]
      refine tkw 3 (x1.val) rfl (by kernel_rfl) (by kernel_rfl) (by kernel_rfl) (fun _ _ _ h => h) ⟨by kernel_rfl, ?_⟩ (by assumption) ?_
      ·intro w hSw; (try dsimp only at hSw); obtain ⟨_, s0, s1, s2⟩ := hSw; go_simp; (try with_reducible rfl)
      try simp only [Act.put, tzA, tzB, tzC, tzD, tzE, tzF]
      refine tkw 4 (.slice (some ac) caps.length cC) rfl (by kernel_rfl) (by kernel_rfl) (by kernel_rfl) (fun _ _ _ h => h) ⟨by kernel_rfl, ?_⟩ (by assumption) ?_
      ·intro w hSw; go_simp; (try with_reducible rfl)
      try simp only [Act.put, tzA, tzB, tzC, tzD, tzE, tzF]
      refine tkw 5 (.int .i64 (link : Int)) rfl (by kernel_rfl) (by kernel_rfl) (by kernel_rfl) (fun _ _ _ h => h) ⟨by kernel_rfl, ?_⟩ (by assumption) ?_
      ·intro w hSw; go_simp; (try with_reducible rfl)
      try simp only [Act.put, tzA, tzB, tzC, tzD, tzE, tzF]
      refine tkw 6 (.pointer (some (ac.add link))) rfl (by kernel_rfl) (by kernel_rfl) (by kernel_rfl) (fun _ _ _ h => h) ⟨by kernel_rfl, ?_⟩ (by assumption) ?_
      ·intro w hSw; go_simp; (try with_reducible rfl)
      try simp only [Act.put, tzA, tzB, tzC, tzD, tzE, tzF]
      refine tkw 7 (.int .i64 cl) rfl (by kernel_rfl) (by kernel_rfl) (by kernel_rfl) (fun _ _ _ h => h) ⟨by kernel_rfl, ?_⟩ (by assumption) ?_
      ·intro w hSw; (try dsimp only at hSw); obtain ⟨s0, _⟩ := hSw; go_simp; (try with_reducible rfl)
      try simp only [Act.put, tzA, tzB, tzC, tzD, tzE, tzF]
      refine wpAnyH_ready (rs := [8]) (by kernel_rfl) (by simp) ?_
      refine AllReadyH.cons rfl (fun K hK => ?_) ?_
      ·go_simp
       go_at_call 38
       refine (whole_any wd cl HCB.out.1 HCB.out.2).mono ?_
       rintro e wd ⟨y, rfl, _, n4, bb⟩
       try replace n4 := n4.below bb
       replace bz := below_on bz bb bz.size
       clear bb
       refine hK.out _ _ ⟨HCC.out _ bz, (HA11.out.below bz).c0, (HA11.out.below bz).c1, (HA11.out.below bz).c2⟩ (fun hHeld => ?_)
       clear hK K
       try simp only [Act.put]
       try simp only [tzD, tzE, tzF]
       refine wpAnyH_ready (rs := [9]) (by kernel_rfl) (by simp) ?_
       refine AllReadyH.cons rfl (fun K hK => ?_) ?_
       ·go_simp
        go_at_call 41
        refine (compare_any wd x1 y q (cl : Rat) z (HQ1.out.nm (HA11.out.ok.below bz)) n4 HZ.out).mono ?_
        rintro e wd ⟨rfl, bb⟩
        clear n4
        try replace n4 := n4.below bb
        replace bz := below_on bz bb bz.size
        clear bb
        refine hK.out _ _ ⟨HCC.out _ bz, (HA11.out.below bz).c0, (HA11.out.below bz).c1, (HA11.out.below bz).c2⟩ (fun hHeld => ?_)
        clear hK K
        try simp only [Act.put]
        try simp only [tzD, tzE, tzF]
        refine tkw 10 (.bool (z != 0)) rfl (by kernel_rfl) (by kernel_rfl) (by kernel_rfl) (fun _ _ _ h => h) ⟨by kernel_rfl, ?_⟩ (by assumption) ?_
        ·intro w hSw; go_simp; (try with_reducible rfl)
        try simp only [Act.put, tzA, tzB, tzC, tzD, tzE, tzF]
        refine tkw 11 (.bool (z != 0)) rfl (by kernel_rfl) (by kernel_rfl) (by kernel_rfl) (fun _ _ _ h => h) ⟨by rfl, ?_⟩ (by assumption) ?_
        ·intro w hSw; go_simp; (try with_reducible rfl)
        try simp only [Act.put, tzA, tzB, tzC, tzD, tzE, tzF]
        refine wpAnyH_done (by kernel_rfl) ?_ _
        go_wp2_with fail
        go_meet
        case rel => exact ⟨HP.out, bz⟩
       exact AllReadyH.nil
      exact AllReadyH.nil
  case rest =>
    obtain ⟨rfl, bb⟩ := hcut
    have bw := below_on HBW.out bb HBW.out.size
    clear HA11 HCC HBW bb HQ1 HE
    by_cases hf : loadE (fs.map Fm.fl) (vs.map Fx.q) link fs.length = some (cl : Rat)
    · have hfd : decide (¬ loadE (fs.map Fm.fl) (vs.map Fx.q) link fs.length = some (cl : Rat)) = false := decide_eq_false (fun h => h hf)
      have HF := Lib.hid hf
      rw [hfd]
      clear hf hfd
      go_wp2_with fail
      go_loopw [36] (fun jv wr => ∃ k : Nat, k ≤ fs.length ∧ jv = .int .i64 k ∧ (∀ t, t < k → (link : Int) ∈ lkA (fs.map Fm.fl) t → (vs.map Fx.q).getD t 0 ≤ (vs.map Fx.q).getD i 0) ∧ Below w.heap.size w wr) (fun jv _ => fs.length - (intOf jv).toNat)
      case atStart => exact ⟨0, by omega, rfl, fun t h => by omega, bw⟩
      case round =>
        clear bw
        obtain ⟨k, hk, rfl, hle2, bw⟩ := hrel
        have HLE := Lib.hid hle2
        clear hle2
        by_cases hlt : k < fs.length
        · have hW := HD.out.below bw
          obtain ⟨ad, rfl, _, hcc⟩ := hW.rd (by omega)
          obtain ⟨hc0, hc1⟩ := hcc k hlt
          have hok := hW.ok _ (List.getElem_mem hlt)
          have hgl := (fl_get hlt).1
          obtain ⟨x, hx⟩ : ∃ x, fs[k] = x := ⟨_, rfl⟩
          rw [hx] at hc0 hc1 hok hgl
          have HGL := Lib.hid hgl
          clear hcc hx hW hgl
          go_upto_region 7 with fail
          have fb := (fb_alloc wr x 48).1
          have bb := (fb_alloc wr x 48).2
          have HIS := Lib.hid (hok.below bb).is
          clear hc0 hc1 hok
          generalize (wr.alloc (.cells #[.slice x.A x.ls.length x.c, .int .i64 x.m] 48)) = wx at fb bb HIS ⊢
          have HBX := Lib.hid (below_on bw bb bw.size)
          generalize wr.heap.size = gF at fb ⊢
          have HFB := Lib.hid fb
          clear fb bb bw
          have hkv : k < vs.length := by rw [HVL.out]; exact hlt
          have hiv : i < vs.length := by rw [HVL.out]; exact hi
          have hmk := map_q_getD vs hkv
          have hmi := map_q_getD vs hiv
          have hn2 := okf_nm (HOK.out.below HBX.out) HV.out hkv
          have hn3 := okf_nm (HOK.out.below HBX.out) HV.out hiv
          obtain ⟨ad2, rfl, e2⟩ := (HA.out.below HBX.out).at k hkv
          obtain ⟨ad3, had, e3⟩ := (HA.out.below HBX.out).at i hiv
          injection had with had
          subst had
          obtain ⟨x2, hx2⟩ : ∃ x2, vs[k] = x2 := ⟨_, rfl⟩
          obtain ⟨x3, hx3⟩ : ∃ x3, vs[i] = x3 := ⟨_, rfl⟩
          rw [hx2] at hmk hn2 e2
          rw [hx3] at hmi hn3 e3
          have N2 := Lib.hid hn2
          have N3 := Lib.hid hn3
          have E2 := Lib.hid e2
          have E3 := Lib.hid e3
          have HMK := Lib.hid hmk
          have HMI := Lib.hid hmi
          clear hn2 hn3 e2 e3 hmk hmi hx2 hx3
          go_cut [56] (fun s56 w2 => s56 = .bool (decide ((link : Int) ∈ x.ls ∧ x3.q < x2.q)) ∧ Below wx.heap.size wx w2)
          case first =>
            by_cases hu : (link : Int) ∈ x.ls
            · have HU := Lib.hid (decide_eq_true hu)
              obtain ⟨z, hz⟩ : ∃ z, cmpQ x2.q x3.q = z := ⟨_, rfl⟩
              have HZ := Lib.hid hz
              have HP : Hid (Value.bool (decide (0 < z)) = .bool (decide ((link : Int) ∈ x.ls ∧ x3.q < x2.q))) := Lib.hid (by
                congr 1
                rw [← hz, decide_eq_decide]
                rcases cmpQ_cases x2.q x3.q with ⟨h1, h2⟩ | ⟨h1, h2⟩ | ⟨h1, h2⟩
                · rw [h2]; exact ⟨fun h => by omega, fun h => by have := h.2; grind⟩
                · rw [h2]; exact ⟨fun h => by omega, fun h => by have := h.2; grind⟩
                · rw [h2]; exact ⟨fun _ => ⟨hu, h1⟩, fun _ => by omega⟩)
              clear hz hu
              refine wp_region_held_drew (S := fun w' => w'.cell? ⟨gF, 0, none⟩ = some (.slice x.A x.ls.length x.c) ∧ (w'.cell? (ad2.add (k * 3)) = some (.bool x2.b) ∧ w'.cell? ⟨(ad2.add (k * 3)).block, (ad2.add (k * 3)).off + 1, none⟩ = some (.slice x2.A x2.xs.length x2.c) ∧ w'.cell? ⟨(ad2.add (k * 3)).block, (ad2.add (k * 3)).off + 2, none⟩ = some (.slice x2.D x2.ys.length x2.d)) ∧ (w'.cell? (ad2.add (i * 3)) = some (.bool x3.b) ∧ w'.cell? ⟨(ad2.add (i * 3)).block, (ad2.add (i * 3)).off + 1, none⟩ = some (.slice x3.A x3.xs.length x3.c) ∧ w'.cell? ⟨(ad2.add (i * 3)).block, (ad2.add (i * 3)).off + 2, none⟩ = some (.slice x3.D x3.ys.length x3.d))) (by kernel_rfl) ⟨(HFB.out.below ((Below.refl wx.heap.size wx).drew)).c0, ⟨(E2.out.below ((Below.refl wx.heap.size wx).drew)).c0, (E2.out.below ((Below.refl wx.heap.size wx).drew)).c1, (E2.out.below ((Below.refl wx.heap.size wx).drew)).c2⟩, (E3.out.below ((Below.refl wx.heap.size wx).drew)).c0, (E3.out.below ((Below.refl wx.heap.size wx).drew)).c1, (E3.out.below ((Below.refl wx.heap.size wx).drew)).c2⟩ (fun hHeld => ?_)
              have bz := (Below.refl wx.heap.size wx).drew
              generalize wx.drew = wd at *
              refine tkw 0 (.pointer (some ⟨gF, 0, none⟩)) rfl (by kernel_rfl) (by kernel_rfl) (by kernel_rfl) (fun _ _ _ h => h) ⟨by rfl, ?_⟩ (by assumption) ?_
              ·intro w hSw; go_simp; (try with_reducible rfl)
              try simp only [Act.put, tzA, tzB, tzD, tzE, tzF]
              refine tkw 1 (.slice x.A x.ls.length x.c) rfl (by kernel_rfl) (by kernel_rfl) (by kernel_rfl) (fun _ _ _ h => h) ⟨by rfl, ?_⟩ (by assumption) ?_
              ·intro w hSw; (try dsimp only at hSw); obtain ⟨s0, _⟩ := hSw; go_simp; (try with_reducible rfl)
              try simp only [Act.put, tzA, tzB, tzC, tzD, tzE, tzF]
              refine tkw 2 (.int .i64 (link : Int)) rfl (by kernel_rfl) (by kernel_rfl) (by kernel_rfl) (fun _ _ _ h => h) ⟨by rfl, ?_⟩ (by assumption) ?_
              ·intro w hSw; go_simp; (try with_reducible rfl)
              try simp only [Act.put, tzA, tzB, tzC, tzD, tzE, tzF]
              refine wpAnyH_ready (rs := [3]) (by kernel_rfl) (by simp) ?_
              refine AllReadyH.cons rfl (fun K hK => ?_) ?_
              ·go_simp
               go_at_call 46
               refine (contains_i wd x.A _ x.c x.ls link true (HIS.out.below bz) rfl HU.out).mono ?_
               rintro e wn ⟨rfl, rfl⟩
               have bb := Below.refl wd.heap.size wd
               replace bz := below_on bz bb bz.size
               clear bb
               refine hK.out _ _ ⟨(HFB.out.below bz).c0, ⟨(E2.out.below bz).c0, (E2.out.below bz).c1, (E2.out.below bz).c2⟩, (E3.out.below bz).c0, (E3.out.below bz).c1, (E3.out.below bz).c2⟩ (fun hHeld => ?_)
               clear hK K
               try simp only [Act.put]
               try simp only [tzD, tzE, tzF]
               refine tkw 4 (.bool true) rfl (by kernel_rfl) (by kernel_rfl) (by kernel_rfl) (fun _ _ _ h => h) ⟨by rfl, ?_⟩ (by assumption) ?_
               ·intro w hSw; go_simp; (try with_reducible rfl)
               try simp only [Act.put, tzA, tzB, tzC, tzD, tzE, tzF]
               refine tkw 5 (.slice (some ad2) vs.length c) rfl (by kernel_rfl) (by kernel_rfl) (by kernel_rfl) (fun _ _ _ h => h) ⟨by kernel_rfl, ?_⟩ (by assumption) ?_
               ·intro w hSw; go_simp; (try with_reducible rfl)
               try simp only [Act.put, tzA, tzB, tzC, tzD, tzE, tzF]
               refine tkw 6 (.int .i64 (k : Int)) rfl (by kernel_rfl) (by kernel_rfl) (by kernel_rfl) (fun _ _ _ h => h) ⟨by kernel_rfl, ?_⟩ (by assumption) ?_
               ·intro w hSw; go_simp; (try with_reducible rfl)
               try simp only [Act.put, tzA, tzB, tzC, tzD, tzE, tzF]
               refine tkw 7 (.pointer (some (ad2.add (k * 3)))) rfl (by kernel_rfl) (by kernel_rfl) (by kernel_rfl) (fun _ _ _ h => h) ⟨by kernel_rfl, ?_⟩ (by assumption) ?_
               ·intro w hSw; go_simp; (try with_reducible rfl)
               try simp only [Act.put, tzA, tzB, tzC, tzD, tzE, tzF]
               refine tkw 8 (x2.val) rfl (by kernel_rfl) (by kernel_rfl) (by kernel_rfl) (fun _ _ _ h => h) ⟨by kernel_rfl, ?_⟩ (by assumption) ?_
               ·intro w hSw; (try dsimp only at hSw); obtain ⟨_, ⟨s0, s1, s2⟩, _⟩ := hSw; go_simp; (try with_reducible rfl)
               try simp only [Act.put, tzA, tzB, tzC, tzD, tzE, tzF]
               refine tkw 9 (.slice (some ad2) vs.length c) rfl (by kernel_rfl) (by kernel_rfl) (by kernel_rfl) (fun _ _ _ h => h) ⟨by kernel_rfl, ?_⟩ (by assumption) ?_
               ·intro w hSw; go_simp; (try with_reducible rfl)
               try simp only [Act.put, tzA, tzB, tzC, tzD, tzE, tzF]
               refine tkw 10 (.int .i64 (i : Int)) rfl (by kernel_rfl) (by kernel_rfl) (by kernel_rfl) (fun _ _ _ h => h) ⟨by kernel_rfl, ?_⟩ (by assumption) ?_
               ·intro w hSw; go_simp; (try with_reducible rfl)
               try simp only [Act.put, tzA, tzB, tzC, tzD, tzE, tzF]
               refine tkw 11 (.pointer (some (ad2.add (i * 3)))) rfl (by kernel_rfl) (by kernel_rfl) (by kernel_rfl) (fun _ _ _ h => h) ⟨by kernel_rfl, ?_⟩ (by assumption) ?_
               ·intro w hSw; go_simp; (try with_reducible rfl)
               try simp only [Act.put, tzA, tzB, tzC, tzD, tzE, tzF]
               refine tkw 12 (x3.val) rfl (by kernel_rfl) (by kernel_rfl) (by kernel_rfl) (fun _ _ _ h => h) ⟨by kernel_rfl, ?_⟩ (by assumption) ?_
               ·intro w hSw; (try dsimp only at hSw); obtain ⟨_, _, s0, s1, s2⟩ := hSw; go_simp; (try with_reducible rfl)
               try simp only [Act.put, tzA, tzB, tzC, tzD, tzE, tzF]
               refine wpAnyH_ready (rs := [13]) (by kernel_rfl) (by simp) ?_
               refine AllReadyH.cons rfl (fun K hK => ?_) ?_
               ·go_simp
                go_at_call 41
                refine (compare_any wd x2 x3 x2.q x3.q z (N2.out.below bz) (N3.out.below bz) HZ.out).mono ?_
                rintro e wd ⟨rfl, bb⟩
                replace bz := below_on bz bb bz.size
                clear bb
                refine hK.out _ _ ⟨(HFB.out.below bz).c0, ⟨(E2.out.below bz).c0, (E2.out.below bz).c1, (E2.out.below bz).c2⟩, (E3.out.below bz).c0, (E3.out.below bz).c1, (E3.out.below bz).c2⟩ (fun hHeld => ?_)
                clear hK K
                try simp only [Act.put]
                try simp only [tzD, tzE, tzF]
                refine tkw 14 (.bool (decide (0 < z))) rfl (by kernel_rfl) (by kernel_rfl) (by kernel_rfl) (fun _ _ _ h => h) ⟨by kernel_rfl, ?_⟩ (by assumption) ?_
                ·intro w hSw; go_simp; (try with_reducible rfl)
                try simp only [Act.put, tzA, tzB, tzC, tzD, tzE, tzF]
                refine tkw 15 (.bool (decide (0 < z))) rfl (by kernel_rfl) (by kernel_rfl) (by kernel_rfl) (fun _ _ _ h => h) ⟨by rfl, ?_⟩ (by assumption) ?_
                ·intro w hSw; go_simp; (try with_reducible rfl)
                try simp only [Act.put, tzA, tzB, tzC, tzD, tzE, tzF]
                refine wpAnyH_done (by kernel_rfl) ?_ _
                go_wp2_with fail
                go_meet
                case rel => exact ⟨HP.out, bz⟩
               exact AllReadyH.nil
              exact AllReadyH.nil
            · have HU := Lib.hid (decide_eq_false hu)
              have HP : Hid (Value.bool false = .bool (decide ((link : Int) ∈ x.ls ∧ x3.q < x2.q))) := Lib.hid (by rw [decide_eq_false (fun h => hu h.1)])
              clear hu
              refine wp_region_held_drew (S := fun w' => w'.cell? ⟨gF, 0, none⟩ = some (.slice x.A x.ls.length x.c)) (by kernel_rfl) (HFB.out.below ((Below.refl wx.heap.size wx).drew)).c0 (fun hHeld => ?_)
              have bz := (Below.refl wx.heap.size wx).drew
              generalize wx.drew = wd at *
              refine tkw 0 (.pointer (some ⟨gF, 0, none⟩)) rfl (by kernel_rfl) (by kernel_rfl) (by kernel_rfl) (fun _ _ _ h => h) ⟨by rfl, ?_⟩ (by assumption) ?_
              ·intro w hSw; go_simp; (try with_reducible rfl)
              try simp only [Act.put, tzA, tzB, tzD, tzE, tzF]
              refine tkw 1 (.slice x.A x.ls.length x.c) rfl (by kernel_rfl) (by kernel_rfl) (by kernel_rfl) (fun _ _ _ h => h) ⟨by rfl, ?_⟩ (by assumption) ?_
              ·intro w hSw; go_simp; (try with_reducible rfl)
              try simp only [Act.put, tzA, tzB, tzC, tzD, tzE, tzF]
              refine tkw 2 (.int .i64 (link : Int)) rfl (by kernel_rfl) (by kernel_rfl) (by kernel_rfl) (fun _ _ _ h => h) ⟨by rfl, ?_⟩ (by assumption) ?_
              ·intro w hSw; go_simp; (try with_reducible rfl)
              try simp only [Act.put, tzA, tzB, tzC, tzD, tzE, tzF]
              refine wpAnyH_ready (rs := [3]) (by kernel_rfl) (by simp) ?_
              refine AllReadyH.cons rfl (fun K hK => ?_) ?_
              ·go_simp
               go_at_call 46
               refine (contains_i wd x.A _ x.c x.ls link false (HIS.out.below bz) rfl HU.out).mono ?_
               rintro e wn ⟨rfl, rfl⟩
               have bb := Below.refl wd.heap.size wd
               replace bz := below_on bz bb bz.size
               clear bb
               refine hK.out _ _ (HFB.out.below bz).c0 (fun hHeld => ?_)
               clear hK K
               try simp only [Act.put]
               try simp only [tzD, tzE, tzF]
               refine tkw 4 (.bool false) rfl (by kernel_rfl) (by kernel_rfl) (by kernel_rfl) (fun _ _ _ h => h) ⟨by rfl, ?_⟩ (by assumption) ?_
               ·intro w hSw; go_simp; (try with_reducible rfl)
               try simp only [Act.put, tzA, tzB, tzC, tzD, tzE, tzF]
               refine tku 5 rfl (by kernel_rfl) (by kernel_rfl) (by kernel_rfl) (fun _ _ _ h => h) (by kernel_rfl) (by assumption) ?_
               try simp only [Act.put, tzA, tzB, tzC, tzD, tzE, tzF]
               refine tku 6 rfl (by kernel_rfl) (by kernel_rfl) (by kernel_rfl) (fun _ _ _ h => h) (by kernel_rfl) (by assumption) ?_
               try simp only [Act.put, tzA, tzB, tzC, tzD, tzE, tzF]
               refine tku 7 rfl (by kernel_rfl) (by kernel_rfl) (by kernel_rfl) (fun _ _ _ h => h) (by kernel_rfl) (by assumption) ?_
               try simp only [Act.put, tzA, tzB, tzC, tzD, tzE, tzF]
               refine tku 8 rfl (by kernel_rfl) (by kernel_rfl) (by kernel_rfl) (fun _ _ _ h => h) (by kernel_rfl) (by assumption) ?_
               try simp only [Act.put, tzA, tzB, tzC, tzD, tzE, tzF]
               refine tku 9 rfl (by kernel_rfl) (by kernel_rfl) (by kernel_rfl) (fun _ _ _ h => h) (by kernel_rfl) (by assumption) ?_
               try simp only [Act.put, tzA, tzB, tzC, tzD, tzE, tzF]
               refine tku 10 rfl (by kernel_rfl) (by kernel_rfl) (by kernel_rfl) (fun _ _ _ h => h) (by kernel_rfl) (by assumption) ?_
               try simp only [Act.put, tzA, tzB, tzC, tzD, tzE, tzF]
               refine tku 11 rfl (by kernel_rfl) (by kernel_rfl) (by kernel_rfl) (fun _ _ _ h => h) (by kernel_rfl) (by assumption) ?_
               try simp only [Act.put, tzA, tzB, tzC, tzD, tzE, tzF]
               refine tku 12 rfl (by kernel_rfl) (by kernel_rfl) (by kernel_rfl) (fun _ _ _ h => h) (by kernel_rfl) (by assumption) ?_
               try simp only [Act.put, tzA, tzB, tzC, tzD, tzE, tzF]
               refine tku 13 rfl (by kernel_rfl) (by kernel_rfl) (by kernel_rfl) (fun _ _ _ h => h) (by kernel_rfl) (by assumption) ?_
               try simp only [Act.put, tzA, tzB, tzC, tzD, tzE, tzF]
               refine tku 14 rfl (by kernel_rfl) (by kernel_rfl) (by kernel_rfl) (fun _ _ _ h => h) (by kernel_rfl) (by assumption) ?_
               try simp only [Act.put, tzA, tzB, tzC, tzD, tzE, tzF]
               refine tkw 15 (.bool false) rfl (by kernel_rfl) (by kernel_rfl) (by kernel_rfl) (fun _ _ _ h => h) ⟨by rfl, ?_⟩ (by assumption) ?_
               ·intro w hSw; go_simp; (try with_reducible rfl)
               try simp only [Act.put, tzA, tzB, tzC, tzD, tzE, tzF]
               refine wpAnyH_done (by kernel_rfl) ?_ _
               go_wp2_with fail
               go_meet
               case rel => exact ⟨HP.out, bz⟩
              exact AllReadyH.nil
          case rest =>
            obtain ⟨rfl, bb⟩ := hcut
            have bw := below_on HBX.out bb HBX.out.size
            by_cases hbad : (link : Int) ∈ x.ls ∧ x3.q < x2.q
            · have HBB : Hid (b = false) := Lib.hid (by
                rw [← HB.out]
                refine decide_eq_false (fun h => ?_)
                have := h.2 k (by simpa using hlt) (by rw [HGL.out]; exact hbad.1)
                rw [HMK.out, HMI.out] at this
                have h2 := hbad.2
                grind)
              rw [decide_eq_true hbad]
              clear hbad
              go_wp2_with fail
              go_ret
              exact ⟨ret_bool HBB.out.symm, bw⟩
            · have HNX : Hid (∀ t, t < k + 1 → (link : Int) ∈ lkA (fs.map Fm.fl) t → (vs.map Fx.q).getD t 0 ≤ (vs.map Fx.q).getD i 0) := Lib.hid (fun t ht hm => by
                rcases Nat.lt_or_ge t k with h1 | h1
                · exact HLE.out t h1 hm
                · obtain rfl : t = k := by omega
                  rw [HMK.out, HMI.out]
                  rw [HGL.out] at hm
                  by_cases h3 : x3.q < x2.q
                  · exact absurd ⟨hm, h3⟩ hbad
                  · grind)
              rw [decide_eq_false hbad]
              clear hbad
              go_wp2_with fail
              go_roundw
              case rel => exact ⟨k + 1, by omega, by go_num, HNX.out, bw⟩
              case measure => simp [intOf]; omega
        · have HBB : Hid (b = true) := Lib.hid (by
            rw [← HB.out]
            refine decide_eq_true ⟨?_, fun t ht hm => HLE.out t (by rw [List.length_map] at ht; omega) hm⟩
            rw [List.length_map, HCP.out]; exact HF.out)
          go_wp2_with fail
          go_ret
          exact ⟨ret_bool HBB.out.symm, bw⟩
    · have hfd : decide (¬ loadE (fs.map Fm.fl) (vs.map Fx.q) link fs.length = some (cl : Rat)) = true := decide_eq_true hf
      have HBB : Hid (b = false) := Lib.hid (by
        rw [← HB.out]
        refine decide_eq_false (fun h => hf ?_)
        have := h.1
        rw [List.length_map, HCP.out] at this; exact this)
      rw [hfd]
      clear hf hfd
      go_wp2_with fail
      go_ret
      exact ⟨ret_bool HBB.out.symm, bw⟩
end Go.Proofs.Ythdfflbhogfejaa
