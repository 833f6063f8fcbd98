/- The walk of IntervalHulls. -/
import Derived.Test.YtlcolmifmhdboaaIvM
import Derived.Test.YtlcolmifmhdboaaIvX
import Derived.Deep.RegionHeld
namespace Go.Proofs.Ytlcolmifmhdboaa
open Go.RowKit

set_option maxHeartbeats 1600000 in
set_option maxRecDepth 100000 in
theorem ihulls_many (w : World) (A : Option Addr) (n c : Nat) (a : Int) (hn : 10 < n) (hm : n ≤ maxLen) :
    Calls Try.prog 6 #[.slice A n c, .int .u8 a] w fun e w' => e = .returned (.bool true) ∧ Below w.heap.size w w' := by
  have bw := Below.refl w.heap.size w
  have h12 : decide ((10 : Int) < (n : Int)) = true := decide_eq_true (by omega)
  go_enter Try.func6, Try.ntmps6
  go_wp2_with fail
  refine (awakei_any _).mono ?_
  rintro e wn ⟨rfl, bb⟩
  replace bw := below_on bw bb bw.size
  clear bb
  go_wp2_with fail
  go_ret
  exact ⟨rfl, bw⟩
set_option maxHeartbeats 1600000 in
set_option maxRecDepth 100000 in
theorem ihulls_long (w : World) (A : Option Addr) (n c : Nat) (a : Int) (vs : List Ix) (hn : n = vs.length) (h12 : vs.length ≤ 10) (hrd : RdI w A vs) (hl : ∀ v ∈ vs, v.len) (h : longI vs = true) :
    Calls Try.prog 6 #[.slice A n c, .int .u8 a] w fun e w' => e = .returned (.bool true) ∧ Below w.heap.size w w' := by
  have bw := Below.refl w.heap.size w
  have HL := Lib.hid hl
  have H := Lib.hid h
  have h13 : decide ((10 : Int) < (vs.length : Int)) = false := decide_eq_false (by omega)
  clear hl h
  subst hn
  go_enter Try.func6, Try.ntmps6
  go_wp2_with fail
  refine (ilong_any w A _ c vs true hrd rfl (by omega) (fun v hv => HL.out v hv) H.out).mono ?_
  rintro e wl ⟨rfl, rfl⟩
  go_wp2_with fail
  refine (awakei_any _).mono ?_
  rintro e wn ⟨rfl, bb⟩
  replace bw := below_on bw bb bw.size
  clear bb
  go_wp2_with fail
  go_ret
  exact ⟨rfl, bw⟩
set_option maxHeartbeats 8000000 in
set_option maxRecDepth 100000 in
theorem ihulls_main (w : World) (A : Option Addr) (n c a : Nat) (vs : List Ix) (hn : n = vs.length) (h12 : vs.length ≤ 10) (ha : a ≤ 255) (hcc : n ≤ c) (hcm : c ≤ maxLen) (hrd : RdI w A vs) (hok : OkI w vs) (hl : ∀ v ∈ vs, v.len) (h : longI vs = false) :
    Calls Try.prog 6 #[.slice A n c, .int .u8 a] w fun e w' => e = .returned (.bool true) ∧ Below w.heap.size w w' := by
  have bw := Below.refl w.heap.size w
  have HL := Lib.hid hl
  have H := Lib.hid h
  have HRD := Lib.hid hrd
  have HOK := Lib.hid hok
  have h13 : decide ((10 : Int) < (vs.length : Int)) = false := decide_eq_false (by omega)
  obtain ⟨S, hS⟩ : ∃ S, hullS vs = S := ⟨_, rfl⟩
  have HS := Lib.hid hS
  clear hl h hok hS
  subst hn
  go_enter Try.func6, Try.ntmps6
  go_wp2_with fail
  refine (ilong_any w A _ c vs false hrd rfl (by omega) (fun v hv => HL.out v hv) H.out).mono ?_
  rintro e wl ⟨rfl, rfl⟩
  clear hrd
  go_wp2_with fail
  refine (ihull_any _ A _ c vs S (HRD.out.below bw) (HOK.out.below bw) rfl (by omega) HS.out).mono ?_
  rintro e wn ⟨x3, rfl, h1, h2, ok3, bb⟩
  have HS3 := Lib.hid (And.intro h1 h2)
  clear h1 h2
  replace bw := below_on bw bb bw.size
  clear bb
  go_upto_region 4 with fail
  have a3 := (ia_alloc ok3).1
  have bb := (ia_alloc ok3).2
  clear ok3
  generalize (wn.alloc (.cells #[.bool x3.lo.b, .slice x3.lo.A x3.lo.xs.length x3.lo.c, .slice x3.lo.D x3.lo.ys.length x3.lo.d, .bool x3.hi.b, .slice x3.hi.A x3.hi.xs.length x3.hi.c, .slice x3.hi.D x3.hi.ys.length x3.hi.d] 41)) = wm at a3 bb ⊢
  try replace a3 := a3.below bb
  replace bw := below_on bw bb bw.size
  clear bb
  generalize wn.heap.size = g3 at a3 ⊢
  go_wp2_with fail
  refine (rihull_any _ A _ c vs S (HRD.out.below bw) (HOK.out.below bw) rfl (by omega) HS.out).mono ?_
  rintro e wn ⟨x4, rfl, h1, h2, ok4, bb⟩
  have HS4 := Lib.hid (And.intro h1 h2)
  clear h1 h2
  try replace a3 := a3.below bb
  replace bw := below_on bw bb bw.size
  clear bb
  go_upto_region 5 with fail
  have a4 := (ia_alloc ok4).1
  have bb := (ia_alloc ok4).2
  clear ok4
  generalize (wn.alloc (.cells #[.bool x4.lo.b, .slice x4.lo.A x4.lo.xs.length x4.lo.c, .slice x4.lo.D x4.lo.ys.length x4.lo.d, .bool x4.hi.b, .slice x4.hi.A x4.hi.xs.length x4.hi.c, .slice x4.hi.D x4.hi.ys.length x4.hi.d] 41)) = wm at a4 bb ⊢
  try replace a3 := a3.below bb
  try replace a4 := a4.below bb
  replace bw := below_on bw bb bw.size
  clear bb
  generalize wn.heap.size = g4 at a4 ⊢
  have ci0 := a3.c0
  have ci1 := a3.c1
  have ci2 := a3.c2
  have ci3 := a3.c3
  have ci4 := a3.c4
  have ci5 := a3.c5
  have cj0 := a4.c0
  have cj1 := a4.c1
  have cj2 := a4.c2
  have cj3 := a4.c3
  have cj4 := a4.c4
  have cj5 := a4.c5
  go_wp2_with fail
  clear ci0 ci1 ci2 ci3 ci4 ci5
  clear cj0 cj1 cj2 cj3 cj4 cj5
  refine (samei_any _ x3 x4 a3.ok a4.ok (SmI.of HS3.out.1 HS3.out.2 HS4.out.1 HS4.out.2)).mono ?_
  rintro e wn ⟨rfl, bb⟩
  try replace a3 := a3.below bb
  try replace a4 := a4.below bb
  replace bw := below_on bw bb bw.size
  clear bb
  clear a4
  have hw1 : IntKind.i64.wrap (a : Int) = a := IntWalk.i64_in _ (by omega)
  have hw2 : IntKind.i64.wrap ((vs.length : Int) + 1) = (vs.length : Int) + 1 := IntWalk.i64_in _ (by omega)
  obtain ⟨m, hm⟩ : ∃ m, m = a % (vs.length + 1) := ⟨_, rfl⟩
  have hml : m ≤ vs.length := by rw [hm]; have := Nat.mod_lt a (show 0 < vs.length + 1 by omega); omega
  have hm1 : (a : Int) % ((vs.length : Int) + 1) = m := by rw [hm, Int.natCast_emod]; rfl
  have hm2 : (a : Int).tmod ((vs.length : Int) + 1) = m := by rw [Int.tmod_eq_emod_of_nonneg (by omega), hm1]
  have hw3 : IntKind.i64.wrap (m : Int) = m := IntWalk.i64_in _ (by omega)
  have hne : ((vs.length : Int) + 1) ≠ 0 := by omega
  clear hm
  go_upto_region 8 with fail
  generalize wn = wm at *
  obtain ⟨D, hD⟩ : ∃ D, (if c = m then A else Option.map (fun x => x.add (m * 6)) A) = D := ⟨_, rfl⟩
  have hrdD : RdI w D (vs.drop m) := by
    rw [← hD]
    split
    · rename_i hcm2
      intro hn; rw [List.length_drop] at hn; omega
    · cases A with
      | none =>
        intro hn
        have h0 : 0 < vs.length := by rw [List.length_drop] at hn; omega
        obtain ⟨ad, e, _⟩ := HRD.out h0
        cases e
      | some ad => exact HRD.out.drop m
  have HRDD := Lib.hid hrdD
  have lD : vs.length - m = (vs.drop m).length := by rw [List.length_drop]
  have LD := Lib.hid lD
  have lT : m = (vs.take m).length := by rw [List.length_take]; omega
  have LT := Lib.hid lT
  have HST : Hid (hullS (vs.drop m ++ vs.take m) = S) := Lib.hid (by rw [hull_turn, List.take_append_drop]; exact HS.out)
  have HOKT : Hid (OkI w (vs.drop m ++ vs.take m)) := Lib.hid (fun v hv => HOK.out v (by
    rcases List.mem_append.1 hv with h | h
    · exact List.mem_of_mem_drop h
    · exact List.mem_of_mem_take h))
  have HLEN : Hid (0 + (vs.length - m) + m = (vs.drop m ++ vs.take m).length) := Lib.hid (by rw [List.length_append, List.length_drop, List.length_take]; omega)
  have HLEN2 : Hid (vs.length = (vs.drop m ++ vs.take m).length) := Lib.hid (by rw [List.length_append, List.length_drop, List.length_take]; omega)
  have HLEN3 : Hid (vs.length - m + m = (vs.drop m ++ vs.take m).length) := Lib.hid (by rw [List.length_append, List.length_drop, List.length_take]; omega)
  have hmc : m ≤ c := by omega
  clear hrdD lD lT
  go_cut [10, 11] from 12 (fun s10 s11 w' => ∃ (G : Nat) (x5 : Ix), s10 = .pointer (some ⟨G, 0, none⟩) ∧ s11 = .int .i64 S.2.2 ∧ (x5.lo.is S.1 ∧ x5.hi.is S.2.1) ∧ Ia w' G x5 ∧ Below wm.heap.size wm w')
  case first =>
    --REG{
    have bz := (Below.refl wm.heap.size wm).drew
    refine wp_region_held_drew (S := fun _ => True) (by kernel_rfl) trivial (fun hHeld => ?_)
    generalize wm.drew = wd at *
    refine wpAnyH_take (i := 1) (v := .slice A vs.length c) rfl (by kernel_rfl) (by kernel_rfl) (by kernel_rfl) (fun _ _ _ h => h) (Or.inl ⟨by rfl, ?_⟩) (by assumption) ?_
    · intro w hSw
      try dsimp only at hSw
      go_simp
      try first | with_reducible rfl | exact congrArg (fun z => Value.slice z (vs.length - m) (c - m)) hD
    try simp only [Act.put, List.setIfInBounds_toArray, List.set_cons_zero, List.set_cons_succ]
    refine wpAnyH_take (i := 2) (v := .int .i64 (m : Int)) rfl (by kernel_rfl) (by kernel_rfl) (by kernel_rfl) (fun _ _ _ h => h) (Or.inl ⟨by rfl, ?_⟩) (by assumption) ?_
    · intro w hSw
      try dsimp only at hSw
      go_simp
      try first | with_reducible rfl | exact congrArg (fun z => Value.slice z (vs.length - m) (c - m)) hD
    try simp only [Act.put, List.setIfInBounds_toArray, List.set_cons_zero, List.set_cons_succ]
    refine wpAnyH_take (i := 3) (v := .slice D (vs.length - m) (c - m)) rfl (by kernel_rfl) (by kernel_rfl) (by kernel_rfl) (fun _ _ _ h => h) (Or.inl ⟨by rfl, ?_⟩) (by assumption) ?_
    · intro w hSw
      try dsimp only at hSw
      go_simp
      try first | with_reducible rfl | exact congrArg (fun z => Value.slice z (vs.length - m) (c - m)) hD
    try simp only [Act.put, List.setIfInBounds_toArray, List.set_cons_zero, List.set_cons_succ]
    refine wpAnyH_take (i := 5) (v := .slice A vs.length c) rfl (by kernel_rfl) (by kernel_rfl) (by kernel_rfl) (fun _ _ _ h => h) (Or.inl ⟨by rfl, ?_⟩) (by assumption) ?_
    · intro w hSw
      try dsimp only at hSw
      go_simp
      try first | with_reducible rfl | exact congrArg (fun z => Value.slice z (vs.length - m) (c - m)) hD
    try simp only [Act.put, List.setIfInBounds_toArray, List.set_cons_zero, List.set_cons_succ]
    refine wpAnyH_take (i := 6) (v := .int .i64 (m : Int)) rfl (by kernel_rfl) (by kernel_rfl) (by kernel_rfl) (fun _ _ _ h => h) (Or.inl ⟨by rfl, ?_⟩) (by assumption) ?_
    · intro w hSw
      try dsimp only at hSw
      go_simp
      try first | with_reducible rfl | exact congrArg (fun z => Value.slice z (vs.length - m) (c - m)) hD
    try simp only [Act.put, List.setIfInBounds_toArray, List.set_cons_zero, List.set_cons_succ]
    refine wpAnyH_take (i := 7) (v := .slice A m c) rfl (by kernel_rfl) (by kernel_rfl) (by kernel_rfl) (fun _ _ _ h => h) (Or.inl ⟨by rfl, ?_⟩) (by assumption) ?_
    · intro w hSw
      try dsimp only at hSw
      go_simp
      try first | with_reducible rfl | exact congrArg (fun z => Value.slice z (vs.length - m) (c - m)) hD
    try simp only [Act.put, List.setIfInBounds_toArray, List.set_cons_zero, List.set_cons_succ]
    refine wpAnyH_ready (rs := [0, 13]) (by kernel_rfl) (by simp) ?_
    refine AllReadyH.cons rfl (fun K hK => ?_) ?_
    · go_simp
      have fr := ir_lit wd wm.heap.size bz.size
      have bb := (Below.refl wd.heap.size wd).alloc (Nat.le_refl _) (.cells #[] 41)
      generalize hL : wd.heap.size = gL at fr ⊢
      replace bz := below_on bz bb bz.size
      clear bb hL
      generalize (wd.alloc (.cells #[] 41)) = we at *
      generalize we = wd at *
      refine hK.out _ _ trivial (fun hHeld => ?_)
      clear hK K
      try simp only [Act.put, List.setIfInBounds_toArray, List.set_cons_zero, List.set_cons_succ]
      refine wpAnyH_ready (rs := [4, 13]) (by kernel_rfl) (by simp) ?_
      refine AllReadyH.cons rfl (fun K hK => ?_) ?_
      · refine step_append_ivl wd rfl _ _ rfl rfl (B := wm.heap.size) (A := (some ⟨gL, 0, none⟩)) (c := 0) (n := 0) (xs := []) rfl rfl fr D _ _ (vs.drop m) rfl LD.out ((HRDD.out).below (below_on bw bz bw.size)) (by omega) bz.size ?_
        intro A1 c1 we fr1 bb1 gr1 at1
        replace bz := bz.trans bb1
        clear bb1 gr1 at1 fr
        have fr := fr1
        clear fr1
        generalize we = wd at *
        refine hK.out _ _ trivial (fun hHeld => ?_)
        clear hK K
        try simp only [Act.put, List.setIfInBounds_toArray, List.set_cons_zero, List.set_cons_succ]
        refine wpAnyH_ready (rs := [8, 13]) (by kernel_rfl) (by simp) ?_
        refine AllReadyH.cons rfl (fun K hK => ?_) ?_
        · first | refine step_append_ivl wd rfl _ _ rfl rfl (B := wm.heap.size) (A := A1) (c := c1) (n := (0 + (vs.length - m))) (xs := vs.drop m) rfl (by rw [Nat.zero_add]; exact LD.out) fr A _ _ (vs.take m) rfl LT.out ((HRD.out.take m).below (below_on bw bz bw.size)) (by omega) bz.size ?_ | refine step_append_ivl wd rfl _ _ rfl rfl (B := wm.heap.size) (A := A1) (c := c1) (n := (vs.length - m)) (xs := vs.drop m) rfl LD.out fr A _ _ (vs.take m) rfl LT.out ((HRD.out.take m).below (below_on bw bz bw.size)) (by omega) bz.size ?_
          intro A2 c2 we fr1 bb1 gr1 at1
          replace bz := bz.trans bb1
          clear bb1 gr1 at1 fr
          have fr := fr1
          clear fr1
          generalize we = wd at *
          refine hK.out _ _ trivial (fun hHeld => ?_)
          clear hK K
          try simp only [Act.put, List.setIfInBounds_toArray, List.set_cons_zero, List.set_cons_succ]
          refine wpAnyH_ready (rs := [9, 13]) (by kernel_rfl) (by simp) ?_
          refine AllReadyH.cons rfl (fun K hK => ?_) ?_
          · go_simp
            go_at_call 32
            refine (ihull_any wd A2 _ c2 (vs.drop m ++ vs.take m) S fr.rd (HOKT.out.below (below_on bw bz bw.size)) (by first | with_reducible exact HLEN2.out | with_reducible exact HLEN3.out | with_reducible exact HLEN.out) (by omega) HST.out).mono ?_
            rintro e wd ⟨x5, rfl, h1, h2, ok5, bb⟩
            have HS5 := Lib.hid (And.intro h1 h2)
            clear h1 h2 fr
            replace bz := below_on bz bb bz.size
            clear bb
            try dsimp only
            refine hK.out _ _ trivial (fun hHeld => ?_)
            clear hK K
            try simp only [Act.put, List.setIfInBounds_toArray, List.set_cons_zero, List.set_cons_succ]
            refine wpAnyH_take (i := 10) (v := .tuple #[x5.val, .int .i64 S.2.2]) rfl (by kernel_rfl) (by kernel_rfl) (by kernel_rfl) (fun _ _ _ h => h) (Or.inl ⟨by rfl, ?_⟩) (by assumption) ?_
            · intro w hSw
              try dsimp only at hSw
              go_simp
              try first | with_reducible rfl | exact congrArg (fun z => Value.slice z (vs.length - m) (c - m)) hD
            try simp only [Act.put, List.setIfInBounds_toArray, List.set_cons_zero, List.set_cons_succ]
            refine wpAnyH_take (i := 11) (v := x5.val) rfl (by kernel_rfl) (by kernel_rfl) (by kernel_rfl) (fun _ _ _ h => h) (Or.inl ⟨by rfl, ?_⟩) (by assumption) ?_
            · intro w hSw
              try dsimp only at hSw
              go_simp
              try first | with_reducible rfl | exact congrArg (fun z => Value.slice z (vs.length - m) (c - m)) hD
            try simp only [Act.put, List.setIfInBounds_toArray, List.set_cons_zero, List.set_cons_succ]
            refine wpAnyH_take (i := 12) (v := .int .i64 S.2.2) rfl (by kernel_rfl) (by kernel_rfl) (by kernel_rfl) (fun _ _ _ h => h) (Or.inl ⟨by rfl, ?_⟩) (by assumption) ?_
            · intro w hSw
              try dsimp only at hSw
              go_simp
              try first | with_reducible rfl | exact congrArg (fun z => Value.slice z (vs.length - m) (c - m)) hD
            try simp only [Act.put, List.setIfInBounds_toArray, List.set_cons_zero, List.set_cons_succ]
            refine wpAnyH_ready (rs := [13]) (by kernel_rfl) (by simp) ?_
            refine AllReadyH.cons rfl (fun K hK => ?_) ?_
            · go_simp
              have kG := blk_alloc wd zcells 41
              have bb := (Below.refl wd.heap.size wd).alloc (Nat.le_refl _) (.cells zcells 41)
              have sG := bz.size
              generalize hG : wd.heap.size = G at kG sG ⊢
              replace ok5 := ok5.below bb
              replace bz := below_on bz bb bz.size
              clear bb hG
              generalize (wd.alloc (.cells zcells 41)) = we at *
              generalize we = wd at *
              refine hK.out _ _ trivial (fun hHeld => ?_)
              clear hK K
              try simp only [Act.put, List.setIfInBounds_toArray, List.set_cons_zero, List.set_cons_succ]
              refine wpAnyH_ready (rs := [14]) (by kernel_rfl) (by simp) ?_
              refine AllReadyH.cons rfl (fun K hK => ?_) ?_
              · have hk : Ia wd G Ix.nil := ⟨kG, Ix.nil_ok _⟩
                have ci0 := hk.c0
                have ci1 := hk.c1
                have ci2 := hk.c2
                have ci3 := hk.c3
                have ci4 := hk.c4
                have ci5 := hk.c5
                have af0 := hk.unf 0
                have af1 := hk.unf 1
                have af2 := hk.unf 2
                have af3 := hk.unf 3
                have af4 := hk.unf 4
                have af5 := hk.unf 5
                go_simp
                clear ci0 ci1 ci2 ci3 ci4 ci5 af0 af1 af2 af3 af4 af5
                have a5 := hk.put6 ok5
                have b5 := set6_below (v0 := .bool x5.lo.b) (v1 := .slice x5.lo.A x5.lo.xs.length x5.lo.c) (v2 := .slice x5.lo.D x5.lo.ys.length x5.lo.d) (v3 := .bool x5.hi.b) (v4 := .slice x5.hi.A x5.hi.xs.length x5.hi.c) (v5 := .slice x5.hi.D x5.hi.ys.length x5.hi.d) bz sG
                dsimp only [set6] at a5 b5
                clear bz hk kG ok5
                generalize (World.setCell (World.setCell (World.setCell (World.setCell (World.setCell (World.setCell wd ⟨G, 0, none⟩ (.bool x5.lo.b)) ⟨G, 1, none⟩ (.slice x5.lo.A x5.lo.xs.length x5.lo.c)) ⟨G, 2, none⟩ (.slice x5.lo.D x5.lo.ys.length x5.lo.d)) ⟨G, 3, none⟩ (.bool x5.hi.b)) ⟨G, 4, none⟩ (.slice x5.hi.A x5.hi.xs.length x5.hi.c)) ⟨G, 5, none⟩ (.slice x5.hi.D x5.hi.ys.length x5.hi.d)) = we at *
                have bz := b5
                clear b5
                generalize we = wd at *
                refine hK.out _ _ trivial (fun hHeld => ?_)
                clear hK K
                try simp only [Act.put, List.setIfInBounds_toArray, List.set_cons_zero, List.set_cons_succ]
                refine wpAnyH_ready (rs := [15]) (by kernel_rfl) (by simp) ?_
                refine AllReadyH.cons rfl (fun K hK => ?_) ?_
                · go_simp
                  refine hK.out _ _ trivial (fun hHeld => ?_)
                  clear hK K
                  try simp only [Act.put, List.setIfInBounds_toArray, List.set_cons_zero, List.set_cons_succ]
                  refine wpAnyH_done (by kernel_rfl) ?_ _
                  go_wp2_with fail
                  go_meet
                  case rel => exact ⟨G, x5, rfl, rfl, HS5.out, a5, bz⟩
                exact AllReadyH.nil
              exact AllReadyH.nil
            exact AllReadyH.nil
          refine AllReadyH.cons rfl (fun K hK => ?_) ?_
          · go_simp
            have kG := blk_alloc wd zcells 41
            have bb := (Below.refl wd.heap.size wd).alloc (Nat.le_refl _) (.cells zcells 41)
            have sG := bz.size
            generalize hG : wd.heap.size = G at kG sG ⊢
            have nG : some G ≠ A2.map (·.block) := fun e => by have := (fr.lt _ e.symm).2; omega
            replace fr := fr.below bb
            replace bz := below_on bz bb bz.size
            clear bb hG
            generalize (wd.alloc (.cells zcells 41)) = we at *
            generalize we = wd at *
            refine hK.out _ _ trivial (fun hHeld => ?_)
            clear hK K
            try simp only [Act.put, List.setIfInBounds_toArray, List.set_cons_zero, List.set_cons_succ]
            refine wpAnyH_ready (rs := [9]) (by kernel_rfl) (by simp) ?_
            refine AllReadyH.cons rfl (fun K hK => ?_) ?_
            · go_simp
              go_at_call 32
              refine (ihull_any wd A2 _ c2 (vs.drop m ++ vs.take m) S fr.rd (HOKT.out.below (below_on bw bz bw.size)) (by first | with_reducible exact HLEN2.out | with_reducible exact HLEN3.out | with_reducible exact HLEN.out) (by omega) HST.out).mono ?_
              rintro e wd ⟨x5, rfl, h1, h2, ok5, bb⟩
              have HS5 := Lib.hid (And.intro h1 h2)
              clear h1 h2 fr
              clear nG
              replace kG := kG.below bb
              replace bz := below_on bz bb bz.size
              clear bb
              try dsimp only
              refine hK.out _ _ trivial (fun hHeld => ?_)
              clear hK K
              try simp only [Act.put, List.setIfInBounds_toArray, List.set_cons_zero, List.set_cons_succ]
              refine wpAnyH_take (i := 10) (v := .tuple #[x5.val, .int .i64 S.2.2]) rfl (by kernel_rfl) (by kernel_rfl) (by kernel_rfl) (fun _ _ _ h => h) (Or.inl ⟨by rfl, ?_⟩) (by assumption) ?_
              · intro w hSw
                try dsimp only at hSw
                go_simp
                try first | with_reducible rfl | exact congrArg (fun z => Value.slice z (vs.length - m) (c - m)) hD
              try simp only [Act.put, List.setIfInBounds_toArray, List.set_cons_zero, List.set_cons_succ]
              refine wpAnyH_take (i := 11) (v := x5.val) rfl (by kernel_rfl) (by kernel_rfl) (by kernel_rfl) (fun _ _ _ h => h) (Or.inl ⟨by rfl, ?_⟩) (by assumption) ?_
              · intro w hSw
                try dsimp only at hSw
                go_simp
                try first | with_reducible rfl | exact congrArg (fun z => Value.slice z (vs.length - m) (c - m)) hD
              try simp only [Act.put, List.setIfInBounds_toArray, List.set_cons_zero, List.set_cons_succ]
              refine wpAnyH_take (i := 12) (v := .int .i64 S.2.2) rfl (by kernel_rfl) (by kernel_rfl) (by kernel_rfl) (fun _ _ _ h => h) (Or.inl ⟨by rfl, ?_⟩) (by assumption) ?_
              · intro w hSw
                try dsimp only at hSw
                go_simp
                try first | with_reducible rfl | exact congrArg (fun z => Value.slice z (vs.length - m) (c - m)) hD
              try simp only [Act.put, List.setIfInBounds_toArray, List.set_cons_zero, List.set_cons_succ]
              refine wpAnyH_ready (rs := [14]) (by kernel_rfl) (by simp) ?_
              refine AllReadyH.cons rfl (fun K hK => ?_) ?_
              · have hk : Ia wd G Ix.nil := ⟨kG, Ix.nil_ok _⟩
                have ci0 := hk.c0
                have ci1 := hk.c1
                have ci2 := hk.c2
                have ci3 := hk.c3
                have ci4 := hk.c4
                have ci5 := hk.c5
                have af0 := hk.unf 0
                have af1 := hk.unf 1
                have af2 := hk.unf 2
                have af3 := hk.unf 3
                have af4 := hk.unf 4
                have af5 := hk.unf 5
                go_simp
                clear ci0 ci1 ci2 ci3 ci4 ci5 af0 af1 af2 af3 af4 af5
                have a5 := hk.put6 ok5
                have b5 := set6_below (v0 := .bool x5.lo.b) (v1 := .slice x5.lo.A x5.lo.xs.length x5.lo.c) (v2 := .slice x5.lo.D x5.lo.ys.length x5.lo.d) (v3 := .bool x5.hi.b) (v4 := .slice x5.hi.A x5.hi.xs.length x5.hi.c) (v5 := .slice x5.hi.D x5.hi.ys.length x5.hi.d) bz sG
                dsimp only [set6] at a5 b5
                clear bz hk kG ok5
                generalize (World.setCell (World.setCell (World.setCell (World.setCell (World.setCell (World.setCell wd ⟨G, 0, none⟩ (.bool x5.lo.b)) ⟨G, 1, none⟩ (.slice x5.lo.A x5.lo.xs.length x5.lo.c)) ⟨G, 2, none⟩ (.slice x5.lo.D x5.lo.ys.length x5.lo.d)) ⟨G, 3, none⟩ (.bool x5.hi.b)) ⟨G, 4, none⟩ (.slice x5.hi.A x5.hi.xs.length x5.hi.c)) ⟨G, 5, none⟩ (.slice x5.hi.D x5.hi.ys.length x5.hi.d)) = we at *
                have bz := b5
                clear b5
                generalize we = wd at *
                refine hK.out _ _ trivial (fun hHeld => ?_)
                clear hK K
                try simp only [Act.put, List.setIfInBounds_toArray, List.set_cons_zero, List.set_cons_succ]
                refine wpAnyH_ready (rs := [15]) (by kernel_rfl) (by simp) ?_
                refine AllReadyH.cons rfl (fun K hK => ?_) ?_
                · go_simp
                  refine hK.out _ _ trivial (fun hHeld => ?_)
                  clear hK K
                  try simp only [Act.put, List.setIfInBounds_toArray, List.set_cons_zero, List.set_cons_succ]
                  refine wpAnyH_done (by kernel_rfl) ?_ _
                  go_wp2_with fail
                  go_meet
                  case rel => exact ⟨G, x5, rfl, rfl, HS5.out, a5, bz⟩
                exact AllReadyH.nil
              exact AllReadyH.nil
            exact AllReadyH.nil
          exact AllReadyH.nil
        refine AllReadyH.cons rfl (fun K hK => ?_) ?_
        · go_simp
          have kG := blk_alloc wd zcells 41
          have bb := (Below.refl wd.heap.size wd).alloc (Nat.le_refl _) (.cells zcells 41)
          have sG := bz.size
          generalize hG : wd.heap.size = G at kG sG ⊢
          have nG : some G ≠ A1.map (·.block) := fun e => by have := (fr.lt _ e.symm).2; omega
          replace fr := fr.below bb
          replace bz := below_on bz bb bz.size
          clear bb hG
          generalize (wd.alloc (.cells zcells 41)) = we at *
          generalize we = wd at *
          refine hK.out _ _ trivial (fun hHeld => ?_)
          clear hK K
          try simp only [Act.put, List.setIfInBounds_toArray, List.set_cons_zero, List.set_cons_succ]
          refine wpAnyH_ready (rs := [8]) (by kernel_rfl) (by simp) ?_
          refine AllReadyH.cons rfl (fun K hK => ?_) ?_
          · first | refine step_append_ivl wd rfl _ _ rfl rfl (B := wm.heap.size) (A := A1) (c := c1) (n := (0 + (vs.length - m))) (xs := vs.drop m) rfl (by rw [Nat.zero_add]; exact LD.out) fr A _ _ (vs.take m) rfl LT.out ((HRD.out.take m).below (below_on bw bz bw.size)) (by omega) bz.size ?_ | refine step_append_ivl wd rfl _ _ rfl rfl (B := wm.heap.size) (A := A1) (c := c1) (n := (vs.length - m)) (xs := vs.drop m) rfl LD.out fr A _ _ (vs.take m) rfl LT.out ((HRD.out.take m).below (below_on bw bz bw.size)) (by omega) bz.size ?_
            intro A2 c2 we fr1 bb1 gr1 at1
            have nG1 : some G ≠ A2.map (·.block) := by
              rcases at1 with h | h
              · rw [h]; exact nG
              · rw [h]; have := kG.lt; simp; omega
            replace kG := kG.grown gr1 nG
            clear nG
            have nG := nG1
            clear nG1
            replace bz := bz.trans bb1
            clear bb1 gr1 at1 fr
            have fr := fr1
            clear fr1
            generalize we = wd at *
            refine hK.out _ _ trivial (fun hHeld => ?_)
            clear hK K
            try simp only [Act.put, List.setIfInBounds_toArray, List.set_cons_zero, List.set_cons_succ]
            refine wpAnyH_ready (rs := [9]) (by kernel_rfl) (by simp) ?_
            refine AllReadyH.cons rfl (fun K hK => ?_) ?_
            · go_simp
              go_at_call 32
              refine (ihull_any wd A2 _ c2 (vs.drop m ++ vs.take m) S fr.rd (HOKT.out.below (below_on bw bz bw.size)) (by first | with_reducible exact HLEN2.out | with_reducible exact HLEN3.out | with_reducible exact HLEN.out) (by omega) HST.out).mono ?_
              rintro e wd ⟨x5, rfl, h1, h2, ok5, bb⟩
              have HS5 := Lib.hid (And.intro h1 h2)
              clear h1 h2 fr
              clear nG
              replace kG := kG.below bb
              replace bz := below_on bz bb bz.size
              clear bb
              try dsimp only
              refine hK.out _ _ trivial (fun hHeld => ?_)
              clear hK K
              try simp only [Act.put, List.setIfInBounds_toArray, List.set_cons_zero, List.set_cons_succ]
              refine wpAnyH_take (i := 10) (v := .tuple #[x5.val, .int .i64 S.2.2]) rfl (by kernel_rfl) (by kernel_rfl) (by kernel_rfl) (fun _ _ _ h => h) (Or.inl ⟨by rfl, ?_⟩) (by assumption) ?_
              · intro w hSw
                try dsimp only at hSw
                go_simp
                try first | with_reducible rfl | exact congrArg (fun z => Value.slice z (vs.length - m) (c - m)) hD
              try simp only [Act.put, List.setIfInBounds_toArray, List.set_cons_zero, List.set_cons_succ]
              refine wpAnyH_take (i := 11) (v := x5.val) rfl (by kernel_rfl) (by kernel_rfl) (by kernel_rfl) (fun _ _ _ h => h) (Or.inl ⟨by rfl, ?_⟩) (by assumption) ?_
              · intro w hSw
                try dsimp only at hSw
                go_simp
                try first | with_reducible rfl | exact congrArg (fun z => Value.slice z (vs.length - m) (c - m)) hD
              try simp only [Act.put, List.setIfInBounds_toArray, List.set_cons_zero, List.set_cons_succ]
              refine wpAnyH_take (i := 12) (v := .int .i64 S.2.2) rfl (by kernel_rfl) (by kernel_rfl) (by kernel_rfl) (fun _ _ _ h => h) (Or.inl ⟨by rfl, ?_⟩) (by assumption) ?_
              · intro w hSw
                try dsimp only at hSw
                go_simp
                try first | with_reducible rfl | exact congrArg (fun z => Value.slice z (vs.length - m) (c - m)) hD
              try simp only [Act.put, List.setIfInBounds_toArray, List.set_cons_zero, List.set_cons_succ]
              refine wpAnyH_ready (rs := [14]) (by kernel_rfl) (by simp) ?_
              refine AllReadyH.cons rfl (fun K hK => ?_) ?_
              · have hk : Ia wd G Ix.nil := ⟨kG, Ix.nil_ok _⟩
                have ci0 := hk.c0
                have ci1 := hk.c1
                have ci2 := hk.c2
                have ci3 := hk.c3
                have ci4 := hk.c4
                have ci5 := hk.c5
                have af0 := hk.unf 0
                have af1 := hk.unf 1
                have af2 := hk.unf 2
                have af3 := hk.unf 3
                have af4 := hk.unf 4
                have af5 := hk.unf 5
                go_simp
                clear ci0 ci1 ci2 ci3 ci4 ci5 af0 af1 af2 af3 af4 af5
                have a5 := hk.put6 ok5
                have b5 := set6_below (v0 := .bool x5.lo.b) (v1 := .slice x5.lo.A x5.lo.xs.length x5.lo.c) (v2 := .slice x5.lo.D x5.lo.ys.length x5.lo.d) (v3 := .bool x5.hi.b) (v4 := .slice x5.hi.A x5.hi.xs.length x5.hi.c) (v5 := .slice x5.hi.D x5.hi.ys.length x5.hi.d) bz sG
                dsimp only [set6] at a5 b5
                clear bz hk kG ok5
                generalize (World.setCell (World.setCell (World.setCell (World.setCell (World.setCell (World.setCell wd ⟨G, 0, none⟩ (.bool x5.lo.b)) ⟨G, 1, none⟩ (.slice x5.lo.A x5.lo.xs.length x5.lo.c)) ⟨G, 2, none⟩ (.slice x5.lo.D x5.lo.ys.length x5.lo.d)) ⟨G, 3, none⟩ (.bool x5.hi.b)) ⟨G, 4, none⟩ (.slice x5.hi.A x5.hi.xs.length x5.hi.c)) ⟨G, 5, none⟩ (.slice x5.hi.D x5.hi.ys.length x5.hi.d)) = we at *
                have bz := b5
                clear b5
                generalize we = wd at *
                refine hK.out _ _ trivial (fun hHeld => ?_)
                clear hK K
                try simp only [Act.put, List.setIfInBounds_toArray, List.set_cons_zero, List.set_cons_succ]
                refine wpAnyH_ready (rs := [15]) (by kernel_rfl) (by simp) ?_
                refine AllReadyH.cons rfl (fun K hK => ?_) ?_
                · go_simp
                  refine hK.out _ _ trivial (fun hHeld => ?_)
                  clear hK K
                  try simp only [Act.put, List.setIfInBounds_toArray, List.set_cons_zero, List.set_cons_succ]
                  refine wpAnyH_done (by kernel_rfl) ?_ _
                  go_wp2_with fail
                  go_meet
                  case rel => exact ⟨G, x5, rfl, rfl, HS5.out, a5, bz⟩
                exact AllReadyH.nil
              exact AllReadyH.nil
            exact AllReadyH.nil
          exact AllReadyH.nil
        exact AllReadyH.nil
      refine AllReadyH.cons rfl (fun K hK => ?_) ?_
      · go_simp
        have kG := blk_alloc wd zcells 41
        have bb := (Below.refl wd.heap.size wd).alloc (Nat.le_refl _) (.cells zcells 41)
        have sG := bz.size
        generalize hG : wd.heap.size = G at kG sG ⊢
        have nG : some G ≠ Option.map (·.block) (some (⟨gL, 0, none⟩ : Addr)) := fun e => by have := (fr.lt _ e.symm).2; omega
        replace fr := fr.below bb
        replace bz := below_on bz bb bz.size
        clear bb hG
        generalize (wd.alloc (.cells zcells 41)) = we at *
        generalize we = wd at *
        refine hK.out _ _ trivial (fun hHeld => ?_)
        clear hK K
        try simp only [Act.put, List.setIfInBounds_toArray, List.set_cons_zero, List.set_cons_succ]
        refine wpAnyH_ready (rs := [4]) (by kernel_rfl) (by simp) ?_
        refine AllReadyH.cons rfl (fun K hK => ?_) ?_
        · refine step_append_ivl wd rfl _ _ rfl rfl (B := wm.heap.size) (A := (some ⟨gL, 0, none⟩)) (c := 0) (n := 0) (xs := []) rfl rfl fr D _ _ (vs.drop m) rfl LD.out ((HRDD.out).below (below_on bw bz bw.size)) (by omega) bz.size ?_
          intro A1 c1 we fr1 bb1 gr1 at1
          have nG1 : some G ≠ A1.map (·.block) := by
            rcases at1 with h | h
            · rw [h]; exact nG
            · rw [h]; have := kG.lt; simp; omega
          replace kG := kG.grown gr1 nG
          clear nG
          have nG := nG1
          clear nG1
          replace bz := bz.trans bb1
          clear bb1 gr1 at1 fr
          have fr := fr1
          clear fr1
          generalize we = wd at *
          refine hK.out _ _ trivial (fun hHeld => ?_)
          clear hK K
          try simp only [Act.put, List.setIfInBounds_toArray, List.set_cons_zero, List.set_cons_succ]
          refine wpAnyH_ready (rs := [8]) (by kernel_rfl) (by simp) ?_
          refine AllReadyH.cons rfl (fun K hK => ?_) ?_
          · first | refine step_append_ivl wd rfl _ _ rfl rfl (B := wm.heap.size) (A := A1) (c := c1) (n := (0 + (vs.length - m))) (xs := vs.drop m) rfl (by rw [Nat.zero_add]; exact LD.out) fr A _ _ (vs.take m) rfl LT.out ((HRD.out.take m).below (below_on bw bz bw.size)) (by omega) bz.size ?_ | refine step_append_ivl wd rfl _ _ rfl rfl (B := wm.heap.size) (A := A1) (c := c1) (n := (vs.length - m)) (xs := vs.drop m) rfl LD.out fr A _ _ (vs.take m) rfl LT.out ((HRD.out.take m).below (below_on bw bz bw.size)) (by omega) bz.size ?_
            intro A2 c2 we fr1 bb1 gr1 at1
            have nG1 : some G ≠ A2.map (·.block) := by
              rcases at1 with h | h
              · rw [h]; exact nG
              · rw [h]; have := kG.lt; simp; omega
            replace kG := kG.grown gr1 nG
            clear nG
            have nG := nG1
            clear nG1
            replace bz := bz.trans bb1
            clear bb1 gr1 at1 fr
            have fr := fr1
            clear fr1
            generalize we = wd at *
            refine hK.out _ _ trivial (fun hHeld => ?_)
            clear hK K
            try simp only [Act.put, List.setIfInBounds_toArray, List.set_cons_zero, List.set_cons_succ]
            refine wpAnyH_ready (rs := [9]) (by kernel_rfl) (by simp) ?_
            refine AllReadyH.cons rfl (fun K hK => ?_) ?_
            · go_simp
              go_at_call 32
              refine (ihull_any wd A2 _ c2 (vs.drop m ++ vs.take m) S fr.rd (HOKT.out.below (below_on bw bz bw.size)) (by first | with_reducible exact HLEN2.out | with_reducible exact HLEN3.out | with_reducible exact HLEN.out) (by omega) HST.out).mono ?_
              rintro e wd ⟨x5, rfl, h1, h2, ok5, bb⟩
              have HS5 := Lib.hid (And.intro h1 h2)
              clear h1 h2 fr
              clear nG
              replace kG := kG.below bb
              replace bz := below_on bz bb bz.size
              clear bb
              try dsimp only
              refine hK.out _ _ trivial (fun hHeld => ?_)
              clear hK K
              try simp only [Act.put, List.setIfInBounds_toArray, List.set_cons_zero, List.set_cons_succ]
              refine wpAnyH_take (i := 10) (v := .tuple #[x5.val, .int .i64 S.2.2]) rfl (by kernel_rfl) (by kernel_rfl) (by kernel_rfl) (fun _ _ _ h => h) (Or.inl ⟨by rfl, ?_⟩) (by assumption) ?_
              · intro w hSw
                try dsimp only at hSw
                go_simp
                try first | with_reducible rfl | exact congrArg (fun z => Value.slice z (vs.length - m) (c - m)) hD
              try simp only [Act.put, List.setIfInBounds_toArray, List.set_cons_zero, List.set_cons_succ]
              refine wpAnyH_take (i := 11) (v := x5.val) rfl (by kernel_rfl) (by kernel_rfl) (by kernel_rfl) (fun _ _ _ h => h) (Or.inl ⟨by rfl, ?_⟩) (by assumption) ?_
              · intro w hSw
                try dsimp only at hSw
                go_simp
                try first | with_reducible rfl | exact congrArg (fun z => Value.slice z (vs.length - m) (c - m)) hD
              try simp only [Act.put, List.setIfInBounds_toArray, List.set_cons_zero, List.set_cons_succ]
              refine wpAnyH_take (i := 12) (v := .int .i64 S.2.2) rfl (by kernel_rfl) (by kernel_rfl) (by kernel_rfl) (fun _ _ _ h => h) (Or.inl ⟨by rfl, ?_⟩) (by assumption) ?_
              · intro w hSw
                try dsimp only at hSw
                go_simp
                try first | with_reducible rfl | exact congrArg (fun z => Value.slice z (vs.length - m) (c - m)) hD
              try simp only [Act.put, List.setIfInBounds_toArray, List.set_cons_zero, List.set_cons_succ]
              refine wpAnyH_ready (rs := [14]) (by kernel_rfl) (by simp) ?_
              refine AllReadyH.cons rfl (fun K hK => ?_) ?_
              · have hk : Ia wd G Ix.nil := ⟨kG, Ix.nil_ok _⟩
                have ci0 := hk.c0
                have ci1 := hk.c1
                have ci2 := hk.c2
                have ci3 := hk.c3
                have ci4 := hk.c4
                have ci5 := hk.c5
                have af0 := hk.unf 0
                have af1 := hk.unf 1
                have af2 := hk.unf 2
                have af3 := hk.unf 3
                have af4 := hk.unf 4
                have af5 := hk.unf 5
                go_simp
                clear ci0 ci1 ci2 ci3 ci4 ci5 af0 af1 af2 af3 af4 af5
                have a5 := hk.put6 ok5
                have b5 := set6_below (v0 := .bool x5.lo.b) (v1 := .slice x5.lo.A x5.lo.xs.length x5.lo.c) (v2 := .slice x5.lo.D x5.lo.ys.length x5.lo.d) (v3 := .bool x5.hi.b) (v4 := .slice x5.hi.A x5.hi.xs.length x5.hi.c) (v5 := .slice x5.hi.D x5.hi.ys.length x5.hi.d) bz sG
                dsimp only [set6] at a5 b5
                clear bz hk kG ok5
                generalize (World.setCell (World.setCell (World.setCell (World.setCell (World.setCell (World.setCell wd ⟨G, 0, none⟩ (.bool x5.lo.b)) ⟨G, 1, none⟩ (.slice x5.lo.A x5.lo.xs.length x5.lo.c)) ⟨G, 2, none⟩ (.slice x5.lo.D x5.lo.ys.length x5.lo.d)) ⟨G, 3, none⟩ (.bool x5.hi.b)) ⟨G, 4, none⟩ (.slice x5.hi.A x5.hi.xs.length x5.hi.c)) ⟨G, 5, none⟩ (.slice x5.hi.D x5.hi.ys.length x5.hi.d)) = we at *
                have bz := b5
                clear b5
                generalize we = wd at *
                refine hK.out _ _ trivial (fun hHeld => ?_)
                clear hK K
                try simp only [Act.put, List.setIfInBounds_toArray, List.set_cons_zero, List.set_cons_succ]
                refine wpAnyH_ready (rs := [15]) (by kernel_rfl) (by simp) ?_
                refine AllReadyH.cons rfl (fun K hK => ?_) ?_
                · go_simp
                  refine hK.out _ _ trivial (fun hHeld => ?_)
                  clear hK K
                  try simp only [Act.put, List.setIfInBounds_toArray, List.set_cons_zero, List.set_cons_succ]
                  refine wpAnyH_done (by kernel_rfl) ?_ _
                  go_wp2_with fail
                  go_meet
                  case rel => exact ⟨G, x5, rfl, rfl, HS5.out, a5, bz⟩
                exact AllReadyH.nil
              exact AllReadyH.nil
            exact AllReadyH.nil
          exact AllReadyH.nil
        exact AllReadyH.nil
      exact AllReadyH.nil
    refine AllReadyH.cons rfl (fun K hK => ?_) ?_
    · go_simp
      have kG := blk_alloc wd zcells 41
      have bb := (Below.refl wd.heap.size wd).alloc (Nat.le_refl _) (.cells zcells 41)
      have sG := bz.size
      generalize hG : wd.heap.size = G at kG sG ⊢
      replace bz := below_on bz bb bz.size
      clear bb hG
      generalize (wd.alloc (.cells zcells 41)) = we at *
      generalize we = wd at *
      refine hK.out _ _ trivial (fun hHeld => ?_)
      clear hK K
      try simp only [Act.put, List.setIfInBounds_toArray, List.set_cons_zero, List.set_cons_succ]
      refine wpAnyH_ready (rs := [0]) (by kernel_rfl) (by simp) ?_
      refine AllReadyH.cons rfl (fun K hK => ?_) ?_
      · go_simp
        have fr := ir_lit wd wm.heap.size bz.size
        have bb := (Below.refl wd.heap.size wd).alloc (Nat.le_refl _) (.cells #[] 41)
        generalize hL : wd.heap.size = gL at fr ⊢
        have nG : some G ≠ Option.map (·.block) (some (⟨gL, 0, none⟩ : Addr)) := by have := kG.lt; simp; omega
        replace kG := kG.below bb
        replace bz := below_on bz bb bz.size
        clear bb hL
        generalize (wd.alloc (.cells #[] 41)) = we at *
        generalize we = wd at *
        refine hK.out _ _ trivial (fun hHeld => ?_)
        clear hK K
        try simp only [Act.put, List.setIfInBounds_toArray, List.set_cons_zero, List.set_cons_succ]
        refine wpAnyH_ready (rs := [4]) (by kernel_rfl) (by simp) ?_
        refine AllReadyH.cons rfl (fun K hK => ?_) ?_
        · refine step_append_ivl wd rfl _ _ rfl rfl (B := wm.heap.size) (A := (some ⟨gL, 0, none⟩)) (c := 0) (n := 0) (xs := []) rfl rfl fr D _ _ (vs.drop m) rfl LD.out ((HRDD.out).below (below_on bw bz bw.size)) (by omega) bz.size ?_
          intro A1 c1 we fr1 bb1 gr1 at1
          have nG1 : some G ≠ A1.map (·.block) := by
            rcases at1 with h | h
            · rw [h]; exact nG
            · rw [h]; have := kG.lt; simp; omega
          replace kG := kG.grown gr1 nG
          clear nG
          have nG := nG1
          clear nG1
          replace bz := bz.trans bb1
          clear bb1 gr1 at1 fr
          have fr := fr1
          clear fr1
          generalize we = wd at *
          refine hK.out _ _ trivial (fun hHeld => ?_)
          clear hK K
          try simp only [Act.put, List.setIfInBounds_toArray, List.set_cons_zero, List.set_cons_succ]
          refine wpAnyH_ready (rs := [8]) (by kernel_rfl) (by simp) ?_
          refine AllReadyH.cons rfl (fun K hK => ?_) ?_
          · first | refine step_append_ivl wd rfl _ _ rfl rfl (B := wm.heap.size) (A := A1) (c := c1) (n := (0 + (vs.length - m))) (xs := vs.drop m) rfl (by rw [Nat.zero_add]; exact LD.out) fr A _ _ (vs.take m) rfl LT.out ((HRD.out.take m).below (below_on bw bz bw.size)) (by omega) bz.size ?_ | refine step_append_ivl wd rfl _ _ rfl rfl (B := wm.heap.size) (A := A1) (c := c1) (n := (vs.length - m)) (xs := vs.drop m) rfl LD.out fr A _ _ (vs.take m) rfl LT.out ((HRD.out.take m).below (below_on bw bz bw.size)) (by omega) bz.size ?_
            intro A2 c2 we fr1 bb1 gr1 at1
            have nG1 : some G ≠ A2.map (·.block) := by
              rcases at1 with h | h
              · rw [h]; exact nG
              · rw [h]; have := kG.lt; simp; omega
            replace kG := kG.grown gr1 nG
            clear nG
            have nG := nG1
            clear nG1
            replace bz := bz.trans bb1
            clear bb1 gr1 at1 fr
            have fr := fr1
            clear fr1
            generalize we = wd at *
            refine hK.out _ _ trivial (fun hHeld => ?_)
            clear hK K
            try simp only [Act.put, List.setIfInBounds_toArray, List.set_cons_zero, List.set_cons_succ]
            refine wpAnyH_ready (rs := [9]) (by kernel_rfl) (by simp) ?_
            refine AllReadyH.cons rfl (fun K hK => ?_) ?_
            · go_simp
              go_at_call 32
              refine (ihull_any wd A2 _ c2 (vs.drop m ++ vs.take m) S fr.rd (HOKT.out.below (below_on bw bz bw.size)) (by first | with_reducible exact HLEN2.out | with_reducible exact HLEN3.out | with_reducible exact HLEN.out) (by omega) HST.out).mono ?_
              rintro e wd ⟨x5, rfl, h1, h2, ok5, bb⟩
              have HS5 := Lib.hid (And.intro h1 h2)
              clear h1 h2 fr
              clear nG
              replace kG := kG.below bb
              replace bz := below_on bz bb bz.size
              clear bb
              try dsimp only
              refine hK.out _ _ trivial (fun hHeld => ?_)
              clear hK K
              try simp only [Act.put, List.setIfInBounds_toArray, List.set_cons_zero, List.set_cons_succ]
              refine wpAnyH_take (i := 10) (v := .tuple #[x5.val, .int .i64 S.2.2]) rfl (by kernel_rfl) (by kernel_rfl) (by kernel_rfl) (fun _ _ _ h => h) (Or.inl ⟨by rfl, ?_⟩) (by assumption) ?_
              · intro w hSw
                try dsimp only at hSw
                go_simp
                try first | with_reducible rfl | exact congrArg (fun z => Value.slice z (vs.length - m) (c - m)) hD
              try simp only [Act.put, List.setIfInBounds_toArray, List.set_cons_zero, List.set_cons_succ]
              refine wpAnyH_take (i := 11) (v := x5.val) rfl (by kernel_rfl) (by kernel_rfl) (by kernel_rfl) (fun _ _ _ h => h) (Or.inl ⟨by rfl, ?_⟩) (by assumption) ?_
              · intro w hSw
                try dsimp only at hSw
                go_simp
                try first | with_reducible rfl | exact congrArg (fun z => Value.slice z (vs.length - m) (c - m)) hD
              try simp only [Act.put, List.setIfInBounds_toArray, List.set_cons_zero, List.set_cons_succ]
              refine wpAnyH_take (i := 12) (v := .int .i64 S.2.2) rfl (by kernel_rfl) (by kernel_rfl) (by kernel_rfl) (fun _ _ _ h => h) (Or.inl ⟨by rfl, ?_⟩) (by assumption) ?_
              · intro w hSw
                try dsimp only at hSw
                go_simp
                try first | with_reducible rfl | exact congrArg (fun z => Value.slice z (vs.length - m) (c - m)) hD
              try simp only [Act.put, List.setIfInBounds_toArray, List.set_cons_zero, List.set_cons_succ]
              refine wpAnyH_ready (rs := [14]) (by kernel_rfl) (by simp) ?_
              refine AllReadyH.cons rfl (fun K hK => ?_) ?_
              · have hk : Ia wd G Ix.nil := ⟨kG, Ix.nil_ok _⟩
                have ci0 := hk.c0
                have ci1 := hk.c1
                have ci2 := hk.c2
                have ci3 := hk.c3
                have ci4 := hk.c4
                have ci5 := hk.c5
                have af0 := hk.unf 0
                have af1 := hk.unf 1
                have af2 := hk.unf 2
                have af3 := hk.unf 3
                have af4 := hk.unf 4
                have af5 := hk.unf 5
                go_simp
                clear ci0 ci1 ci2 ci3 ci4 ci5 af0 af1 af2 af3 af4 af5
                have a5 := hk.put6 ok5
                have b5 := set6_below (v0 := .bool x5.lo.b) (v1 := .slice x5.lo.A x5.lo.xs.length x5.lo.c) (v2 := .slice x5.lo.D x5.lo.ys.length x5.lo.d) (v3 := .bool x5.hi.b) (v4 := .slice x5.hi.A x5.hi.xs.length x5.hi.c) (v5 := .slice x5.hi.D x5.hi.ys.length x5.hi.d) bz sG
                dsimp only [set6] at a5 b5
                clear bz hk kG ok5
                generalize (World.setCell (World.setCell (World.setCell (World.setCell (World.setCell (World.setCell wd ⟨G, 0, none⟩ (.bool x5.lo.b)) ⟨G, 1, none⟩ (.slice x5.lo.A x5.lo.xs.length x5.lo.c)) ⟨G, 2, none⟩ (.slice x5.lo.D x5.lo.ys.length x5.lo.d)) ⟨G, 3, none⟩ (.bool x5.hi.b)) ⟨G, 4, none⟩ (.slice x5.hi.A x5.hi.xs.length x5.hi.c)) ⟨G, 5, none⟩ (.slice x5.hi.D x5.hi.ys.length x5.hi.d)) = we at *
                have bz := b5
                clear b5
                generalize we = wd at *
                refine hK.out _ _ trivial (fun hHeld => ?_)
                clear hK K
                try simp only [Act.put, List.setIfInBounds_toArray, List.set_cons_zero, List.set_cons_succ]
                refine wpAnyH_ready (rs := [15]) (by kernel_rfl) (by simp) ?_
                refine AllReadyH.cons rfl (fun K hK => ?_) ?_
                · go_simp
                  refine hK.out _ _ trivial (fun hHeld => ?_)
                  clear hK K
                  try simp only [Act.put, List.setIfInBounds_toArray, List.set_cons_zero, List.set_cons_succ]
                  refine wpAnyH_done (by kernel_rfl) ?_ _
                  go_wp2_with fail
                  go_meet
                  case rel => exact ⟨G, x5, rfl, rfl, HS5.out, a5, bz⟩
                exact AllReadyH.nil
              exact AllReadyH.nil
            exact AllReadyH.nil
          exact AllReadyH.nil
        exact AllReadyH.nil
      exact AllReadyH.nil
    exact AllReadyH.nil
    --REG}
  case rest =>
    obtain ⟨G, x5, rfl, rfl, hs5, a5, bz⟩ := hcut
    have HS5 := Lib.hid hs5
    clear hs5
    try replace a3 := a3.below bz
    try replace a4 := a4.below bz
    try replace a5 := a5.below bz
    replace bw := below_on bw bz bw.size
    clear bz
    have ci0 := a5.c0
    have ci1 := a5.c1
    have ci2 := a5.c2
    have ci3 := a5.c3
    have ci4 := a5.c4
    have ci5 := a5.c5
    have cj0 := a3.c0
    have cj1 := a3.c1
    have cj2 := a3.c2
    have cj3 := a3.c3
    have cj4 := a3.c4
    have cj5 := a3.c5
    go_wp2_with fail
    clear ci0 ci1 ci2 ci3 ci4 ci5
    clear cj0 cj1 cj2 cj3 cj4 cj5
    refine (samei_any _ x5 x3 a5.ok a3.ok (SmI.of HS5.out.1 HS5.out.2 HS3.out.1 HS3.out.2)).mono ?_
    rintro e wn ⟨rfl, bb⟩
    try replace a3 := a3.below bb
    try replace a4 := a4.below bb
    try replace a5 := a5.below bb
    replace bw := below_on bw bb bw.size
    clear bb
    go_wp2_with fail
    refine (awakei_any _).mono ?_
    rintro e wn ⟨rfl, bb⟩
    try replace a3 := a3.below bb
    try replace a4 := a4.below bb
    try replace a5 := a5.below bb
    replace bw := below_on bw bb bw.size
    clear bb
    go_wp2_with fail
    go_ret
    exact ⟨rfl, bw⟩
set_option maxRecDepth 100000 in
theorem ihulls_walk (w : World) (A : Option Addr) (c : Nat) (vs : List Ix) (a : Int) (hrd : RdI w A vs) (hcc : vs.length ≤ c) (hcm : c ≤ maxLen) (hok : ∀ v ∈ vs, v.ok w) (wf1 : (Lit.int IntKind.u8 a).wf = true) :
    Calls Try.prog 6 #[.slice A vs.length c, .int .u8 a] w fun e w' => e = .returned (.bool true) ∧ Below w.heap.size w w' := by
  have b1 : 0 ≤ a ∧ a ≤ 255 := by simp [Lit.wf, IntKind.min, IntKind.max, IntKind.signed, IntKind.bits] at wf1; omega
  obtain ⟨n, rfl⟩ : ∃ n : Nat, a = (n : Int) := ⟨a.toNat, by omega⟩
  have hl : ∀ v ∈ vs, v.len := fun v hv => (hok v hv).len
  rcases Nat.lt_or_ge 10 vs.length with h | h
  · exact ihulls_many w A vs.length c n h (by omega)
  · cases hlo : longI vs
    · exact ihulls_main w A vs.length c n vs rfl h (by omega) hcc hcm hrd (fun v hv => ⟨hok v hv, (longI_all hlo v hv).few⟩) hl hlo
    · exact ihulls_long w A vs.length c n vs rfl h hrd hl hlo
end Go.Proofs.Ytlcolmifmhdboaa
