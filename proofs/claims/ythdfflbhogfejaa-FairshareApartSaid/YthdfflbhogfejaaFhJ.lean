/- The walks of the reference's Less, Uses, SameRates. -/
import Derived.Test.YthdfflbhogfejaaRaT
namespace Go.Proofs.Ythdfflbhogfejaa
open Go.RowKit

set_option maxRecDepth 100000 in
set_option maxHeartbeats 1600000 in
theorem rless_any (w : World) (x y : Fx) (p q : Rat) (b : Bool) (hx : Nm w x p) (hy : Nm w y q) (hb : decide (p < q) = b) :
    Calls Try.prog 33 #[x.val, y.val] w fun e w' => e = .returned (.bool b) ∧ Below w.heap.size w w' := by
  obtain ⟨z, hz⟩ : ∃ z, cmpQ p q = z := ⟨_, rfl⟩
  have HS := Lib.hid (cmpF_ok hx.v hy.v hx.q hy.q hz)
  have HB : Hid (decide (z < 0) = b) := Lib.hid (by
    rw [← hb, ← hz, decide_eq_decide]
    rcases cmpQ_cases p q with ⟨h1, h2⟩ | ⟨h1, h2⟩ | ⟨h1, h2⟩
    · rw [h2]; exact ⟨fun _ => h1, fun _ => by omega⟩
    · rw [h2]; exact ⟨fun h => by omega, fun h => by grind⟩
    · rw [h2]; exact ⟨fun h => by omega, fun h => by grind⟩)
  have l1 := hx.l
  have l2 := hx.m
  have m1 := hy.l
  have m2 := hy.m
  replace hx := hx.ok
  replace hy := hy.ok
  clear hz hb
  go_enter Try.func33, Try.ntmps33
  go_upto_region 1 with fail
  have b0 := (Below.refl w.heap.size w).alloc (Nat.le_refl _) (.cells x.cells 41)
  have bx := bk3_alloc w (.bool x.b) (.slice x.A x.xs.length x.c) (.slice x.D x.ys.length x.d)
  have okx := hx.below b0
  have oky := hy.below b0
  have sz0 := size_box w (.cells x.cells 41)
  have bw := b0
  clear b0
  generalize (w.alloc (.cells x.cells 41)) = wa at bx okx oky sz0 bw ⊢
  have b1 := (Below.refl wa.heap.size wa).alloc (Nat.le_refl _) (.cells y.cells 41)
  have by_ := bk3_alloc wa (.bool y.b) (.slice y.A y.xs.length y.c) (.slice y.D y.ys.length y.d)
  rw [sz0] at by_
  replace bx := bx.below b1
  replace okx := okx.below b1
  replace oky := oky.below b1
  replace bw := below_on bw b1 bw.size
  clear b1 sz0
  generalize (wa.alloc (.cells y.cells 41)) = w1 at bx by_ okx oky bw ⊢
  have tx := bx
  obtain ⟨x0, x1, x2, xf0, xf1, xf2, xlt, xb⟩ := tx
  clear xb
  have ty := by_
  obtain ⟨y0, y1, y2, yf0, yf1, yf2, ylt, yb⟩ := ty
  clear yb
  go_wp2_with fail
  clear x0 x1 x2 xf0 xf1 xf2 xlt
  clear y0 y1 y2 yf0 yf1 yf2 ylt
  refine (rfcmp_any w1 x y _ okx oky l1 l2 m1 m2 HS.out).mono ?_
  rintro e wn ⟨rfl, bb⟩
  replace bw := below_on bw bb bw.size
  go_wp2_with fail
  go_ret
  exact ⟨ret_bool HB.out, bw⟩
set_option maxRecDepth 100000 in
set_option maxHeartbeats 1600000 in
theorem ruses_any (w : World) (x : Fm) (link : Int) (b : Bool) (hx : x.ok w) (hb : decide (link ∈ x.ls) = b) :
    Calls Try.prog 69 #[x.val, .int .i64 link] w fun e w' => e = .returned (.bool b) ∧ Below w.heap.size w w' := by
  have HB := Lib.hid hb
  have hxl := hx.is.len
  clear hb
  go_enter Try.func69, Try.ntmps69
  go_upto_region 1 with fail
  have fb := (fb_alloc w x 48).1
  have bb := (fb_alloc w x 48).2
  have HIS := Lib.hid (hx.below bb).is
  clear hx
  generalize (w.alloc (.cells #[.slice x.A x.ls.length x.c, .int .i64 x.m] 48)) = wm at fb bb HIS ⊢
  have fc0 := fb.c0
  go_wp2_with fail
  go_loop [5] (fun i => ∃ k : Nat, k ≤ x.ls.length ∧ i = .int .i64 k ∧ ¬ link ∈ x.ls.take k) (fun i => x.ls.length - (intOf i).toNat)
  case atStart => exact ⟨0, by omega, rfl, by simp⟩
  case round =>
    obtain ⟨k, hk, rfl, ha⟩ := hrel
    have HV := Lib.hid ha
    clear ha
    by_cases hlt : k < x.ls.length
    · obtain ⟨ax, hax, _, hc0⟩ := HIS.out.at k hlt
      have HTK := Lib.hid (List.take_succ_eq_append_getElem hlt)
      have HM := Lib.hid (List.getElem_mem hlt)
      have hcap := HIS.out.cap
      obtain ⟨v, hv⟩ : ∃ v, x.ls[k] = v := ⟨_, rfl⟩
      rw [hv] at hc0 HTK HM
      clear hv
      rw [hax] at fc0
      by_cases he : v = link
      · have he1 : (v == link) = true := by simp [he]
        have HBB : Hid (b = true) := Lib.hid (by rw [← HB.out]; exact decide_eq_true (by rw [← he]; exact HM.out))
        clear he
        go_wp2_with fail
        go_ret
        exact ⟨ret_bool HBB.out.symm, bb⟩
      · have he1 : (v == link) = false := beq_eq_false_iff_ne.2 he
        have HE : Hid (¬ v = link) := he
        clear he
        go_wp2_with fail
        go_round
        case rel => exact ⟨k + 1, by omega, by go_num, by rw [HTK.out]; simp; exact ⟨HV.out, fun e => HE.out e.symm⟩⟩
        case measure => simp [intOf]; omega
    · have HBB : Hid (b = false) := Lib.hid (by rw [← HB.out]; exact decide_eq_false (by have := HV.out; rwa [List.take_of_length_le (by omega)] at this))
      go_wp2_with fail
      go_ret
      exact ⟨ret_bool HBB.out.symm, bb⟩
set_option maxRecDepth 100000 in
set_option maxHeartbeats 1600000 in
theorem samerates_any (w : World) (A : Option Addr) (n c : Nat) (vs : List Fx) (D : Option Addr) (m d : Nat) (us : List Fx) (R : List Rat) (hA : RdF w A vs) (hD : RdF w D us) (hoA : ∀ v ∈ vs, v.ok w) (hoD : ∀ v ∈ us, v.ok w) (hn : n = vs.length) (hm : m = us.length) (hl : vs.length = us.length) (h10 : vs.length ≤ 1000)
    (rA : ∀ i (h : i < vs.length), Rp vs[i] (R.getD i 0)) (rD : ∀ i (h : i < us.length), Rp us[i] (R.getD i 0)) :
    Calls Try.prog 27 #[.slice A n c, .slice D m d] w fun e w' => e = .returned (.bool true) ∧ Below w.heap.size w w' := by
  have HA := Lib.hid hA
  have HD := Lib.hid hD
  have HOA := Lib.hid hoA
  have HOD := Lib.hid hoD
  have HRA := Lib.hid rA
  have HRD := Lib.hid rD
  have HL := Lib.hid hl
  have t1 : ((vs.length : Int) != (us.length : Int)) = false := by simp [hl]
  clear hA hD hoA hoD rA rD hl
  subst hn hm
  go_enter Try.func27, Try.ntmps27
  go_wp2_with fail
  go_loopw [5] (fun i wr => ∃ k : Nat, k ≤ vs.length ∧ i = .int .i64 k ∧ Below w.heap.size w wr) (fun i _ => vs.length - (intOf i).toNat)
  case atStart => exact ⟨0, by omega, rfl, Below.refl _ _⟩
  case round =>
    obtain ⟨k, hk, rfl, bw⟩ := hrel
    by_cases hlt : k < vs.length
    · have hlt2 : k < us.length := by have := HL.out; omega
      obtain ⟨ad1, rfl, e1⟩ := (HA.out.below bw).at k hlt
      obtain ⟨ad2, rfl, e2⟩ := (HD.out.below bw).at k hlt2
      have r1 := HRA.out k hlt
      have r2 := HRD.out k hlt2
      have o1 := (HOA.out _ (List.getElem_mem hlt)).below bw
      have o2 := (HOD.out _ (List.getElem_mem hlt2)).below bw
      obtain ⟨x1, hx1⟩ : ∃ x1, vs[k] = x1 := ⟨_, rfl⟩
      obtain ⟨x2, hx2⟩ : ∃ x2, us[k] = x2 := ⟨_, rfl⟩
      rw [hx1] at e1 r1 o1
      rw [hx2] at e2 r2 o2
      have E1 := Lib.hid e1
      have E2 := Lib.hid e2
      have O1 := Lib.hid o1
      have O2 := Lib.hid o2
      have HSB := Lib.hid (decide_eq_true (r1.same r2))
      clear e1 e2 o1 o2 r1 r2 hx1 hx2
      go_upto_region 6 with fail
      --REG{
      refine wp_region_held_drew (S := fun w' => (w'.cell? (ad1.add (k * 3)) = some (.bool x1.b) ∧ w'.cell? ⟨(ad1.add (k * 3)).block, (ad1.add (k * 3)).off + 1, none⟩ = some (.slice x1.A x1.xs.length x1.c) ∧ w'.cell? ⟨(ad1.add (k * 3)).block, (ad1.add (k * 3)).off + 2, none⟩ = some (.slice x1.D x1.ys.length x1.d)) ∧ (w'.cell? (ad2.add (k * 3)) = some (.bool x2.b) ∧ w'.cell? ⟨(ad2.add (k * 3)).block, (ad2.add (k * 3)).off + 1, none⟩ = some (.slice x2.A x2.xs.length x2.c) ∧ w'.cell? ⟨(ad2.add (k * 3)).block, (ad2.add (k * 3)).off + 2, none⟩ = some (.slice x2.D x2.ys.length x2.d))) (by kernel_rfl) ⟨⟨(E1.out.below ((Below.refl wr.heap.size wr).drew)).c0, (E1.out.below ((Below.refl wr.heap.size wr).drew)).c1, (E1.out.below ((Below.refl wr.heap.size wr).drew)).c2⟩, (E2.out.below ((Below.refl wr.heap.size wr).drew)).c0, (E2.out.below ((Below.refl wr.heap.size wr).drew)).c1, (E2.out.below ((Below.refl wr.heap.size wr).drew)).c2⟩ (fun hHeld => ?_)
      have bz := (Below.refl wr.heap.size wr).drew
      generalize wr.drew = wd at *
      refine wpAnyH_take (i := 0) (v := .slice (some ad1) vs.length c) rfl (by kernel_rfl) (by kernel_rfl) (by kernel_rfl) (fun _ _ _ h => h) (Or.inl ⟨by rfl, ?_⟩) (by assumption) ?_
      · intro w hSw
        try dsimp only at hSw
        go_simp
        try with_reducible rfl
      try simp only [Act.put, List.getElem_toArray, List.getElem_cons_zero, List.setIfInBounds_toArray, List.set_cons_zero, List.set_cons_succ]
      refine wpAnyH_take (i := 1) (v := .int .i64 (k : Int)) rfl (by kernel_rfl) (by kernel_rfl) (by kernel_rfl) (fun _ _ _ h => h) (Or.inl ⟨by rfl, ?_⟩) (by assumption) ?_
      · intro w hSw
        try dsimp only at hSw
        go_simp
        try with_reducible rfl
      try simp only [Act.put, List.getElem_toArray, List.getElem_cons_zero, List.getElem_cons_succ, List.setIfInBounds_toArray, List.set_cons_zero, List.set_cons_succ]
      refine wpAnyH_take (i := 2) (v := .pointer (some (ad1.add (k * 3)))) rfl (by kernel_rfl) (by kernel_rfl) (by kernel_rfl) (fun _ _ _ h => h) (Or.inl ⟨by rfl, ?_⟩) (by assumption) ?_
      · intro w hSw
        try dsimp only at hSw
        go_simp
        try with_reducible rfl
      try simp only [Act.put, List.getElem_toArray, List.getElem_cons_zero, List.getElem_cons_succ, List.setIfInBounds_toArray, List.set_cons_zero, List.set_cons_succ]
      refine wpAnyH_take (i := 3) (v := x1.val) rfl (by kernel_rfl) (by kernel_rfl) (by kernel_rfl) (fun _ _ _ h => h) (Or.inl ⟨by rfl, ?_⟩) (by assumption) ?_
      · intro w hSw
        try dsimp only at hSw
        obtain ⟨⟨s0, s1, s2⟩, _⟩ := hSw
        go_simp
        try with_reducible rfl
      try simp only [Act.put, List.getElem_toArray, List.getElem_cons_zero, List.getElem_cons_succ, List.setIfInBounds_toArray, List.set_cons_zero, List.set_cons_succ]
      refine wpAnyH_take (i := 4) (v := .slice (some ad2) us.length d) rfl (by kernel_rfl) (by kernel_rfl) (by kernel_rfl) (fun _ _ _ h => h) (Or.inl ⟨by rfl, ?_⟩) (by assumption) ?_
      · intro w hSw
        try dsimp only at hSw
        go_simp
        try with_reducible rfl
      try simp only [Act.put, List.getElem_toArray, List.getElem_cons_zero, List.getElem_cons_succ, List.setIfInBounds_toArray, List.set_cons_zero, List.set_cons_succ]
      refine wpAnyH_take (i := 5) (v := .int .i64 (k : Int)) rfl (by kernel_rfl) (by kernel_rfl) (by kernel_rfl) (fun _ _ _ h => h) (Or.inl ⟨by rfl, ?_⟩) (by assumption) ?_
      · intro w hSw
        try dsimp only at hSw
        go_simp
        try with_reducible rfl
      try simp only [Act.put, List.getElem_toArray, List.getElem_cons_zero, List.getElem_cons_succ, List.setIfInBounds_toArray, List.set_cons_zero, List.set_cons_succ]
      refine wpAnyH_take (i := 6) (v := .pointer (some (ad2.add (k * 3)))) rfl (by kernel_rfl) (by kernel_rfl) (by kernel_rfl) (fun _ _ _ h => h) (Or.inl ⟨by rfl, ?_⟩) (by assumption) ?_
      · intro w hSw
        try dsimp only at hSw
        go_simp
        try with_reducible rfl
      try simp only [Act.put, List.getElem_toArray, List.getElem_cons_zero, List.getElem_cons_succ, List.setIfInBounds_toArray, List.set_cons_zero, List.set_cons_succ]
      refine wpAnyH_take (i := 7) (v := x2.val) rfl (by kernel_rfl) (by kernel_rfl) (by kernel_rfl) (fun _ _ _ h => h) (Or.inl ⟨by rfl, ?_⟩) (by assumption) ?_
      · intro w hSw
        try dsimp only at hSw
        obtain ⟨_, s0, s1, s2⟩ := hSw
        go_simp
        try with_reducible rfl
      try simp only [Act.put, List.getElem_toArray, List.getElem_cons_zero, List.getElem_cons_succ, List.setIfInBounds_toArray, List.set_cons_zero, List.set_cons_succ]
      refine wpAnyH_ready (rs := [8]) (by kernel_rfl) (by simp) ?_
      refine AllReadyH.cons rfl (fun K hK => ?_) ?_
      · go_simp
        go_at_call 32
        refine (samefr_any wd x1 x2 true (O1.out.below bz) (O2.out.below bz) HSB.out).mono ?_
        rintro e wd ⟨rfl, bb⟩
        replace bz := below_on bz bb bz.size
        clear bb
        refine hK.out _ _ ⟨⟨(E1.out.below bz).c0, (E1.out.below bz).c1, (E1.out.below bz).c2⟩, (E2.out.below bz).c0, (E2.out.below bz).c1, (E2.out.below bz).c2⟩ (fun hHeld => ?_)
        clear hK K
        try simp only [Act.put]
        try simp only [List.setIfInBounds_toArray, List.set_cons_zero, List.set_cons_succ]
        refine wpAnyH_take (i := 9) (v := .bool false) rfl (by kernel_rfl) (by kernel_rfl) (by kernel_rfl) (fun _ _ _ h => h) (Or.inl ⟨by rfl, ?_⟩) (by assumption) ?_
        · intro w hSw
          try dsimp only at hSw
          go_simp
          try with_reducible rfl
        try simp only [Act.put, List.getElem_toArray, List.getElem_cons_zero, List.getElem_cons_succ, List.setIfInBounds_toArray, List.set_cons_zero, List.set_cons_succ]
        refine wpAnyH_done (by kernel_rfl) ?_ _
        go_wp2_with fail
        go_roundw
        case rel => exact ⟨k + 1, by omega, by go_num, below_on bw bz bw.size⟩
        case measure => simp [intOf]; omega
      exact AllReadyH.nil
      --REG}
    · go_wp2_with fail
      go_ret
      exact ⟨rfl, bw⟩
end Go.Proofs.Ythdfflbhogfejaa
