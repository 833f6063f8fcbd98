/- The walks of the reference's Less, Uses, SameRates. The walks of the reference's Load and summable. The walk of the reference's summable. -/
import Derived.Test.YthdfflbhogfejaaRaK
import Derived.Test.YthdfflbhogfejaaFhE
import Derived.Test.YthdfflbhogfejaaRfD
import Derived.Test.YthdfflbhogfejaaFhI
import Derived.Deep.CutBlock
import Derived.Deep.DeepCutAuto
import Derived.Deep.RegionHeld3
namespace Go.Proofs.Ythdfflbhogfejaa
set_option maxRecDepth 100000
open Go.RowKit

set_option maxHeartbeats 1600000 in
theorem rless_any (w : World) (x y : Fx) (p q : Rat) (b : Bool) (hx : Nm w x p) (hy : Nm w y q) (hb : decide (p < q) = b) :
    Calls Try.prog 33 #[x.val, y.val] w fun e w' => e = .returned (.bool b) ∧ Below w.heap.size w w' := by
  obtain ⟨z, hz⟩ : ∃ z, cmpQ p q = z := ⟨_, rfl⟩
  have HS := Lib.hid (cmpF_ok hx.v hy.v hx.q hy.q hz)
  have HB : Hid (decide (z < 0) = b) := Lib.hid (by
    rw [← hb, ← hz, decide_eq_decide]
    rcases cmpQ_cases p q with ⟨h1, h2⟩ | ⟨h1, h2⟩ | ⟨h1, h2⟩
    · rw [h2]; exact ⟨fun _ => h1, fun _ => by omega⟩
    · rw [h2]; exact ⟨fun h => by omega, fun h => by grind⟩
    · rw [h2]; exact ⟨fun h => by omega, fun h => by grind⟩)
  have l1 := hx.l
  have l2 := hx.m
  have m1 := hy.l
  have m2 := hy.m
  replace hx := hx.ok
  replace hy := hy.ok
  clear hz hb
  go_enter Try.func33, Try.ntmps33
  go_upto_region 1 with fail
  have b0 := (Below.refl w.heap.size w).alloc (Nat.le_refl _) (.cells x.cells 41)
  have bx := bk3_alloc w (.bool x.b) (.slice x.A x.xs.length x.c) (.slice x.D x.ys.length x.d)
  have okx := hx.below b0
  have oky := hy.below b0
  have sz0 := size_box w (.cells x.cells 41)
  have bw := b0
  clear b0
  generalize (w.alloc (.cells x.cells 41)) = wa at bx okx oky sz0 bw ⊢
  have b1 := (Below.refl wa.heap.size wa).alloc (Nat.le_refl _) (.cells y.cells 41)
  have by_ := bk3_alloc wa (.bool y.b) (.slice y.A y.xs.length y.c) (.slice y.D y.ys.length y.d)
  rw [sz0] at by_
  replace bx := bx.below b1
  replace okx := okx.below b1
  replace oky := oky.below b1
  replace bw := below_on bw b1 bw.size
  clear b1 sz0
  generalize (wa.alloc (.cells y.cells 41)) = w1 at bx by_ okx oky bw ⊢
  have tx := bx
  obtain ⟨x0, x1, x2, xf0, xf1, xf2, xlt, xb⟩ := tx
  clear xb
  have ty := by_
  obtain ⟨y0, y1, y2, yf0, yf1, yf2, ylt, yb⟩ := ty
  clear yb
  go_wp2_with fail
  clear x0 x1 x2 xf0 xf1 xf2 xlt
  clear y0 y1 y2 yf0 yf1 yf2 ylt
  refine (rfcmp_any w1 x y _ okx oky l1 l2 m1 m2 HS.out).mono ?_
  rintro e wn ⟨rfl, bb⟩
  replace bw := below_on bw bb bw.size
  go_wp2_with fail
  go_ret
  exact ⟨ret_bool HB.out, bw⟩
set_option maxHeartbeats 1600000 in
theorem ruses_any (w : World) (x : Fm) (link : Int) (b : Bool) (hx : x.ok w) (hb : decide (link ∈ x.ls) = b) :
    Calls Try.prog 69 #[x.val, .int .i64 link] w fun e w' => e = .returned (.bool b) ∧ Below w.heap.size w w' := by
  have HB := Lib.hid hb
  have hxl := hx.is.len
  clear hb
  go_enter Try.func69, Try.ntmps69
  go_upto_region 1 with fail
  have fb := (fb_alloc w x 48).1
  have bb := (fb_alloc w x 48).2
  have HIS := Lib.hid (hx.below bb).is
  clear hx
  generalize (w.alloc (.cells #[.slice x.A x.ls.length x.c, .int .i64 x.m] 48)) = wm at fb bb HIS ⊢
  have fc0 := fb.c0
  go_wp2_with fail
  go_loop [5] (fun i => ∃ k : Nat, k ≤ x.ls.length ∧ i = .int .i64 k ∧ ¬ link ∈ x.ls.take k) (fun i => x.ls.length - (intOf i).toNat)
  case atStart => exact ⟨0, by omega, rfl, by simp⟩
  case round =>
    obtain ⟨k, hk, rfl, ha⟩ := hrel
    have HV := Lib.hid ha
    clear ha
    by_cases hlt : k < x.ls.length
    · obtain ⟨ax, hax, _, hc0⟩ := HIS.out.at k hlt
      have HTK := Lib.hid (List.take_succ_eq_append_getElem hlt)
      have HM := Lib.hid (List.getElem_mem hlt)
      have hcap := HIS.out.cap
      obtain ⟨v, hv⟩ : ∃ v, x.ls[k] = v := ⟨_, rfl⟩
      rw [hv] at hc0 HTK HM
      clear hv
      rw [hax] at fc0
      by_cases he : v = link
      · have he1 : (v == link) = true := by simp [he]
        have HBB : Hid (b = true) := Lib.hid (by rw [← HB.out]; exact decide_eq_true (by rw [← he]; exact HM.out))
        clear he
        go_wp2_with fail
        go_ret
        exact ⟨ret_bool HBB.out.symm, bb⟩
      · have he1 : (v == link) = false := beq_eq_false_iff_ne.2 he
        have HE : Hid (¬ v = link) := he
        clear he
        go_wp2_with fail
        go_round
        case rel => exact ⟨k + 1, by omega, by go_num, by rw [HTK.out]; simp; exact ⟨HV.out, fun e => HE.out e.symm⟩⟩
        case measure => simp [intOf]; omega
    · have HBB : Hid (b = false) := Lib.hid (by rw [← HB.out]; exact decide_eq_false (by have := HV.out; rwa [List.take_of_length_le (by omega)] at this))
      go_wp2_with fail
      go_ret
      exact ⟨ret_bool HBB.out.symm, bb⟩
set_option maxHeartbeats 1600000 in
theorem samerates_any (w : World) (A : Option Addr) (n c : Nat) (vs : List Fx) (D : Option Addr) (m d : Nat) (us : List Fx) (R : List Rat) (hA : RdF w A vs) (hD : RdF w D us) (hoA : ∀ v ∈ vs, v.ok w) (hoD : ∀ v ∈ us, v.ok w) (hn : n = vs.length) (hm : m = us.length) (hl : vs.length = us.length) (h10 : vs.length ≤ 1000)
    (rA : ∀ i (h : i < vs.length), Rp vs[i] (R.getD i 0)) (rD : ∀ i (h : i < us.length), Rp us[i] (R.getD i 0)) :
    Calls Try.prog 27 #[.slice A n c, .slice D m d] w fun e w' => e = .returned (.bool true) ∧ Below w.heap.size w w' := by
  have HA := Lib.hid hA
  have HD := Lib.hid hD
  have HOA := Lib.hid hoA
  have HOD := Lib.hid hoD
  have HRA := Lib.hid rA
  have HRD := Lib.hid rD
  have HL := Lib.hid hl
  have t1 : ((vs.length : Int) != (us.length : Int)) = false := by simp [hl]
  clear hA hD hoA hoD rA rD hl
  subst hn hm
  go_enter Try.func27, Try.ntmps27
  go_wp2_with fail
  go_loopw [5] (fun i wr => ∃ k : Nat, k ≤ vs.length ∧ i = .int .i64 k ∧ Below w.heap.size w wr) (fun i _ => vs.length - (intOf i).toNat)
  case atStart => exact ⟨0, by omega, rfl, Below.refl _ _⟩
  case round =>
    obtain ⟨k, hk, rfl, bw⟩ := hrel
    by_cases hlt : k < vs.length
    · have hlt2 : k < us.length := by have := HL.out; omega
      obtain ⟨ad1, rfl, e1⟩ := (HA.out.below bw).at k hlt
      obtain ⟨ad2, rfl, e2⟩ := (HD.out.below bw).at k hlt2
      have r1 := HRA.out k hlt
      have r2 := HRD.out k hlt2
      have o1 := (HOA.out _ (List.getElem_mem hlt)).below bw
      have o2 := (HOD.out _ (List.getElem_mem hlt2)).below bw
      obtain ⟨x1, hx1⟩ : ∃ x1, vs[k] = x1 := ⟨_, rfl⟩
      obtain ⟨x2, hx2⟩ : ∃ x2, us[k] = x2 := ⟨_, rfl⟩
      rw [hx1] at e1 r1 o1
      rw [hx2] at e2 r2 o2
      have E1 := Lib.hid e1
      have E2 := Lib.hid e2
      have O1 := Lib.hid o1
      have O2 := Lib.hid o2
      have HSB := Lib.hid (decide_eq_true (r1.same r2))
      clear e1 e2 o1 o2 r1 r2 hx1 hx2
      go_upto_region 6 with fail
      refine wp_region_held_drew (S := fun w' => (w'.cell? (ad1.add (k * 3)) = some (.bool x1.b) ∧ w'.cell? ⟨(ad1.add (k * 3)).block, (ad1.add (k * 3)).off + 1, none⟩ = some (.slice x1.A x1.xs.length x1.c) ∧ w'.cell? ⟨(ad1.add (k * 3)).block, (ad1.add (k * 3)).off + 2, none⟩ = some (.slice x1.D x1.ys.length x1.d)) ∧ (w'.cell? (ad2.add (k * 3)) = some (.bool x2.b) ∧ w'.cell? ⟨(ad2.add (k * 3)).block, (ad2.add (k * 3)).off + 1, none⟩ = some (.slice x2.A x2.xs.length x2.c) ∧ w'.cell? ⟨(ad2.add (k * 3)).block, (ad2.add (k * 3)).off + 2, none⟩ = some (.slice x2.D x2.ys.length x2.d))) (by kernel_rfl) ⟨⟨(E1.out.below ((Below.refl wr.heap.size wr).drew)).c0, (E1.out.below ((Below.refl wr.heap.size wr).drew)).c1, (E1.out.below ((Below.refl wr.heap.size wr).drew)).c2⟩, (E2.out.below ((Below.refl wr.heap.size wr).drew)).c0, (E2.out.below ((Below.refl wr.heap.size wr).drew)).c1, (E2.out.below ((Below.refl wr.heap.size wr).drew)).c2⟩ (fun hHeld => ?_)
      have bz := (Below.refl wr.heap.size wr).drew
      generalize wr.drew = wd at *
      refine wpAnyH_take (i := 0) (v := .slice (some ad1) vs.length c) rfl (by kernel_rfl) (by kernel_rfl) (by kernel_rfl) (fun _ _ _ h => h) (Or.inl ⟨by rfl, ?_⟩) (by assumption) ?_
      ·intro w hSw
       try dsimp only at hSw
       go_simp
       try with_reducible rfl
      try simp only [Act.put, tzA, tzB, tzD, tzE, tzF]
      refine wpAnyH_take (i := 1) (v := .int .i64 (k : Int)) rfl (by kernel_rfl) (by kernel_rfl) (by kernel_rfl) (fun _ _ _ h => h) (Or.inl ⟨by rfl, ?_⟩) (by assumption) ?_
      ·intro w hSw
       try dsimp only at hSw
       go_simp
       try with_reducible rfl
      try simp only [Act.put, tzA, tzB, tzC, tzD, tzE, tzF]
      refine wpAnyH_take (i := 2) (v := .pointer (some (ad1.add (k * 3)))) rfl (by kernel_rfl) (by kernel_rfl) (by kernel_rfl) (fun _ _ _ h => h) (Or.inl ⟨by rfl, ?_⟩) (by assumption) ?_
      ·intro w hSw
       try dsimp only at hSw
       go_simp
       try with_reducible rfl
      try simp only [Act.put, tzA, tzB, tzC, tzD, tzE, tzF]
      refine wpAnyH_take (i := 3) (v := x1.val) rfl (by kernel_rfl) (by kernel_rfl) (by kernel_rfl) (fun _ _ _ h => h) (Or.inl ⟨by rfl, ?_⟩) (by assumption) ?_
      ·intro w hSw
       try dsimp only at hSw
       obtain ⟨⟨s0, s1, s2⟩, _⟩ := hSw
       go_simp
       try with_reducible rfl
      try simp only [Act.put, tzA, tzB, tzC, tzD, tzE, tzF]
      refine wpAnyH_take (i := 4) (v := .slice (some ad2) us.length d) rfl (by kernel_rfl) (by kernel_rfl) (by kernel_rfl) (fun _ _ _ h => h) (Or.inl ⟨by rfl, ?_⟩) (by assumption) ?_
      ·intro w hSw
       try dsimp only at hSw
       go_simp
       try with_reducible rfl
      try simp only [Act.put, tzA, tzB, tzC, tzD, tzE, tzF]
      refine wpAnyH_take (i := 5) (v := .int .i64 (k : Int)) rfl (by kernel_rfl) (by kernel_rfl) (by kernel_rfl) (fun _ _ _ h => h) (Or.inl ⟨by rfl, ?_⟩) (by assumption) ?_
      ·intro w hSw
       try dsimp only at hSw
       go_simp
       try with_reducible rfl
      try simp only [Act.put, tzA, tzB, tzC, tzD, tzE, tzF]
      refine wpAnyH_take (i := 6) (v := .pointer (some (ad2.add (k * 3)))) rfl (by kernel_rfl) (by kernel_rfl) (by kernel_rfl) (fun _ _ _ h => h) (Or.inl ⟨by rfl, ?_⟩) (by assumption) ?_
      ·intro w hSw
       try dsimp only at hSw
       go_simp
       try with_reducible rfl
      try simp only [Act.put, tzA, tzB, tzC, tzD, tzE, tzF]
      refine wpAnyH_take (i := 7) (v := x2.val) rfl (by kernel_rfl) (by kernel_rfl) (by kernel_rfl) (fun _ _ _ h => h) (Or.inl ⟨by rfl, ?_⟩) (by assumption) ?_
      ·intro w hSw
       try dsimp only at hSw
       obtain ⟨_, s0, s1, s2⟩ := hSw
       go_simp
       try with_reducible rfl
      try simp only [Act.put, tzA, tzB, tzC, tzD, tzE, tzF]
      refine wpAnyH_ready (rs := [8]) (by kernel_rfl) (by simp) ?_
      refine AllReadyH.cons rfl (fun K hK => ?_) ?_
      ·go_simp
       go_at_call 32
       refine (samefr_any wd x1 x2 true (O1.out.below bz) (O2.out.below bz) HSB.out).mono ?_
       rintro e wd ⟨rfl, bb⟩
       replace bz := below_on bz bb bz.size
       clear bb
       refine hK.out _ _ ⟨⟨(E1.out.below bz).c0, (E1.out.below bz).c1, (E1.out.below bz).c2⟩, (E2.out.below bz).c0, (E2.out.below bz).c1, (E2.out.below bz).c2⟩ (fun hHeld => ?_)
       clear hK K
       try simp only [Act.put]
       try simp only [tzD, tzE, tzF]
       refine wpAnyH_take (i := 9) (v := .bool false) rfl (by kernel_rfl) (by kernel_rfl) (by kernel_rfl) (fun _ _ _ h => h) (Or.inl ⟨by rfl, ?_⟩) (by assumption) ?_
       ·intro w hSw
        try dsimp only at hSw
        go_simp
        try with_reducible rfl
       try simp only [Act.put, tzA, tzB, tzC, tzD, tzE, tzF]
       refine wpAnyH_done (by kernel_rfl) ?_ _
       go_wp2_with fail
       go_roundw
       case rel => exact ⟨k + 1, by omega, by go_num, below_on bw bz bw.size⟩
       case measure => simp [intOf]; omega
      exact AllReadyH.nil
    · go_wp2_with fail
      go_ret
      exact ⟨rfl, bw⟩
end Go.Proofs.Ythdfflbhogfejaa
namespace Go.Proofs.Ythdfflbhogfejaa
set_option maxRecDepth 100000
open Go.RowKit

theorem sz_of_not_big {q : Rat} (h : ¬ bigQ q) : Sz q 128 128 := Sz.of_big h
/-- Add of two numbers: their sum, or the error 2 -/
theorem radd_nm (w : World) (x y : Fx) (p q : Rat) (hx : Nm w x p) (hy : Nm w y q) (hz : ¬ bigQ (p + q)) :
    Calls Try.prog 70 #[x.val, y.val] w fun e w' => ∃ z : Fx, e = .returned (.tuple #[z.val, .int .i64 0]) ∧ Nm w' z (p + q) ∧ Below w.heap.size w w' := by
  refine (rfadd_any w x y _ hx.ok hy.ok hx.l hx.m hy.l hy.m (addF_ok hx.v hy.v hx.q hy.q (sz_of_not_big hz))).mono ?_
  rintro e w' ⟨z, rfl, hs, ok, bb⟩
  exact ⟨z, rfl, Nm.of ok (Rp.of hs) (sz_of_not_big hz), bb⟩
theorem loadE_used_step {l : List Fl} {R : List Rat} {link : Int} {i : Nat} (h : link ∈ lkA l i) : loadE l R link (i + 1) = (loadE l R link i).bind (fun r => addE r (R.getD i 0)) := by rw [loadE, if_pos h]
theorem loadE_skip_step {l : List Fl} {R : List Rat} {link : Int} {i : Nat} (h : ¬ link ∈ lkA l i) : loadE l R link (i + 1) = loadE l R link i := by rw [loadE, if_neg h]
theorem loadE_pre {l : List Fl} {R : List Rat} {link : Int} : ∀ n i, i ≤ n → (∃ q, loadE l R link n = some q) → ∃ q, loadE l R link i = some q := by
  intro n
  induction n with
  | zero => intro i hi h; obtain rfl : i = 0 := by omega
            exact h
  | succ n ih =>
    intro i hi h
    rcases Nat.lt_or_ge i (n + 1) with h1 | h1
    · refine ih i (by omega) ?_
      obtain ⟨q, hq⟩ := h
      rw [loadE] at hq
      split at hq
      · cases hx : loadE l R link n with
        | none => rw [hx] at hq; cases hq
        | some z => exact ⟨z, rfl⟩
      · exact ⟨q, hq⟩
    · obtain rfl : i = n + 1 := by omega
      exact h
theorem fmap_lk {fs : List Fm} {k : Nat} (hk : k < fs.length) : lkA (fs.map Fm.fl) k = fs[k].ls ∧ lmA (fs.map Fm.fl) k = fs[k].m := by
  rw [lkA_get (by simpa using hk), lmA_get (by simpa using hk)]; simp
set_option maxHeartbeats 3200000 in
theorem rload_any (w : World) (D : Option Addr) (m d : Nat) (fs : List Fm) (A : Option Addr) (n c : Nat) (vs : List Fx) (link : Int) (q : Rat) (hD : Ws w D d fs) (hA : RdF w A vs) (hok : OkF w vs) (hv : ∀ v ∈ vs, v.v) (hm : m = fs.length) (hn : n = vs.length) (hl : vs.length = fs.length) (hle : fs.length ≤ 100) (hq : loadE (fs.map Fm.fl) (vs.map Fx.q) link fs.length = some q) :
    Calls Try.prog 73 #[.slice D m d, .slice A n c, .int .i64 link] w fun e w' => ∃ x : Fx, e = .returned x.val ∧ Nm w' x q ∧ Below w.heap.size w w' := by
  have HD := Lib.hid hD
  have HA := Lib.hid hA
  have HOK := Lib.hid hok
  have HV := Lib.hid hv
  have HVL := Lib.hid hl
  have HQ := Lib.hid hq
  clear hD hA hok hv hl hq
  subst hm hn
  go_enter Try.func73, Try.ntmps73
  go_upto_region 1 with fail
  have bw := (Below.refl w.heap.size w).alloc (Nat.le_refl _) (.cells #[.bool false, .slice none 0 0, .slice none 0 0] 41)
  have bk := bk3_new w
  generalize (w.alloc (.cells #[.bool false, .slice none 0 0, .slice none 0 0] 41)) = wm at bw bk ⊢
  have HBK := Lib.hid bk
  have hB : w.heap.size + 1 ≤ wm.heap.size := bk.lt
  clear bk
  go_wp2_with fail
  refine (rwhole_any wm 0 (by omega) (by omega)).mono ?_
  rintro e wn ⟨x1, rfl, _, n1, bb⟩
  have HBK1 := Lib.hid (HBK.out.below bb)
  replace bw := below_on bw bb bw.size
  have hB1 : w.heap.size + 1 ≤ wn.heap.size := Nat.le_trans hB bb.size
  clear HBK bb hB
  go_upto_region 2 with fail
  have v1 := (nv_alloc n1).1
  have bb := (nv_alloc n1).2
  clear n1
  generalize (wn.alloc (.cells #[.bool x1.b, .slice x1.A x1.xs.length x1.c, .slice x1.D x1.ys.length x1.d] 41)) = wm at v1 bb ⊢
  have HBK := Lib.hid (HBK1.out.below bb)
  replace bw := below_on bw bb bw.size
  clear HBK1 bb
  generalize wn.heap.size = g7 at v1 hB1 ⊢
  go_wp2_with fail
  go_loopw [8] (fun i wr => ∃ (k : Nat) (x : Fx) (p : Rat), k ≤ fs.length ∧ i = .int .i64 k ∧ loadE (fs.map Fm.fl) (vs.map Fx.q) link k = some p ∧ Nv wr g7 x p ∧ Bk3 wr w.heap.size (.bool false) (.slice none 0 0) (.slice none 0 0) ∧ Below w.heap.size w wr) (fun i _ => fs.length - (intOf i).toNat)
  case atStart => exact ⟨0, x1, _, by omega, rfl, rfl, v1, HBK.out, bw⟩
  case round =>
    clear v1 HBK bw
    obtain ⟨k, x1, p, hkl, rfl, hp, v1, bk, bw⟩ := hrel
    have HP := Lib.hid hp
    have H1 := Lib.hid v1
    have HBK := Lib.hid bk
    have HBW := Lib.hid bw
    clear hp v1 bk
    by_cases hlt : k < fs.length
    · have hW := HD.out.below bw
      obtain ⟨ad, rfl, _, hcc⟩ := hW.rd (by omega)
      obtain ⟨hc0, hc1⟩ := hcc k hlt
      have hox := hW.ok _ (List.getElem_mem hlt)
      have hlk := (fmap_lk hlt).1
      have hcap := HD.out.cap
      have hmax := HD.out.max
      obtain ⟨x, hx⟩ : ∃ x, fs[k] = x := ⟨_, rfl⟩
      rw [hx] at hc0 hc1 hox hlk
      have HLK := Lib.hid hlk
      clear hcc hx hW hlk bw
      obtain ⟨u, hu⟩ : ∃ u, decide (link ∈ x.ls) = u := ⟨_, rfl⟩
      have HU := Lib.hid hu
      clear hu
      go_wp2_with fail
      refine (ruses_any wr x link u hox HU.out).mono ?_
      rintro e w2 ⟨rfl, bb⟩
      replace H1 := Lib.hid (H1.out.below bb)
      replace HBK := Lib.hid (HBK.out.below bb)
      replace HBW := Lib.hid (below_on HBW.out bb HBW.out.size)
      clear hox hc0 hc1 bb
      cases u with
      | false =>
        have HNX : Hid (loadE (fs.map Fm.fl) (vs.map Fx.q) link (k + 1) = some p) := Lib.hid (by rw [loadE_skip_step (by rw [HLK.out]; exact of_decide_eq_false HU.out)]; exact HP.out)
        go_wp2_with fail
        go_roundw
        case rel => exact ⟨k + 1, x1, p, by omega, by go_num, HNX.out, H1.out, HBK.out, HBW.out⟩
        case measure => simp [intOf]; omega
      | true =>
        have hkv : k < vs.length := by rw [HVL.out]; exact hlt
        have hst := loadE_used_step (l := fs.map Fm.fl) (R := vs.map Fx.q) (link := link) (i := k) (by rw [HLK.out]; exact of_decide_eq_true HU.out)
        rw [HP.out, map_q_getD vs hkv] at hst
        obtain ⟨r, hr⟩ := loadE_pre fs.length (k + 1) (by omega) ⟨q, HQ.out⟩
        have hnb : ¬ bigQ (p + vs[k].q) := fun hb => by
          have h2 : some r = addE p vs[k].q := by rw [← hr, hst]; rfl
          rw [addE, if_pos hb] at h2
          cases h2
        have HNX : Hid (loadE (fs.map Fm.fl) (vs.map Fx.q) link (k + 1) = some (p + vs[k].q)) := Lib.hid (by
          rw [hst]
          show addE p vs[k].q = _
          rw [addE, if_neg hnb])
        obtain ⟨ad2, rfl, el⟩ := (HA.out.below HBW.out).at k hkv
        have n2 := (okf_nm HOK.out HV.out hkv).below HBW.out
        obtain ⟨x2, hx2⟩ : ∃ x2, vs[k] = x2 := ⟨_, rfl⟩
        rw [hx2] at el n2 hnb HNX
        have hel0 := (HA.out.at k hkv)
        rw [hx2] at hel0
        have HEL : Hid (∀ w', Below w.heap.size w w' → w'.cell? (ad2.add (k * 3)) = some (.bool x2.b) ∧ w'.cell? ⟨(ad2.add (k * 3)).block, (ad2.add (k * 3)).off + 1, none⟩ = some (.slice x2.A x2.xs.length x2.c) ∧ w'.cell? ⟨(ad2.add (k * 3)).block, (ad2.add (k * 3)).off + 2, none⟩ = some (.slice x2.D x2.ys.length x2.d)) := Lib.hid (fun w' hb => by
          obtain ⟨ad', e', h'⟩ := hel0
          injection e' with e'
          subst e'
          have h3 := h'.below hb
          exact ⟨h3.c0, h3.c1, h3.c2⟩)
        have H2 := Lib.hid n2
        have HNB : Hid (¬ bigQ (p + x2.q)) := hnb
        clear hst hr hx2 el n2 hnb hel0
        go_upto_region 6 with fail
        refine wp_region_held_drew (S := fun w' => w'.cell? (ad2.add (k * 3)) = some (.bool x2.b) ∧ w'.cell? ⟨(ad2.add (k * 3)).block, (ad2.add (k * 3)).off + 1, none⟩ = some (.slice x2.A x2.xs.length x2.c) ∧ w'.cell? ⟨(ad2.add (k * 3)).block, (ad2.add (k * 3)).off + 2, none⟩ = some (.slice x2.D x2.ys.length x2.d)) (by kernel_rfl) (HEL.out _ (below_on HBW.out ((Below.refl w2.heap.size w2).drew) HBW.out.size)) (fun hHeld => ?_)
        have bz := (Below.refl w2.heap.size w2).drew
        generalize w2.drew = wd at *
        refine wpAnyH_take (i := 1) (v := .slice (some ad2) vs.length c) rfl (by kernel_rfl) (by kernel_rfl) (by kernel_rfl) (fun _ _ _ h => h) (Or.inl ⟨by rfl, ?_⟩) (by assumption) ?_
        ·intro w hSw
         try dsimp only at hSw
         go_simp
         try with_reducible rfl
        try simp only [Act.put, tzA, tzB, tzC, tzD, tzE, tzF]
        refine wpAnyH_take (i := 2) (v := .int .i64 (k : Int)) rfl (by kernel_rfl) (by kernel_rfl) (by kernel_rfl) (fun _ _ _ h => h) (Or.inl ⟨by rfl, ?_⟩) (by assumption) ?_
        ·intro w hSw
         try dsimp only at hSw
         go_simp
         try with_reducible rfl
        try simp only [Act.put, tzA, tzB, tzC, tzD, tzE, tzF]
        refine wpAnyH_take (i := 3) (v := .pointer (some (ad2.add (k * 3)))) rfl (by kernel_rfl) (by kernel_rfl) (by kernel_rfl) (fun _ _ _ h => h) (Or.inl ⟨by rfl, ?_⟩) (by assumption) ?_
        ·intro w hSw
         try dsimp only at hSw
         go_simp
         try with_reducible rfl
        try simp only [Act.put, tzA, tzB, tzC, tzD, tzE, tzF]
        refine wpAnyH_take (i := 4) (v := x2.val) rfl (by kernel_rfl) (by kernel_rfl) (by kernel_rfl) (fun _ _ _ h => h) (Or.inl ⟨by rfl, ?_⟩) (by assumption) ?_
        ·intro w hSw
         try dsimp only at hSw
         obtain ⟨s0, s1, s2⟩ := hSw
         go_simp
         try with_reducible rfl
        try simp only [Act.put, tzA, tzB, tzC, tzD, tzE, tzF]
        refine wpAnyH_ready (rs := [0]) (by kernel_rfl) (by simp) ?_
        refine AllReadyH.cons rfl (fun K hK => ?_) ?_
        ·have vd := H1.out.below bz
         have k0 := vd.c0
         have k1 := vd.c1
         have k2 := vd.c2
         go_simp
         clear vd k0 k1 k2
         refine hK.out _ _ (HEL.out _ (by first | exact b5 | exact below_on HBW.out bz HBW.out.size)) (fun hHeld => ?_)
         clear hK K
         try simp only [Act.put]
         try simp only [tzD, tzE, tzF]
         refine wpAnyH_ready (rs := [5]) (by kernel_rfl) (by simp) ?_
         refine AllReadyH.cons rfl (fun K hK => ?_) ?_
         ·go_simp
          go_at_call 70
          refine (radd_nm wd x1 x2 _ _ (H1.out.below bz).nm (H2.out.below bz) HNB.out).mono ?_
          rintro e wd ⟨x3, rfl, n3, bb⟩
          try replace n3 := n3.below bb
          replace bz := below_on bz bb bz.size
          clear bb
          refine hK.out _ _ (HEL.out _ (by first | exact b5 | exact below_on HBW.out bz HBW.out.size)) (fun hHeld => ?_)
          clear hK K
          try simp only [Act.put]
          try simp only [tzD, tzE, tzF]
          refine wpAnyH_take (i := 6) (v := .tuple #[x3.val, .int .i64 0]) rfl (by kernel_rfl) (by kernel_rfl) (by kernel_rfl) (fun _ _ _ h => h) (Or.inl ⟨by rfl, ?_⟩) (by assumption) ?_
          ·intro w hSw
           try dsimp only at hSw
           go_simp
           try with_reducible rfl
          try simp only [Act.put, tzA, tzB, tzC, tzD, tzE, tzF]
          refine wpAnyH_take (i := 7) (v := x3.val) rfl (by kernel_rfl) (by kernel_rfl) (by kernel_rfl) (fun _ _ _ h => h) (Or.inl ⟨by rfl, ?_⟩) (by assumption) ?_
          ·intro w hSw
           try dsimp only at hSw
           go_simp
           try with_reducible rfl
          try simp only [Act.put, tzA, tzB, tzC, tzD, tzE, tzF]
          refine wpAnyH_take (i := 8) (v := .int .i64 0) rfl (by kernel_rfl) (by kernel_rfl) (by kernel_rfl) (fun _ _ _ h => h) (Or.inl ⟨by rfl, ?_⟩) (by assumption) ?_
          ·intro w hSw
           try dsimp only at hSw
           go_simp
           try with_reducible rfl
          try simp only [Act.put, tzA, tzB, tzC, tzD, tzE, tzF]
          refine wpAnyH_ready (rs := [9]) (by kernel_rfl) (by simp) ?_
          refine AllReadyH.cons rfl (fun K hK => ?_) ?_
          ·have vd := H1.out.below bz
           have t := vd.fa.bk
           obtain ⟨k0, k1, k2, kf0, kf1, kf2, _, _⟩ := t
           go_simp
           clear k0 k1 k2 kf0 kf1 kf2
           have a3 := Nv.mk' (vd.fa.put n3.ok) n3
           have kk := (HBK.out.below bz).far (H := g7) (a := .bool x3.b) (b := .slice x3.A x3.xs.length x3.c) (c := .slice x3.D x3.ys.length x3.d) (by omega)
           have b5 := set3g (G := g7) (a := .bool x3.b) (b := .slice x3.A x3.xs.length x3.c) (c := .slice x3.D x3.ys.length x3.d) (below_on HBW.out bz HBW.out.size) (by omega)
           clear vd bz n3 hHeld
           generalize (((wd.setCell ⟨g7, 0, none⟩ (.bool x3.b)).setCell ⟨g7, 1, none⟩ (.slice x3.A x3.xs.length x3.c)).setCell ⟨g7, 2, none⟩ (.slice x3.D x3.ys.length x3.d)) = we at *
           generalize we = wd at *
           refine hK.out _ _ (HEL.out _ (by first | exact b5 | exact below_on HBW.out bz HBW.out.size)) (fun hHeld => ?_)
           clear hK K
           try simp only [Act.put]
           try simp only [tzD, tzE, tzF]
           refine wpAnyH_done (by kernel_rfl) ?_ _
           go_wp2_with fail
           go_roundw
           case rel => exact ⟨k + 1, x3, _, by omega, by go_num, HNX.out, a3, kk, b5⟩
           case measure => simp [intOf]; omega
          exact AllReadyH.nil
         exact AllReadyH.nil
        exact AllReadyH.nil
    · have hke : k = fs.length := by omega
      have HPQ : Hid (p = q) := Lib.hid (by
        have h1 := HP.out
        rw [hke, HQ.out] at h1
        exact (Option.some.inj h1).symm)
      have c0 := H1.out.c0
      have c1 := H1.out.c1
      have c2 := H1.out.c2
      have bk := HBK.out
      have tk := bk
      obtain ⟨k0, k1, k2, kf0, kf1, kf2, klt, kb⟩ := tk
      clear kb
      clear hke
      go_wp2_with fail
      refine bodyPost_ret (v := x1.val) (by simp [results, Try.results73, go_sem, k0, k1, k2]) rfl ?_
      rw [HPQ.out] at H1
      exact ⟨x1, rfl, ⟨set3_ok H1.out.fa.ok bk rfl rfl rfl, H1.out.v, H1.out.q, H1.out.l, H1.out.m⟩, set3g bw (Nat.le_refl _)⟩
end Go.Proofs.Ythdfflbhogfejaa
namespace Go.Proofs.Ythdfflbhogfejaa
set_option maxRecDepth 100000
open Go.RowKit

/-- the rates of every link can be added -/
def sumsP (caps : List Int) (l : List Fl) (R : List Rat) : Prop := ∀ k : Nat, k < caps.length → ∃ q, loadE l R (k : Int) l.length = some q
end Go.Proofs.Ythdfflbhogfejaa
