/- The walks of the reference's Less, Uses, SameRates. The walks of the reference's Load and summable. The walk of the reference's summable. -/
import Derived.Test.YthdfflbhogfejaaRaK
import Derived.Test.YthdfflbhogfejaaFhE
import Derived.Test.YthdfflbhogfejaaRfD
import Derived.Test.YthdfflbhogfejaaFhI
import Derived.Deep.CutBlock
import Derived.Deep.DeepCutAuto
import Derived.Deep.RegionHeld3
namespace Go.Proofs.Ythdfflbhogfejaa
set_option maxRecDepth 100000
open Go.RowKit

set_option maxHeartbeats 1600000 in
theorem rless_any (w : World) (x y : Fx) (p q : Rat) (b : Bool) (hx : Nm w x p) (hy : Nm w y q) (hb : decide (p < q) = b) :
    Calls Try.prog 33 #[x.val, y.val] w fun e w' => e = .returned (.bool b) ∧ Below w.heap.size w w' := by
  obtain ⟨z, hz⟩ : ∃ z, cmpQ p q = z := ⟨_, rfl⟩
  have HS := Lib.hid (cmpF_ok hx.v hy.v hx.q hy.q hz)
  have HB : Hid (decide (z < 0) = b) := Lib.hid (by
    rw [← hb, ← hz, decide_eq_decide]
    rcases cmpQ_cases p q with ⟨h1, h2⟩ | ⟨h1, h2⟩ | ⟨h1, h2⟩
    · rw [h2]; exact ⟨fun _ => h1, fun _ => by omega⟩
    · rw [h2]; exact ⟨fun h => by omega, fun h => by grind⟩
    · rw [h2]; exact ⟨fun h => by omega, fun h => by grind⟩)
  have l1 := hx.l
  have l2 := hx.m
  have m1 := hy.l
  have m2 := hy.m
  replace hx := hx.ok
  replace hy := hy.ok
  clear hz hb
  go_enter Try.func33, Try.ntmps33
  go_upto_region 1 with fail
  have b0 := (Below.refl w.heap.size w).alloc (Nat.le_refl _) (.cells x.cells 41)
  have bx := bk3_alloc w (.bool x.b) (.slice x.A x.xs.length x.c) (.slice x.D x.ys.length x.d)
  have okx := hx.below b0
  have oky := hy.below b0
  have sz0 := size_box w (.cells x.cells 41)
  have bw := b0
  clear b0
  generalize (w.alloc (.cells x.cells 41)) = wa at bx okx oky sz0 bw ⊢
  have b1 := (Below.refl wa.heap.size wa).alloc (Nat.le_refl _) (.cells y.cells 41)
  have by_ := bk3_alloc wa (.bool y.b) (.slice y.A y.xs.length y.c) (.slice y.D y.ys.length y.d)
  rw [sz0] at by_
  replace bx := bx.below b1
  replace okx := okx.below b1
  replace oky := oky.below b1
  replace bw := below_on bw b1 bw.size
  clear b1 sz0
  generalize (wa.alloc (.cells y.cells 41)) = w1 at bx by_ okx oky bw ⊢
  have tx := bx
  obtain ⟨x0, x1, x2, xf0, xf1, xf2, xlt, xb⟩ := tx
  clear xb
  have ty := by_
  obtain ⟨y0, y1, y2, yf0, yf1, yf2, ylt, yb⟩ := ty
  clear yb
  go_wp2_with fail
  clear x0 x1 x2 xf0 xf1 xf2 xlt
  clear y0 y1 y2 yf0 yf1 yf2 ylt
  refine (rfcmp_any w1 x y _ okx oky l1 l2 m1 m2 HS.out).mono ?_
  rintro e wn ⟨rfl, bb⟩
  replace bw := below_on bw bb bw.size
  go_wp2_with fail
  go_ret
  exact ⟨ret_bool HB.out, bw⟩
set_option maxHeartbeats 1600000 in
theorem ruses_any (w : World) (x : Fm) (link : Int) (b : Bool) (hx : x.ok w) (hb : decide (link ∈ x.ls) = b) :
    Calls Try.prog 69 #[x.val, .int .i64 link] w fun e w' => e = .returned (.bool b) ∧ Below w.heap.size w w' := by
  have HB := Lib.hid hb
  have hxl := hx.is.len
  clear hb
  go_enter Try.func69, Try.ntmps69
  go_upto_region 1 with fail
  have fb := (fb_alloc w x 48).1
  have bb := (fb_alloc w x 48).2
  have HIS := Lib.hid (hx.below bb).is
  clear hx
  generalize (w.alloc (.cells #[.slice x.A x.ls.length x.c, .int .i64 x.m] 48)) = wm at fb bb HIS ⊢
  have fc0 := fb.c0
  go_wp2_with fail
  go_loop [5] (fun i => ∃ k : Nat, k ≤ x.ls.length ∧ i = .int .i64 k ∧ ¬ link ∈ x.ls.take k) (fun i => x.ls.length - (intOf i).toNat)
  case atStart => exact ⟨0, by omega, rfl, by simp⟩
  case round =>
    obtain ⟨k, hk, rfl, ha⟩ := hrel
    have HV := Lib.hid ha
    clear ha
    by_cases hlt : k < x.ls.length
    · obtain ⟨ax, hax, _, hc0⟩ := HIS.out.at k hlt
      have HTK := Lib.hid (List.take_succ_eq_append_getElem hlt)
      have HM := Lib.hid (List.getElem_mem hlt)
      have hcap := HIS.out.cap
      obtain ⟨v, hv⟩ : ∃ v, x.ls[k] = v := ⟨_, rfl⟩
      rw [hv] at hc0 HTK HM
      clear hv
      rw [hax] at fc0
      by_cases he : v = link
      · have he1 : (v == link) = true := by simp [he]
        have HBB : Hid (b = true) := Lib.hid (by rw [← HB.out]; exact decide_eq_true (by rw [← he]; exact HM.out))
        clear he
        go_wp2_with fail
        go_ret
        exact ⟨ret_bool HBB.out.symm, bb⟩
      · have he1 : (v == link) = false := beq_eq_false_iff_ne.2 he
        have HE : Hid (¬ v = link) := he
        clear he
        go_wp2_with fail
        go_round
        case rel => exact ⟨k + 1, by omega, by go_num, by rw [HTK.out]; simp; exact ⟨HV.out, fun e => HE.out e.symm⟩⟩
        case measure => simp [intOf]; omega
    · have HBB : Hid (b = false) := Lib.hid (by rw [← HB.out]; exact decide_eq_false (by have := HV.out; rwa [List.take_of_length_le (by omega)] at this))
      go_wp2_with fail
      go_ret
      exact ⟨ret_bool HBB.out.symm, bb⟩
end Go.Proofs.Ythdfflbhogfejaa
namespace Go.Proofs.Ythdfflbhogfejaa
set_option maxRecDepth 100000
open Go.RowKit

theorem sz_of_not_big {q : Rat} (h : ¬ bigQ q) : Sz q 128 128 := Sz.of_big h
/-- Add of two numbers: their sum, or the error 2 -/
theorem radd_nm (w : World) (x y : Fx) (p q : Rat) (hx : Nm w x p) (hy : Nm w y q) (hz : ¬ bigQ (p + q)) :
    Calls Try.prog 70 #[x.val, y.val] w fun e w' => ∃ z : Fx, e = .returned (.tuple #[z.val, .int .i64 0]) ∧ Nm w' z (p + q) ∧ Below w.heap.size w w' := by
  refine (rfadd_any w x y _ hx.ok hy.ok hx.l hx.m hy.l hy.m (addF_ok hx.v hy.v hx.q hy.q (sz_of_not_big hz))).mono ?_
  rintro e w' ⟨z, rfl, hs, ok, bb⟩
  exact ⟨z, rfl, Nm.of ok (Rp.of hs) (sz_of_not_big hz), bb⟩
theorem radd_big (w : World) (x y : Fx) (p q : Rat) (hx : Nm w x p) (hy : Nm w y q) (hz : bigQ (p + q)) :
    Calls Try.prog 70 #[x.val, y.val] w fun e w' => ∃ z : Fx, e = .returned (.tuple #[z.val, .int .i64 2]) ∧ z.ok w' ∧ Below w.heap.size w w' := by
  have h : addF x y = errF 2 := by rw [addF, if_pos ⟨hx.v, hy.v⟩, hx.q, hy.q, frS, if_pos hz]; rfl
  refine (rfadd_any w x y _ hx.ok hy.ok hx.l hx.m hy.l hy.m h).mono ?_
  rintro e w' ⟨z, rfl, _, ok, bb⟩
  exact ⟨z, rfl, ok, bb⟩
theorem loadE_used_step {l : List Fl} {R : List Rat} {link : Int} {i : Nat} (h : link ∈ lkA l i) : loadE l R link (i + 1) = (loadE l R link i).bind (fun r => addE r (R.getD i 0)) := by rw [loadE, if_pos h]
theorem loadE_skip_step {l : List Fl} {R : List Rat} {link : Int} {i : Nat} (h : ¬ link ∈ lkA l i) : loadE l R link (i + 1) = loadE l R link i := by rw [loadE, if_neg h]
theorem loadE_pre {l : List Fl} {R : List Rat} {link : Int} : ∀ n i, i ≤ n → (∃ q, loadE l R link n = some q) → ∃ q, loadE l R link i = some q := by
  intro n
  induction n with
  | zero => intro i hi h; obtain rfl : i = 0 := by omega
            exact h
  | succ n ih =>
    intro i hi h
    rcases Nat.lt_or_ge i (n + 1) with h1 | h1
    · refine ih i (by omega) ?_
      obtain ⟨q, hq⟩ := h
      rw [loadE] at hq
      split at hq
      · cases hx : loadE l R link n with
        | none => rw [hx] at hq; cases hq
        | some z => exact ⟨z, rfl⟩
      · exact ⟨q, hq⟩
    · obtain rfl : i = n + 1 := by omega
      exact h
theorem fmap_lk {fs : List Fm} {k : Nat} (hk : k < fs.length) : lkA (fs.map Fm.fl) k = fs[k].ls ∧ lmA (fs.map Fm.fl) k = fs[k].m := by
  rw [lkA_get (by simpa using hk), lmA_get (by simpa using hk)]; simp
set_option maxHeartbeats 3200000 in
theorem rload_any (w : World) (D : Option Addr) (m d : Nat) (fs : List Fm) (A : Option Addr) (n c : Nat) (vs : List Fx) (link : Int) (q : Rat) (hD : Ws w D d fs) (hA : RdF w A vs) (hok : OkF w vs) (hv : ∀ v ∈ vs, v.v) (hm : m = fs.length) (hn : n = vs.length) (hl : vs.length = fs.length) (hle : fs.length ≤ 100) (hq : loadE (fs.map Fm.fl) (vs.map Fx.q) link fs.length = some q) :
    Calls Try.prog 73 #[.slice D m d, .slice A n c, .int .i64 link] w fun e w' => ∃ x : Fx, e = .returned x.val ∧ Nm w' x q ∧ Below w.heap.size w w' := by
  have HD := Lib.hid hD
  have HA := Lib.hid hA
  have HOK := Lib.hid hok
  have HV := Lib.hid hv
  have HVL := Lib.hid hl
  have HQ := Lib.hid hq
  clear hD hA hok hv hl hq
  subst hm hn
  go_enter Try.func73, Try.ntmps73
  go_upto_region 1 with fail
  have bw := (Below.refl w.heap.size w).alloc (Nat.le_refl _) (.cells #[.bool false, .slice none 0 0, .slice none 0 0] 41)
  have bk := bk3_new w
  generalize (w.alloc (.cells #[.bool false, .slice none 0 0, .slice none 0 0] 41)) = wm at bw bk ⊢
  have HBK := Lib.hid bk
  have hB : w.heap.size + 1 ≤ wm.heap.size := bk.lt
  clear bk
  go_wp2_with fail
  refine (rwhole_any wm 0 (by omega) (by omega)).mono ?_
  rintro e wn ⟨x1, rfl, _, n1, bb⟩
  have HBK1 := Lib.hid (HBK.out.below bb)
  replace bw := below_on bw bb bw.size
  have hB1 : w.heap.size + 1 ≤ wn.heap.size := Nat.le_trans hB bb.size
  clear HBK bb hB
  go_upto_region 2 with fail
  have v1 := (nv_alloc n1).1
  have bb := (nv_alloc n1).2
  clear n1
  generalize (wn.alloc (.cells #[.bool x1.b, .slice x1.A x1.xs.length x1.c, .slice x1.D x1.ys.length x1.d] 41)) = wm at v1 bb ⊢
  have HBK := Lib.hid (HBK1.out.below bb)
  replace bw := below_on bw bb bw.size
  clear HBK1 bb
  generalize wn.heap.size = g7 at v1 hB1 ⊢
  go_wp2_with fail
  go_loopw [8] (fun i wr => ∃ (k : Nat) (x : Fx) (p : Rat), k ≤ fs.length ∧ i = .int .i64 k ∧ loadE (fs.map Fm.fl) (vs.map Fx.q) link k = some p ∧ Nv wr g7 x p ∧ Bk3 wr w.heap.size (.bool false) (.slice none 0 0) (.slice none 0 0) ∧ Below w.heap.size w wr) (fun i _ => fs.length - (intOf i).toNat)
  case atStart => exact ⟨0, x1, _, by omega, rfl, rfl, v1, HBK.out, bw⟩
  case round =>
    clear v1 HBK bw
    obtain ⟨k, x1, p, hkl, rfl, hp, v1, bk, bw⟩ := hrel
    have HP := Lib.hid hp
    have H1 := Lib.hid v1
    have HBK := Lib.hid bk
    have HBW := Lib.hid bw
    clear hp v1 bk
    by_cases hlt : k < fs.length
    · have hW := HD.out.below bw
      obtain ⟨ad, rfl, _, hcc⟩ := hW.rd (by omega)
      obtain ⟨hc0, hc1⟩ := hcc k hlt
      have hox := hW.ok _ (List.getElem_mem hlt)
      have hlk := (fmap_lk hlt).1
      have hcap := HD.out.cap
      have hmax := HD.out.max
      obtain ⟨x, hx⟩ : ∃ x, fs[k] = x := ⟨_, rfl⟩
      rw [hx] at hc0 hc1 hox hlk
      have HLK := Lib.hid hlk
      clear hcc hx hW hlk bw
      obtain ⟨u, hu⟩ : ∃ u, decide (link ∈ x.ls) = u := ⟨_, rfl⟩
      have HU := Lib.hid hu
      clear hu
      go_wp2_with fail
      refine (ruses_any wr x link u hox HU.out).mono ?_
      rintro e w2 ⟨rfl, bb⟩
      replace H1 := Lib.hid (H1.out.below bb)
      replace HBK := Lib.hid (HBK.out.below bb)
      replace HBW := Lib.hid (below_on HBW.out bb HBW.out.size)
      clear hox hc0 hc1 bb
      cases u with
      | false =>
        have HNX : Hid (loadE (fs.map Fm.fl) (vs.map Fx.q) link (k + 1) = some p) := Lib.hid (by rw [loadE_skip_step (by rw [HLK.out]; exact of_decide_eq_false HU.out)]; exact HP.out)
        go_wp2_with fail
        go_roundw
        case rel => exact ⟨k + 1, x1, p, by omega, by go_num, HNX.out, H1.out, HBK.out, HBW.out⟩
        case measure => simp [intOf]; omega
      | true =>
        have hkv : k < vs.length := by rw [HVL.out]; exact hlt
        have hst := loadE_used_step (l := fs.map Fm.fl) (R := vs.map Fx.q) (link := link) (i := k) (by rw [HLK.out]; exact of_decide_eq_true HU.out)
        rw [HP.out, map_q_getD vs hkv] at hst
        obtain ⟨r, hr⟩ := loadE_pre fs.length (k + 1) (by omega) ⟨q, HQ.out⟩
        have hnb : ¬ bigQ (p + vs[k].q) := fun hb => by
          have h2 : some r = addE p vs[k].q := by rw [← hr, hst]; rfl
          rw [addE, if_pos hb] at h2
          cases h2
        have HNX : Hid (loadE (fs.map Fm.fl) (vs.map Fx.q) link (k + 1) = some (p + vs[k].q)) := Lib.hid (by
          rw [hst]
          show addE p vs[k].q = _
          rw [addE, if_neg hnb])
        obtain ⟨ad2, rfl, el⟩ := (HA.out.below HBW.out).at k hkv
        have n2 := (okf_nm HOK.out HV.out hkv).below HBW.out
        obtain ⟨x2, hx2⟩ : ∃ x2, vs[k] = x2 := ⟨_, rfl⟩
        rw [hx2] at el n2 hnb HNX
        have hel0 := (HA.out.at k hkv)
        rw [hx2] at hel0
        have HEL : Hid (∀ w', Below w.heap.size w w' → w'.cell? (ad2.add (k * 3)) = some (.bool x2.b) ∧ w'.cell? ⟨(ad2.add (k * 3)).block, (ad2.add (k * 3)).off + 1, none⟩ = some (.slice x2.A x2.xs.length x2.c) ∧ w'.cell? ⟨(ad2.add (k * 3)).block, (ad2.add (k * 3)).off + 2, none⟩ = some (.slice x2.D x2.ys.length x2.d)) := Lib.hid (fun w' hb => by
          obtain ⟨ad', e', h'⟩ := hel0
          injection e' with e'
          subst e'
          have h3 := h'.below hb
          exact ⟨h3.c0, h3.c1, h3.c2⟩)
        have H2 := Lib.hid n2
        have HNB : Hid (¬ bigQ (p + x2.q)) := hnb
        clear hst hr hx2 el n2 hnb hel0
        go_upto_region 6 with fail
        refine wp_region_held_drew (S := fun w' => w'.cell? (ad2.add (k * 3)) = some (.bool x2.b) ∧ w'.cell? ⟨(ad2.add (k * 3)).block, (ad2.add (k * 3)).off + 1, none⟩ = some (.slice x2.A x2.xs.length x2.c) ∧ w'.cell? ⟨(ad2.add (k * 3)).block, (ad2.add (k * 3)).off + 2, none⟩ = some (.slice x2.D x2.ys.length x2.d)) (by kernel_rfl) (HEL.out _ (below_on HBW.out ((Below.refl w2.heap.size w2).drew) HBW.out.size)) (fun hHeld => ?_)
        have bz := (Below.refl w2.heap.size w2).drew
        generalize w2.drew = wd at *
        refine tkw 1 (.slice (some ad2) vs.length c) rfl (by kernel_rfl) (by kernel_rfl) (by kernel_rfl) (fun _ _ _ h => h) ⟨by rfl, ?_⟩ (by assumption) ?_
        ·intro w hSw; go_simp; (try with_reducible rfl)
        try simp only [Act.put, tzA, tzB, tzC, tzD, tzE, tzF]
        refine tkw 2 (.int .i64 (k : Int)) rfl (by kernel_rfl) (by kernel_rfl) (by kernel_rfl) (fun _ _ _ h => h) ⟨by rfl, ?_⟩ (by assumption) ?_
        ·intro w hSw; go_simp; (try with_reducible rfl)
        try simp only [Act.put, tzA, tzB, tzC, tzD, tzE, tzF]
        refine tkw 3 (.pointer (some (ad2.add (k * 3)))) rfl (by kernel_rfl) (by kernel_rfl) (by kernel_rfl) (fun _ _ _ h => h) ⟨by rfl, ?_⟩ (by assumption) ?_
        ·intro w hSw; go_simp; (try with_reducible rfl)
        try simp only [Act.put, tzA, tzB, tzC, tzD, tzE, tzF]
        refine tkw 4 (x2.val) rfl (by kernel_rfl) (by kernel_rfl) (by kernel_rfl) (fun _ _ _ h => h) ⟨by rfl, ?_⟩ (by assumption) ?_
        ·intro w hSw; (try dsimp only at hSw); obtain ⟨s0, s1, s2⟩ := hSw; go_simp; (try with_reducible rfl)
        try simp only [Act.put, tzA, tzB, tzC, tzD, tzE, tzF]
        refine wpAnyH_ready (rs := [0]) (by kernel_rfl) (by simp) ?_
        refine AllReadyH.cons rfl (fun K hK => ?_) ?_
        ·have vd := H1.out.below bz
         have k0 := vd.c0
         have k1 := vd.c1
         have k2 := vd.c2
         go_simp
         clear vd k0 k1 k2
         refine hK.out _ _ (HEL.out _ (by first | exact b5 | exact below_on HBW.out bz HBW.out.size)) (fun hHeld => ?_)
         clear hK K
         try simp only [Act.put]
         try simp only [tzD, tzE, tzF]
         refine wpAnyH_ready (rs := [5]) (by kernel_rfl) (by simp) ?_
         refine AllReadyH.cons rfl (fun K hK => ?_) ?_
         ·go_simp
          go_at_call 70
          refine (radd_nm wd x1 x2 _ _ (H1.out.below bz).nm (H2.out.below bz) HNB.out).mono ?_
          rintro e wd ⟨x3, rfl, n3, bb⟩
          try replace n3 := n3.below bb
          replace bz := below_on bz bb bz.size
          clear bb
          refine hK.out _ _ (HEL.out _ (by first | exact b5 | exact below_on HBW.out bz HBW.out.size)) (fun hHeld => ?_)
          clear hK K
          try simp only [Act.put]
          try simp only [tzD, tzE, tzF]
          refine tkw 6 (.tuple #[x3.val, .int .i64 0]) rfl (by kernel_rfl) (by kernel_rfl) (by kernel_rfl) (fun _ _ _ h => h) ⟨by rfl, ?_⟩ (by assumption) ?_
          ·intro w hSw; go_simp; (try with_reducible rfl)
          try simp only [Act.put, tzA, tzB, tzC, tzD, tzE, tzF]
          refine tkw 7 (x3.val) rfl (by kernel_rfl) (by kernel_rfl) (by kernel_rfl) (fun _ _ _ h => h) ⟨by rfl, ?_⟩ (by assumption) ?_
          ·intro w hSw; go_simp; (try with_reducible rfl)
          try simp only [Act.put, tzA, tzB, tzC, tzD, tzE, tzF]
          refine tkw 8 (.int .i64 0) rfl (by kernel_rfl) (by kernel_rfl) (by kernel_rfl) (fun _ _ _ h => h) ⟨by rfl, ?_⟩ (by assumption) ?_
          ·intro w hSw; go_simp; (try with_reducible rfl)
          try simp only [Act.put, tzA, tzB, tzC, tzD, tzE, tzF]
          refine wpAnyH_ready (rs := [9]) (by kernel_rfl) (by simp) ?_
          refine AllReadyH.cons rfl (fun K hK => ?_) ?_
          ·have vd := H1.out.below bz
           have t := vd.fa.bk
           obtain ⟨k0, k1, k2, kf0, kf1, kf2, _, _⟩ := t
           go_simp
           clear k0 k1 k2 kf0 kf1 kf2
           have a3 := Nv.mk' (vd.fa.put n3.ok) n3
           have kk := (HBK.out.below bz).far (H := g7) (a := .bool x3.b) (b := .slice x3.A x3.xs.length x3.c) (c := .slice x3.D x3.ys.length x3.d) (by omega)
           have b5 := set3g (G := g7) (a := .bool x3.b) (b := .slice x3.A x3.xs.length x3.c) (c := .slice x3.D x3.ys.length x3.d) (below_on HBW.out bz HBW.out.size) (by omega)
           clear vd bz n3 hHeld
           generalize (((wd.setCell ⟨g7, 0, none⟩ (.bool x3.b)).setCell ⟨g7, 1, none⟩ (.slice x3.A x3.xs.length x3.c)).setCell ⟨g7, 2, none⟩ (.slice x3.D x3.ys.length x3.d)) = we at *
           generalize we = wd at *
           refine hK.out _ _ (HEL.out _ (by first | exact b5 | exact below_on HBW.out bz HBW.out.size)) (fun hHeld => ?_)
           clear hK K
           try simp only [Act.put]
           try simp only [tzD, tzE, tzF]
           refine wpAnyH_done (by kernel_rfl) ?_ _
           go_wp2_with fail
           go_roundw
           case rel => exact ⟨k + 1, x3, _, by omega, by go_num, HNX.out, a3, kk, b5⟩
           case measure => simp [intOf]; omega
          exact AllReadyH.nil
         exact AllReadyH.nil
        exact AllReadyH.nil
    · have hke : k = fs.length := by omega
      have HPQ : Hid (p = q) := Lib.hid (by
        have h1 := HP.out
        rw [hke, HQ.out] at h1
        exact (Option.some.inj h1).symm)
      have c0 := H1.out.c0
      have c1 := H1.out.c1
      have c2 := H1.out.c2
      have bk := HBK.out
      have tk := bk
      obtain ⟨k0, k1, k2, kf0, kf1, kf2, klt, kb⟩ := tk
      clear kb
      clear hke
      go_wp2_with fail
      refine bodyPost_ret (v := x1.val) (by simp [results, Try.results73, go_sem, k0, k1, k2]) rfl ?_
      rw [HPQ.out] at H1
      exact ⟨x1, rfl, ⟨set3_ok H1.out.fa.ok bk rfl rfl rfl, H1.out.v, H1.out.q, H1.out.l, H1.out.m⟩, set3g bw (Nat.le_refl _)⟩
end Go.Proofs.Ythdfflbhogfejaa
namespace Go.Proofs.Ythdfflbhogfejaa
set_option maxRecDepth 100000
open Go.RowKit

/-- the rates of every link can be added -/
def sumsP (caps : List Int) (l : List Fl) (R : List Rat) : Prop := ∀ k : Nat, k < caps.length → ∃ q, loadE l R (k : Int) l.length = some q
theorem not_sumsP {caps : List Int} {l : List Fl} {R : List Rat} {k i : Nat} (hk : k < caps.length) (hi : i ≤ l.length) (h : loadE l R (k : Int) i = none) : ¬ sumsP caps l R := fun hs => by
 obtain ⟨q, hq⟩ := loadE_pre l.length i hi (hs k hk)
 rw [h] at hq
 cases hq
set_option maxHeartbeats 3200000 in
theorem rsummable_any (w : World) (C : Option Addr) (nC cC : Nat) (caps : List Int) (D : Option Addr) (m d : Nat) (fs : List Fm) (A : Option Addr) (n c : Nat) (vs : List Fx) (b : Bool) (hD : Ws w D d fs) (hA : RdF w A vs) (hok : OkF w vs) (hv : ∀ v ∈ vs, v.v) (hnC : nC = caps.length) (hm : m = fs.length) (hn : n = vs.length) (hl : vs.length = fs.length) (hle : fs.length ≤ 100) (hlc : caps.length ≤ 100) (hb : sumsP caps (fs.map Fm.fl) (vs.map Fx.q) ↔ b = true) :
 Calls Try.prog 55 #[.slice C nC cC, .slice D m d, .slice A n c] w fun e w' => e = .returned (.bool b) ∧ Below w.heap.size w w' := by
 have HD := Lib.hid hD
 have HA := Lib.hid hA
 have HOK := Lib.hid hok
 have HV := Lib.hid hv
 have HVL := Lib.hid hl
 have HB := Lib.hid hb
 have HBF : Hid (¬ sumsP caps (fs.map Fm.fl) (vs.map Fx.q) → b = false) := Lib.hid (fun h => by cases b with
  | false => rfl
  | true => exact absurd (hb.2 rfl) h)
 clear hD hA hok hv hl hb
 subst hm hn hnC
 go_enter Try.func55, Try.ntmps55
 go_wp2_with fail
 go_loopw [7] (fun tv wr => ∃ t : Nat, t ≤ caps.length ∧ tv = .int .i64 (t : Int) ∧ (∀ k : Nat, k < t → ∃ q, loadE (fs.map Fm.fl) (vs.map Fx.q) (k : Int) (fs.map Fm.fl).length = some q) ∧ Below w.heap.size w wr) (fun tv _ => caps.length - (intOf tv).toNat)
 case atStart => exact ⟨0, by omega, rfl, fun k h => by omega, Below.refl _ _⟩
 case round =>
  obtain ⟨t, ht, rfl, hdone, bw⟩ := hrel
  have HDN := Lib.hid hdone
  clear hdone
  by_cases htc : t < caps.length
  ·go_wp2_with fail
   refine (rwhole_any wr 0 (by omega) (by omega)).mono ?_
   rintro e wn ⟨x1, rfl, _, n1, bb⟩
   replace bw := below_on bw bb bw.size
   clear bb
   go_upto_region 5 with fail
   have v1 := (nv_alloc n1).1
   have bb := (nv_alloc n1).2
   have hB1 := bw.size
   clear n1
   generalize (wn.alloc (.cells #[.bool x1.b, .slice x1.A x1.xs.length x1.c, .slice x1.D x1.ys.length x1.d] 41)) = wm at v1 bb ⊢
   replace bw := below_on bw bb bw.size
   clear bb
   generalize wn.heap.size = g8 at v1 hB1 ⊢
   go_wp2_with fail
   go_loopw [9, 10] (fun ev i wr => ∃ (k : Nat) (x : Fx) (p : Rat), k ≤ fs.length ∧ i = .int .i64 k ∧ ev = .int .i64 0 ∧ loadE (fs.map Fm.fl) (vs.map Fx.q) (t : Int) k = some p ∧ Nv wr g8 x p ∧ Below w.heap.size w wr) (fun _ i _ => fs.length - (intOf i).toNat)
   case atStart => exact ⟨0, x1, _, by omega, rfl, rfl, rfl, v1, bw⟩
   case round =>
    clear v1 bw
    obtain ⟨k, x1, p, hkl, rfl, rfl, hp, v1, bw⟩ := hrel
    have HP := Lib.hid hp
    have H1 := Lib.hid v1
    have HBW := Lib.hid bw
    clear hp v1
    by_cases hlt : k < fs.length
    ·have hW := HD.out.below bw
     obtain ⟨ad, rfl, _, hcc⟩ := hW.rd (by omega)
     obtain ⟨hc0, hc1⟩ := hcc k hlt
     have hox := hW.ok _ (List.getElem_mem hlt)
     have hlk := (fmap_lk hlt).1
     have hcap := HD.out.cap
     have hmax := HD.out.max
     obtain ⟨x, hx⟩ : ∃ x, fs[k] = x := ⟨_, rfl⟩
     rw [hx] at hc0 hc1 hox hlk
     have HLK := Lib.hid hlk
     clear hcc hx hW hlk bw
     obtain ⟨u, hu⟩ : ∃ u, decide ((t : Int) ∈ x.ls) = u := ⟨_, rfl⟩
     have HU := Lib.hid hu
     clear hu
     go_wp2_with fail
     refine (ruses_any wr x (t : Int) u hox HU.out).mono ?_
     rintro e w2 ⟨rfl, bb⟩
     replace H1 := Lib.hid (H1.out.below bb)
     replace HBW := Lib.hid (below_on HBW.out bb HBW.out.size)
     clear hox hc0 hc1 bb
     cases u with
     | false =>
       have HNX : Hid (loadE (fs.map Fm.fl) (vs.map Fx.q) (t : Int) (k + 1) = some p) := Lib.hid (by rw [loadE_skip_step (by rw [HLK.out]; exact of_decide_eq_false HU.out)]; exact HP.out)
       go_wp2_with fail
       go_roundw
       case rel => exact ⟨k + 1, x1, p, by omega, by go_num, rfl, HNX.out, H1.out, HBW.out⟩
       case measure => simp [intOf]; omega
     | true =>
       have hkv : k < vs.length := by rw [HVL.out]; exact hlt
       have hst := loadE_used_step (l := fs.map Fm.fl) (R := vs.map Fx.q) (link := (t : Int)) (i := k) (by rw [HLK.out]; exact of_decide_eq_true HU.out)
       rw [HP.out, map_q_getD vs hkv] at hst
       replace hst : loadE (fs.map Fm.fl) (vs.map Fx.q) (t : Int) (k + 1) = addE p vs[k].q := hst
       obtain ⟨ad2, rfl, el⟩ := (HA.out.below HBW.out).at k hkv
       have n2 := (okf_nm HOK.out HV.out hkv).below HBW.out
       have hel0 := (HA.out.at k hkv)
       obtain ⟨x2, hx2⟩ : ∃ x2, vs[k] = x2 := ⟨_, rfl⟩
       rw [hx2] at el n2 hst hel0
       have HEL : Hid (∀ w', Below w.heap.size w w' → w'.cell? (ad2.add (k * 3)) = some (.bool x2.b) ∧ w'.cell? ⟨(ad2.add (k * 3)).block, (ad2.add (k * 3)).off + 1, none⟩ = some (.slice x2.A x2.xs.length x2.c) ∧ w'.cell? ⟨(ad2.add (k * 3)).block, (ad2.add (k * 3)).off + 2, none⟩ = some (.slice x2.D x2.ys.length x2.d)) := Lib.hid (fun w' hb => by
        obtain ⟨ad', e', h'⟩ := hel0
        injection e' with e'
        subst e'
        have h3 := h'.below hb
        exact ⟨h3.c0, h3.c1, h3.c2⟩)
       have H2 := Lib.hid n2
       have HST := Lib.hid hst
       clear hst hx2 el n2 hel0
       by_cases hbig : bigQ (p + x2.q)
       ·have HBB : Hid (b = false) := Lib.hid (HBF.out (not_sumsP (k := t) (i := k + 1) htc (by simp; omega) (by rw [HST.out, addE, if_pos hbig])))
        have HNB : Hid (bigQ (p + x2.q)) := hbig
        clear hbig
        go_upto_region 9 with fail
        refine wp_region_held_drew (S := fun w' => w'.cell? (ad2.add (k * 3)) = some (.bool x2.b) ∧ w'.cell? ⟨(ad2.add (k * 3)).block, (ad2.add (k * 3)).off + 1, none⟩ = some (.slice x2.A x2.xs.length x2.c) ∧ w'.cell? ⟨(ad2.add (k * 3)).block, (ad2.add (k * 3)).off + 2, none⟩ = some (.slice x2.D x2.ys.length x2.d)) (by kernel_rfl) (HEL.out _ (below_on HBW.out ((Below.refl w2.heap.size w2).drew) HBW.out.size)) (fun hHeld => ?_)
        have bz := (Below.refl w2.heap.size w2).drew
        generalize w2.drew = wd at *
        refine tkw 1 (.slice (some ad2) vs.length c) rfl (by kernel_rfl) (by kernel_rfl) (by kernel_rfl) (fun _ _ _ h => h) ⟨by rfl, ?_⟩ (by assumption) ?_
        ·intro w hSw; go_simp; (try with_reducible rfl)
        try simp only [Act.put, tzA, tzB, tzC, tzD, tzE, tzF]
        refine tkw 2 (.int .i64 (k : Int)) rfl (by kernel_rfl) (by kernel_rfl) (by kernel_rfl) (fun _ _ _ h => h) ⟨by rfl, ?_⟩ (by assumption) ?_
        ·intro w hSw; go_simp; (try with_reducible rfl)
        try simp only [Act.put, tzA, tzB, tzC, tzD, tzE, tzF]
        refine tkw 3 (.pointer (some (ad2.add (k * 3)))) rfl (by kernel_rfl) (by kernel_rfl) (by kernel_rfl) (fun _ _ _ h => h) ⟨by rfl, ?_⟩ (by assumption) ?_
        ·intro w hSw; go_simp; (try with_reducible rfl)
        try simp only [Act.put, tzA, tzB, tzC, tzD, tzE, tzF]
        refine tkw 4 (x2.val) rfl (by kernel_rfl) (by kernel_rfl) (by kernel_rfl) (fun _ _ _ h => h) ⟨by rfl, ?_⟩ (by assumption) ?_
        ·intro w hSw; (try dsimp only at hSw); obtain ⟨s0, s1, s2⟩ := hSw; go_simp; (try with_reducible rfl)
        try simp only [Act.put, tzA, tzB, tzC, tzD, tzE, tzF]
        refine wpAnyH_ready (rs := [0]) (by kernel_rfl) (by simp) ?_
        refine AllReadyH.cons rfl (fun K hK => ?_) ?_
        ·have vd := H1.out.below bz
         have k0 := vd.c0
         have k1 := vd.c1
         have k2 := vd.c2
         go_simp
         clear vd k0 k1 k2
         refine hK.out _ _ (HEL.out _ (by first | exact b5 | exact below_on HBW.out bz HBW.out.size)) (fun hHeld => ?_)
         clear hK K
         try simp only [Act.put]
         try simp only [tzD, tzE, tzF]
         refine wpAnyH_ready (rs := [5]) (by kernel_rfl) (by simp) ?_
         refine AllReadyH.cons rfl (fun K hK => ?_) ?_
         ·go_simp
          go_at_call 70
          refine (radd_big wd x1 x2 _ _ (H1.out.below bz).nm (H2.out.below bz) HNB.out).mono ?_
          rintro e wd ⟨x3, rfl, n3, bb⟩
          try replace n3 := n3.below bb
          replace bz := below_on bz bb bz.size
          clear bb
          refine hK.out _ _ (HEL.out _ (by first | exact b5 | exact below_on HBW.out bz HBW.out.size)) (fun hHeld => ?_)
          clear hK K
          try simp only [Act.put]
          try simp only [tzD, tzE, tzF]
          refine tkw 6 (.tuple #[x3.val, .int .i64 2]) rfl (by kernel_rfl) (by kernel_rfl) (by kernel_rfl) (fun _ _ _ h => h) ⟨by rfl, ?_⟩ (by assumption) ?_
          ·intro w hSw; go_simp; (try with_reducible rfl)
          try simp only [Act.put, tzA, tzB, tzC, tzD, tzE, tzF]
          refine tkw 7 (x3.val) rfl (by kernel_rfl) (by kernel_rfl) (by kernel_rfl) (fun _ _ _ h => h) ⟨by rfl, ?_⟩ (by assumption) ?_
          ·intro w hSw; go_simp; (try with_reducible rfl)
          try simp only [Act.put, tzA, tzB, tzC, tzD, tzE, tzF]
          refine tkw 8 (.int .i64 2) rfl (by kernel_rfl) (by kernel_rfl) (by kernel_rfl) (fun _ _ _ h => h) ⟨by rfl, ?_⟩ (by assumption) ?_
          ·intro w hSw; go_simp; (try with_reducible rfl)
          try simp only [Act.put, tzA, tzB, tzC, tzD, tzE, tzF]
          refine wpAnyH_ready (rs := [9]) (by kernel_rfl) (by simp) ?_
          refine AllReadyH.cons rfl (fun K hK => ?_) ?_
          ·have vd := H1.out.below bz
           have t := vd.fa.bk
           obtain ⟨k0, k1, k2, kf0, kf1, kf2, _, _⟩ := t
           go_simp
           clear k0 k1 k2 kf0 kf1 kf2
           have b5 := set3g (G := g8) (a := .bool x3.b) (b := .slice x3.A x3.xs.length x3.c) (c := .slice x3.D x3.ys.length x3.d) (below_on HBW.out bz HBW.out.size) (by omega)
           clear vd bz n3 hHeld
           generalize (((wd.setCell ⟨g8, 0, none⟩ (.bool x3.b)).setCell ⟨g8, 1, none⟩ (.slice x3.A x3.xs.length x3.c)).setCell ⟨g8, 2, none⟩ (.slice x3.D x3.ys.length x3.d)) = we at *
           generalize we = wd at *
           refine hK.out _ _ (HEL.out _ (by first | exact b5 | exact below_on HBW.out bz HBW.out.size)) (fun hHeld => ?_)
           clear hK K
           try simp only [Act.put]
           try simp only [tzD, tzE, tzF]
           refine wpAnyH_ready (rs := [10]) (by kernel_rfl) (by simp) ?_
           refine AllReadyH.cons rfl (fun K hK => ?_) ?_
           ·go_simp
            refine hK.out _ _ (HEL.out _ (by first | exact b5 | exact below_on HBW.out bz HBW.out.size)) (fun hHeld => ?_)
            clear hK K
            try simp only [Act.put]
            try simp only [tzD, tzE, tzF]
            refine wpAnyH_done (by kernel_rfl) ?_ _
            go_wp2_with fail
            go_ret
            exact ⟨ret_bool HBB.out.symm, b5⟩
           exact AllReadyH.nil
          exact AllReadyH.nil
         exact AllReadyH.nil
        exact AllReadyH.nil
       ·have HNX : Hid (loadE (fs.map Fm.fl) (vs.map Fx.q) (t : Int) (k + 1) = some (p + x2.q)) := Lib.hid (by rw [HST.out, addE, if_neg hbig])
        have HNB : Hid (¬ bigQ (p + x2.q)) := hbig
        clear hbig
        go_upto_region 9 with fail
        refine wp_region_held_drew (S := fun w' => w'.cell? (ad2.add (k * 3)) = some (.bool x2.b) ∧ w'.cell? ⟨(ad2.add (k * 3)).block, (ad2.add (k * 3)).off + 1, none⟩ = some (.slice x2.A x2.xs.length x2.c) ∧ w'.cell? ⟨(ad2.add (k * 3)).block, (ad2.add (k * 3)).off + 2, none⟩ = some (.slice x2.D x2.ys.length x2.d)) (by kernel_rfl) (HEL.out _ (below_on HBW.out ((Below.refl w2.heap.size w2).drew) HBW.out.size)) (fun hHeld => ?_)
        have bz := (Below.refl w2.heap.size w2).drew
        generalize w2.drew = wd at *
        refine tkw 1 (.slice (some ad2) vs.length c) rfl (by kernel_rfl) (by kernel_rfl) (by kernel_rfl) (fun _ _ _ h => h) ⟨by rfl, ?_⟩ (by assumption) ?_
        ·intro w hSw; go_simp; (try with_reducible rfl)
        try simp only [Act.put, tzA, tzB, tzC, tzD, tzE, tzF]
        refine tkw 2 (.int .i64 (k : Int)) rfl (by kernel_rfl) (by kernel_rfl) (by kernel_rfl) (fun _ _ _ h => h) ⟨by rfl, ?_⟩ (by assumption) ?_
        ·intro w hSw; go_simp; (try with_reducible rfl)
        try simp only [Act.put, tzA, tzB, tzC, tzD, tzE, tzF]
        refine tkw 3 (.pointer (some (ad2.add (k * 3)))) rfl (by kernel_rfl) (by kernel_rfl) (by kernel_rfl) (fun _ _ _ h => h) ⟨by rfl, ?_⟩ (by assumption) ?_
        ·intro w hSw; go_simp; (try with_reducible rfl)
        try simp only [Act.put, tzA, tzB, tzC, tzD, tzE, tzF]
        refine tkw 4 (x2.val) rfl (by kernel_rfl) (by kernel_rfl) (by kernel_rfl) (fun _ _ _ h => h) ⟨by rfl, ?_⟩ (by assumption) ?_
        ·intro w hSw; (try dsimp only at hSw); obtain ⟨s0, s1, s2⟩ := hSw; go_simp; (try with_reducible rfl)
        try simp only [Act.put, tzA, tzB, tzC, tzD, tzE, tzF]
        refine wpAnyH_ready (rs := [0]) (by kernel_rfl) (by simp) ?_
        refine AllReadyH.cons rfl (fun K hK => ?_) ?_
        ·have vd := H1.out.below bz
         have k0 := vd.c0
         have k1 := vd.c1
         have k2 := vd.c2
         go_simp
         clear vd k0 k1 k2
         refine hK.out _ _ (HEL.out _ (by first | exact b5 | exact below_on HBW.out bz HBW.out.size)) (fun hHeld => ?_)
         clear hK K
         try simp only [Act.put]
         try simp only [tzD, tzE, tzF]
         refine wpAnyH_ready (rs := [5]) (by kernel_rfl) (by simp) ?_
         refine AllReadyH.cons rfl (fun K hK => ?_) ?_
         ·go_simp
          go_at_call 70
          refine (radd_nm wd x1 x2 _ _ (H1.out.below bz).nm (H2.out.below bz) HNB.out).mono ?_
          rintro e wd ⟨x3, rfl, n3, bb⟩
          try replace n3 := n3.below bb
          replace bz := below_on bz bb bz.size
          clear bb
          refine hK.out _ _ (HEL.out _ (by first | exact b5 | exact below_on HBW.out bz HBW.out.size)) (fun hHeld => ?_)
          clear hK K
          try simp only [Act.put]
          try simp only [tzD, tzE, tzF]
          refine tkw 6 (.tuple #[x3.val, .int .i64 0]) rfl (by kernel_rfl) (by kernel_rfl) (by kernel_rfl) (fun _ _ _ h => h) ⟨by rfl, ?_⟩ (by assumption) ?_
          ·intro w hSw; go_simp; (try with_reducible rfl)
          try simp only [Act.put, tzA, tzB, tzC, tzD, tzE, tzF]
          refine tkw 7 (x3.val) rfl (by kernel_rfl) (by kernel_rfl) (by kernel_rfl) (fun _ _ _ h => h) ⟨by rfl, ?_⟩ (by assumption) ?_
          ·intro w hSw; go_simp; (try with_reducible rfl)
          try simp only [Act.put, tzA, tzB, tzC, tzD, tzE, tzF]
          refine tkw 8 (.int .i64 0) rfl (by kernel_rfl) (by kernel_rfl) (by kernel_rfl) (fun _ _ _ h => h) ⟨by rfl, ?_⟩ (by assumption) ?_
          ·intro w hSw; go_simp; (try with_reducible rfl)
          try simp only [Act.put, tzA, tzB, tzC, tzD, tzE, tzF]
          refine wpAnyH_ready (rs := [9]) (by kernel_rfl) (by simp) ?_
          refine AllReadyH.cons rfl (fun K hK => ?_) ?_
          ·have vd := H1.out.below bz
           have t := vd.fa.bk
           obtain ⟨k0, k1, k2, kf0, kf1, kf2, _, _⟩ := t
           go_simp
           clear k0 k1 k2 kf0 kf1 kf2
           have a3 := Nv.mk' (vd.fa.put n3.ok) n3
           have b5 := set3g (G := g8) (a := .bool x3.b) (b := .slice x3.A x3.xs.length x3.c) (c := .slice x3.D x3.ys.length x3.d) (below_on HBW.out bz HBW.out.size) (by omega)
           clear vd bz n3 hHeld
           generalize (((wd.setCell ⟨g8, 0, none⟩ (.bool x3.b)).setCell ⟨g8, 1, none⟩ (.slice x3.A x3.xs.length x3.c)).setCell ⟨g8, 2, none⟩ (.slice x3.D x3.ys.length x3.d)) = we at *
           generalize we = wd at *
           refine hK.out _ _ (HEL.out _ (by first | exact b5 | exact below_on HBW.out bz HBW.out.size)) (fun hHeld => ?_)
           clear hK K
           try simp only [Act.put]
           try simp only [tzD, tzE, tzF]
           refine wpAnyH_ready (rs := [10]) (by kernel_rfl) (by simp) ?_
           refine AllReadyH.cons rfl (fun K hK => ?_) ?_
           ·go_simp
            refine hK.out _ _ (HEL.out _ (by first | exact b5 | exact below_on HBW.out bz HBW.out.size)) (fun hHeld => ?_)
            clear hK K
            try simp only [Act.put]
            try simp only [tzD, tzE, tzF]
            refine wpAnyH_done (by kernel_rfl) ?_ _
            go_wp2_with fail
            go_roundw
            case rel => exact ⟨k + 1, x3, _, by omega, by go_num, rfl, HNX.out, a3, b5⟩
            case measure => simp [intOf]; omega
           exact AllReadyH.nil
          exact AllReadyH.nil
         exact AllReadyH.nil
        exact AllReadyH.nil
    ·have HNX : Hid (∀ k : Nat, k < t + 1 → ∃ q, loadE (fs.map Fm.fl) (vs.map Fx.q) (k : Int) (fs.map Fm.fl).length = some q) := Lib.hid (fun j hj => by
      rcases Nat.lt_or_ge j t with h | h
      ·exact HDN.out j h
      ·obtain rfl : j = t := by omega
       have h1 := HP.out
       rw [show k = (fs.map Fm.fl).length by rw [List.length_map]; omega] at h1
       exact ⟨_, h1⟩)
     go_wp2_with fail
     go_roundw
     case rel => exact ⟨t + 1, by omega, by go_num, HNX.out, HBW.out⟩
     case measure => simp [intOf]; omega
  ·have HBT : Hid (b = true) := Lib.hid (HB.out.1 (fun k hk => HDN.out k (by omega)))
   go_wp2_with fail
   go_ret
   exact ⟨ret_bool HBT.out.symm, bw⟩
end Go.Proofs.Ythdfflbhogfejaa
