/- The walk of fairshare.level. -/
import Derived.Test.YthdfflbhogfejaaFhB
import Derived.Deep.CutBlock
import Derived.Deep.DeepCutAuto
import Derived.Deep.RegionHeld3
namespace Go.Proofs.Ythdfflbhogfejaa
set_option maxRecDepth 100000
open Go.RowKit

/-- how the rates and who rises lie in memory -/
structure Rv (w : World) (l : List Fl) (s : Rt) (vs : List Fx) (bs : List Bool) : Prop where
  lr : s.r.length = l.length
  lv : vs.length = l.length
  lb : bs.length = l.length
  at_ : ∀ i (h : i < vs.length), Nm w vs[i] (s.r.getD i 0)
  bs : bs = s.a
theorem Rv.below {w w' : World} {l : List Fl} {s : Rt} {vs : List Fx} {bs : List Bool} (h : Rv w l s vs bs) (hb : Below w.heap.size w w') : Rv w' l s vs bs := ⟨h.lr, h.lv, h.lb, fun i hi => (h.at_ i hi).below hb, h.bs⟩
/-- the sizes that level needs -/
structure LvS (cp : Int → Int) (l : List Fl) (s : Rt) (link : Int) : Prop where
  cb : 0 ≤ cp link ∧ cp link ≤ 4096
  sz : ∀ i, i ≤ l.length → Sz ((cp link : Rat) - sumTo (tkS l s link) i) 128 128
  lev : ∀ x, Proofs.Ythdfflbhogfejaa.lev cp l s link = some x → Sz x 128 128
theorem SmR.lvs {cp : Int → Int} {l : List Fl} {s : Rt} {D : Nat} (h : SmR cp l s D) (hl : l.length ≤ 14) (k : Int) (hc : 0 ≤ cp k ∧ cp k ≤ 4096) : LvS cp l s k :=
  ⟨hc, fun i hi => (h.sz (h.rest hl k hc i hi) (by omega)).mono (by omega) (by omega), fun x hx => (h.lev hl k hc hx).mono (by omega) (by omega)⟩
set_option maxHeartbeats 3200000 in
theorem level_any (w : World) (C : Option Addr) (nC cC : Nat) (caps : List Int) (D : Option Addr) (m d : Nat) (fs : List Fm) (A : Option Addr) (n c : Nat) (vs : List Fx) (E : Option Addr) (ne ce : Nat) (bs : List Bool) (link : Nat) (s : Rt)
    (hC : Is w C cC caps) (hD : Ws w D d fs) (hA : RdF w A vs) (hE : Rd Value.bool w E bs) (hv : Rv w (fs.map Fm.fl) s vs bs) (hnC : nC = caps.length) (hm : m = fs.length) (hn : n = vs.length) (hne : ne = bs.length) (hle : fs.length ≤ 14) (hlk : link < caps.length) (hsz : LvS (cpF caps) (fs.map Fm.fl) s link) :
    Calls Try.prog 40 #[.slice C nC cC, .slice D m d, .slice A n c, .slice E ne ce, .int .i64 (link : Int)] w fun e w' => ∃ x : Fx, e = .returned (.tuple #[x.val, .bool (decide (cnt (fs.map Fm.fl) s link fs.length ≠ 0)), .int .i64 0]) ∧ (∀ q, lev (cpF caps) (fs.map Fm.fl) s link = some q → Nm w' x q) ∧ x.ok w' ∧ Below w.heap.size w w' := by
  have HD := Lib.hid hD
  have HA := Lib.hid hA
  have HE := Lib.hid hE
  have HV := Lib.hid hv
  have HSZ := Lib.hid hsz
  have hvl := hv.lv
  have hbl := hv.lb
  rw [List.length_map] at hvl hbl
  have HVL := Lib.hid hvl
  have HBL := Lib.hid hbl
  have hlc := hC.len
  obtain ⟨ac, rfl, _, hcc⟩ := hC.at link hlk
  have HCP : Hid (caps[link] = cpF caps link) := Lib.hid (by rw [cpF, Int.toNat_natCast, getD_lt _ _ _ hlk])
  have hcb := hsz.cb
  rw [← HCP.out] at hcb
  obtain ⟨cl, hcl⟩ : ∃ cl, caps[link] = cl := ⟨_, rfl⟩
  rw [hcl] at hcc HCP hcb
  have HCB := Lib.hid hcb
  have HCD := Lib.hid hC.cap
  have hcap := hC.cap
  clear hsz hD hA hE hv hvl hbl hcl hcb hC
  subst hm hn hne hnC
  go_enter Try.func40, Try.ntmps40
  go_upto_region 1 with fail
  have bw := (Below.refl w.heap.size w).alloc (Nat.le_refl _) (.cells #[.bool false, .slice none 0 0, .slice none 0 0] 41)
  have bk := bk3_new w
  replace hcc := (bw.cell (p := ac.add link) (World.block_lt_of_cell? w _ hcc)).trans hcc
  generalize (w.alloc (.cells #[.bool false, .slice none 0 0, .slice none 0 0] 41)) = wm at bw bk hcc ⊢
  have HBK := Lib.hid bk
  have hB : w.heap.size + 1 ≤ wm.heap.size := bk.lt
  clear bk
  go_wp2_with fail
  refine (whole_any wm cl (by have := HCB.out; omega) (by have := HCB.out; omega)).mono ?_
  rintro e wn ⟨x1, rfl, _, n1, bb⟩
  have HBK1 := Lib.hid (HBK.out.below bb)
  replace bw := below_on bw bb bw.size
  have hB1 : w.heap.size + 1 ≤ wn.heap.size := Nat.le_trans hB bb.size
  clear HBK bb hB
  go_upto_region 3 with fail
  have v1 := (nv_alloc n1).1
  have bb := (nv_alloc n1).2
  clear n1
  generalize (wn.alloc (.cells #[.bool x1.b, .slice x1.A x1.xs.length x1.c, .slice x1.D x1.ys.length x1.d] 41)) = wm at v1 bb ⊢
  have HBK := Lib.hid (HBK1.out.below bb)
  replace bw := below_on bw bb bw.size
  clear HBK1 bb
  generalize wn.heap.size = g14 at v1 hB1 ⊢
  clear hcc
  go_wp2_with fail
  go_loopw [13, 28] (fun nv i wr => ∃ (k : Nat) (x : Fx), k ≤ fs.length ∧ i = .int .i64 k ∧ nv = .int .i64 (cnt (fs.map Fm.fl) s link k : Nat) ∧ Nv wr g14 x ((cl : Rat) - sumTo (tkS (fs.map Fm.fl) s link) k) ∧ Bk3 wr w.heap.size (.bool false) (.slice none 0 0) (.slice none 0 0) ∧ Below w.heap.size w wr) (fun _ i _ => fs.length - (intOf i).toNat)
  case atStart =>
    have e : (cl : Rat) - sumTo (tkS (fs.map Fm.fl) s link) 0 = cl := by rw [sumTo]; grind
    rw [← e] at v1
    exact ⟨0, x1, by omega, rfl, rfl, v1, HBK.out, bw⟩
  case round =>
    clear v1 HBK bw
    obtain ⟨k, x1, hkl, rfl, rfl, v1, bk, bw⟩ := hrel
    have hcn := cnt_le (fs.map Fm.fl) s link k
    by_cases hlt : k < fs.length
    · have hW := HD.out.below bw
      obtain ⟨ad, rfl, _, hcc⟩ := hW.rd (by omega)
      obtain ⟨hc0, hc1⟩ := hcc k hlt
      have hok := hW.ok _ (List.getElem_mem hlt)
      have hgl := (fl_get hlt).1
      obtain ⟨x, hx⟩ : ∃ x, fs[k] = x := ⟨_, rfl⟩
      rw [hx] at hc0 hc1 hok hgl
      have HGL := Lib.hid hgl
      clear hcc hx hW hgl
      obtain ⟨nk, hnk⟩ : ∃ nk, cnt (fs.map Fm.fl) s link k = nk := ⟨_, rfl⟩
      rw [hnk] at hcn ⊢
      have HNK := Lib.hid hnk
      clear hnk
      go_upto_region 10 with fail
      have fb := (fb_alloc wr x 48).1
      have bb := (fb_alloc wr x 48).2
      have his := (hok.below bb).is
      clear hc0 hc1 hok
      generalize (wr.alloc (.cells #[.slice x.A x.ls.length x.c, .int .i64 x.m] 48)) = wx at fb bb his ⊢
      replace v1 := v1.below bb
      replace bk := bk.below bb
      replace bw := below_on bw bb bw.size
      clear bb
      have fc0 := fb.c0
      have fc1 := fb.c1
      by_cases hu : (link : Int) ∈ x.ls
      · have HU := Lib.hid (decide_eq_true hu)
        have hkb : k < bs.length := by rw [HBL.out]; exact hlt
        obtain ⟨ae, rfl, _, hce⟩ := (HE.out.below bw rfl) (by omega)
        have hbk := hce k hkb
        have hba : s.a.getD k false = bs[k] := by rw [← HV.out.bs, getD_lt _ _ _ hkb]
        obtain ⟨b1, hb1⟩ : ∃ b1, bs[k] = b1 := ⟨_, rfl⟩
        rw [hb1] at hbk hba
        have HMEM : Hid ((link : Int) ∈ lkA (fs.map Fm.fl) k) := Lib.hid (by rw [HGL.out]; exact hu)
        clear hce hb1 hu
        cases b1
        · have hkv : k < vs.length := by rw [HVL.out]; exact hlt
          obtain ⟨ad2, rfl, el⟩ := (HA.out.below bw).at k hkv
          have n2 := (HV.out.below bw).at_ k hkv
          obtain ⟨x2, hx2⟩ : ∃ x2, vs[k] = x2 := ⟨_, rfl⟩
          rw [hx2] at el n2
          have HTK : Hid ((cl : Rat) - sumTo (tkS (fs.map Fm.fl) s link) (k + 1) = ((cl : Rat) - sumTo (tkS (fs.map Fm.fl) s link) k) - s.r.getD k 0) := Lib.hid (by
            have : tkS (fs.map Fm.fl) s link k = s.r.getD k 0 := by rw [tkS, if_pos ⟨HMEM.out, hba⟩]
            rw [sumTo, this]; grind)
          have HNX : Hid (cnt (fs.map Fm.fl) s link (k + 1) = nk) := Lib.hid (by rw [cnt, if_neg (fun h => by rw [hba] at h; exact absurd h.2 (by simp)), HNK.out, Nat.add_zero])
          have HSZ2 : Hid (Sz (((cl : Rat) - sumTo (tkS (fs.map Fm.fl) s link) k) - s.r.getD k 0) 128 128) := Lib.hid (by
            rw [← HTK.out, HCP.out]; exact HSZ.out.sz (k + 1) (by simp; omega))
          clear hx2 hba
          go_wp2_with fail
          refine (contains_i wx x.A _ x.c x.ls link true his rfl HU.out).mono ?_
          rintro e wn ⟨rfl, rfl⟩
          go_upto_region 6 with fail
          have H1 := Lib.hid v1
          have H2 := Lib.hid n2
          have HEL := Lib.hid el
          have HBK := Lib.hid bk
          have HBW := Lib.hid bw
          clear v1 n2 el bk bw hbk fc0 fc1 his
          go_cut [17, 18] (fun s17 s18 w' => ∃ (G : Nat) (x3 : Fx), s17 = .pointer (some ⟨G, 0, none⟩) ∧ s18 = .int .i64 0 ∧ Nv w' G x3 (((cl : Rat) - sumTo (tkS (fs.map Fm.fl) s link) k) - s.r.getD k 0) ∧ Below wx.heap.size wx w')
          case first =>
            have HSZ := HSZ2
            refine wp_region_held_drew (S := fun w' => w'.cell? ⟨g14, 0, none⟩ = some (.bool x1.b) ∧ w'.cell? ⟨g14, 1, none⟩ = some (.slice x1.A x1.xs.length x1.c) ∧ w'.cell? ⟨g14, 2, none⟩ = some (.slice x1.D x1.ys.length x1.d) ∧ w'.cell? (ad2.add (k * 3)) = some (.bool x2.b) ∧ w'.cell? ⟨(ad2.add (k * 3)).block, (ad2.add (k * 3)).off + 1, none⟩ = some (.slice x2.A x2.xs.length x2.c) ∧ w'.cell? ⟨(ad2.add (k * 3)).block, (ad2.add (k * 3)).off + 2, none⟩ = some (.slice x2.D x2.ys.length x2.d)) (by kernel_rfl) ⟨(H1.out.below ((Below.refl wx.heap.size wx).drew)).c0, (H1.out.below ((Below.refl wx.heap.size wx).drew)).c1, (H1.out.below ((Below.refl wx.heap.size wx).drew)).c2, (HEL.out.below ((Below.refl wx.heap.size wx).drew)).c0, (HEL.out.below ((Below.refl wx.heap.size wx).drew)).c1, (HEL.out.below ((Below.refl wx.heap.size wx).drew)).c2⟩ (fun hHeld => ?_)
            have bz := (Below.refl wx.heap.size wx).drew
            generalize wx.drew = wd at *
            refine tkw 0 (x1.val) rfl (by kernel_rfl) (by kernel_rfl) (by kernel_rfl) (fun _ _ _ h => h) ⟨by rfl, ?_⟩ (by assumption) ?_
            ·intro w hSw; (try dsimp only at hSw); obtain ⟨s0, s1, s2, _, _, _⟩ := hSw; go_simp; (try with_reducible rfl)
            try simp only [Act.put, tzD]
            refine tkw 1 (.slice (some ad2) vs.length c) rfl (by kernel_rfl) (by kernel_rfl) (by kernel_rfl) (fun _ _ _ h => h) ⟨by rfl, ?_⟩ (by assumption) ?_
            ·intro w hSw; go_simp; (try with_reducible rfl)
            try simp only [Act.put]
            refine tkw 2 (.int .i64 (k : Int)) rfl (by kernel_rfl) (by kernel_rfl) (by kernel_rfl) (fun _ _ _ h => h) ⟨by rfl, ?_⟩ (by assumption) ?_
            ·intro w hSw; go_simp; (try with_reducible rfl)
            try simp only [Act.put]
            refine tkw 3 (.pointer (some (ad2.add (k * 3)))) rfl (by kernel_rfl) (by kernel_rfl) (by kernel_rfl) (fun _ _ _ h => h) ⟨by rfl, ?_⟩ (by assumption) ?_
            ·intro w hSw; go_simp; (try with_reducible rfl)
            try simp only [Act.put]
            refine tkw 4 (x2.val) rfl (by kernel_rfl) (by kernel_rfl) (by kernel_rfl) (fun _ _ _ h => h) ⟨by rfl, ?_⟩ (by assumption) ?_
            ·intro w hSw; (try dsimp only at hSw); obtain ⟨_, _, _, s0, s1, s2⟩ := hSw; go_simp; (try with_reducible rfl)
            try simp only [Act.put]
            refine wpAnyH_ready (rs := [5, 9]) (by kernel_rfl) (by simp) ?_
            refine AllReadyH.cons rfl (fun K hK => ?_) ?_
            ·go_simp
             go_at_call 62
             refine (fsub_nm wd x1 x2 _ _ (H1.out.below bz).nm (H2.out.below bz) HSZ.out).mono ?_
             rintro e wd ⟨x3, rfl, _, ok3, bb⟩
             try replace k17 := k17.below bb
             try replace ok3 := ok3.below bb
             replace bz := below_on bz bb bz.size
             clear bb
             refine hK.out _ _ ⟨(H1.out.below bz).c0, (H1.out.below bz).c1, (H1.out.below bz).c2, (HEL.out.below bz).c0, (HEL.out.below bz).c1, (HEL.out.below bz).c2⟩ (fun hHeld => ?_)
             clear hK K
             try simp only [Act.put, tzD, tzE, tzF]
             refine tkw 6 (.tuple #[x3.val, .int .i64 0]) rfl (by kernel_rfl) (by kernel_rfl) (by kernel_rfl) (fun _ _ _ h => h) ⟨by rfl, ?_⟩ (by assumption) ?_
             ·intro w hSw; go_simp; (try with_reducible rfl)
             try simp only [Act.put, tzD]
             refine tkw 7 (x3.val) rfl (by kernel_rfl) (by kernel_rfl) (by kernel_rfl) (fun _ _ _ h => h) ⟨by rfl, ?_⟩ (by assumption) ?_
             ·intro w hSw; go_simp; (try with_reducible rfl)
             try simp only [Act.put]
             refine tkw 8 (.int .i64 0) rfl (by kernel_rfl) (by kernel_rfl) (by kernel_rfl) (fun _ _ _ h => h) ⟨by rfl, ?_⟩ (by assumption) ?_
             ·intro w hSw; go_simp; (try with_reducible rfl)
             try simp only [Act.put]
             refine wpAnyH_ready (rs := [9]) (by kernel_rfl) (by simp) ?_
             refine AllReadyH.cons rfl (fun K hK => ?_) ?_
             ·go_simp
              have k17 := bk3_new wd
              have bb := (Below.refl wd.heap.size wd).alloc (Nat.le_refl _) (.cells #[.bool false, .slice none 0 0, .slice none 0 0] 41)
              have s17 := bz.size
              generalize h17 : wd.heap.size = g17 at k17 s17 ⊢
              try replace k17 := k17.below bb
              try replace ok3 := ok3.below bb
              replace bz := below_on bz bb bz.size
              clear bb
              generalize (wd.alloc (.cells #[.bool false, .slice none 0 0, .slice none 0 0] 41)) = we at *
              clear h17
              generalize we = wd at *
              refine hK.out _ _ ⟨(H1.out.below bz).c0, (H1.out.below bz).c1, (H1.out.below bz).c2, (HEL.out.below bz).c0, (HEL.out.below bz).c1, (HEL.out.below bz).c2⟩ (fun hHeld => ?_)
              clear hK K
              try simp only [Act.put, tzD, tzE, tzF]
              refine wpAnyH_ready (rs := [10]) (by kernel_rfl) (by simp) ?_
              refine AllReadyH.cons rfl (fun K hK => ?_) ?_
              ·have t := k17
               obtain ⟨k0, k1, k2, kf0, kf1, kf2, _, _⟩ := t
               go_simp
               clear k0 k1 k2 kf0 kf1 kf2
               have hk : Fa wd g17 Fx.nil := ⟨k17, Fx.nil_ok _⟩
               have a3 := Nv.mk' (hk.put ok3.ok) ok3
               have b5 := set3g (G := g17) (a := (.bool x3.b)) (b := (.slice x3.A x3.xs.length x3.c)) (c := (.slice x3.D x3.ys.length x3.d)) bz s17
               clear bz hk k17 ok3 hHeld
               generalize (((wd.setCell ⟨g17, 0, none⟩ (.bool x3.b)).setCell ⟨g17, 1, none⟩ (.slice x3.A x3.xs.length x3.c)).setCell ⟨g17, 2, none⟩ (.slice x3.D x3.ys.length x3.d)) = we at *
               have bz := b5
               clear b5
               generalize we = wd at *
               refine hK.out _ _ ⟨(H1.out.below bz).c0, (H1.out.below bz).c1, (H1.out.below bz).c2, (HEL.out.below bz).c0, (HEL.out.below bz).c1, (HEL.out.below bz).c2⟩ (fun hHeld => ?_)
               clear hK K
               try simp only [Act.put, tzD, tzE, tzF]
               refine wpAnyH_ready (rs := [11]) (by kernel_rfl) (by simp) ?_
               refine AllReadyH.cons rfl (fun K hK => ?_) ?_
               ·go_simp
                refine hK.out _ _ ⟨(H1.out.below bz).c0, (H1.out.below bz).c1, (H1.out.below bz).c2, (HEL.out.below bz).c0, (HEL.out.below bz).c1, (HEL.out.below bz).c2⟩ (fun hHeld => ?_)
                clear hK K
                try simp only [Act.put, tzD, tzE, tzF]
                refine wpAnyH_done (by kernel_rfl) ?_ _
                go_wp2_with fail
                go_meet
                case rel => exact ⟨g17, x3, rfl, rfl, a3, bz⟩
               exact AllReadyH.nil
              exact AllReadyH.nil
             exact AllReadyH.nil
            refine AllReadyH.cons rfl (fun K hK => ?_) ?_
            ·go_simp
             have k17 := bk3_new wd
             have bb := (Below.refl wd.heap.size wd).alloc (Nat.le_refl _) (.cells #[.bool false, .slice none 0 0, .slice none 0 0] 41)
             have s17 := bz.size
             generalize h17 : wd.heap.size = g17 at k17 s17 ⊢
             try replace k17 := k17.below bb
             try replace ok3 := ok3.below bb
             replace bz := below_on bz bb bz.size
             clear bb
             generalize (wd.alloc (.cells #[.bool false, .slice none 0 0, .slice none 0 0] 41)) = we at *
             clear h17
             generalize we = wd at *
             refine hK.out _ _ ⟨(H1.out.below bz).c0, (H1.out.below bz).c1, (H1.out.below bz).c2, (HEL.out.below bz).c0, (HEL.out.below bz).c1, (HEL.out.below bz).c2⟩ (fun hHeld => ?_)
             clear hK K
             try simp only [Act.put, tzD, tzE, tzF]
             refine wpAnyH_ready (rs := [5]) (by kernel_rfl) (by simp) ?_
             refine AllReadyH.cons rfl (fun K hK => ?_) ?_
             ·go_simp
              go_at_call 62
              refine (fsub_nm wd x1 x2 _ _ (H1.out.below bz).nm (H2.out.below bz) HSZ.out).mono ?_
              rintro e wd ⟨x3, rfl, _, ok3, bb⟩
              try replace k17 := k17.below bb
              try replace ok3 := ok3.below bb
              replace bz := below_on bz bb bz.size
              clear bb
              refine hK.out _ _ ⟨(H1.out.below bz).c0, (H1.out.below bz).c1, (H1.out.below bz).c2, (HEL.out.below bz).c0, (HEL.out.below bz).c1, (HEL.out.below bz).c2⟩ (fun hHeld => ?_)
              clear hK K
              try simp only [Act.put, tzD, tzE, tzF]
              refine tkw 6 (.tuple #[x3.val, .int .i64 0]) rfl (by kernel_rfl) (by kernel_rfl) (by kernel_rfl) (fun _ _ _ h => h) ⟨by rfl, ?_⟩ (by assumption) ?_
              ·intro w hSw; go_simp; (try with_reducible rfl)
              try simp only [Act.put, tzD]
              refine tkw 7 (x3.val) rfl (by kernel_rfl) (by kernel_rfl) (by kernel_rfl) (fun _ _ _ h => h) ⟨by rfl, ?_⟩ (by assumption) ?_
              ·intro w hSw; go_simp; (try with_reducible rfl)
              try simp only [Act.put]
              refine tkw 8 (.int .i64 0) rfl (by kernel_rfl) (by kernel_rfl) (by kernel_rfl) (fun _ _ _ h => h) ⟨by rfl, ?_⟩ (by assumption) ?_
              ·intro w hSw; go_simp; (try with_reducible rfl)
              try simp only [Act.put]
              refine wpAnyH_ready (rs := [10]) (by kernel_rfl) (by simp) ?_
              refine AllReadyH.cons rfl (fun K hK => ?_) ?_
              ·have t := k17
               obtain ⟨k0, k1, k2, kf0, kf1, kf2, _, _⟩ := t
               go_simp
               clear k0 k1 k2 kf0 kf1 kf2
               have hk : Fa wd g17 Fx.nil := ⟨k17, Fx.nil_ok _⟩
               have a3 := Nv.mk' (hk.put ok3.ok) ok3
               have b5 := set3g (G := g17) (a := (.bool x3.b)) (b := (.slice x3.A x3.xs.length x3.c)) (c := (.slice x3.D x3.ys.length x3.d)) bz s17
               clear bz hk k17 ok3 hHeld
               generalize (((wd.setCell ⟨g17, 0, none⟩ (.bool x3.b)).setCell ⟨g17, 1, none⟩ (.slice x3.A x3.xs.length x3.c)).setCell ⟨g17, 2, none⟩ (.slice x3.D x3.ys.length x3.d)) = we at *
               have bz := b5
               clear b5
               generalize we = wd at *
               refine hK.out _ _ ⟨(H1.out.below bz).c0, (H1.out.below bz).c1, (H1.out.below bz).c2, (HEL.out.below bz).c0, (HEL.out.below bz).c1, (HEL.out.below bz).c2⟩ (fun hHeld => ?_)
               clear hK K
               try simp only [Act.put, tzD, tzE, tzF]
               refine wpAnyH_ready (rs := [11]) (by kernel_rfl) (by simp) ?_
               refine AllReadyH.cons rfl (fun K hK => ?_) ?_
               ·go_simp
                refine hK.out _ _ ⟨(H1.out.below bz).c0, (H1.out.below bz).c1, (H1.out.below bz).c2, (HEL.out.below bz).c0, (HEL.out.below bz).c1, (HEL.out.below bz).c2⟩ (fun hHeld => ?_)
                clear hK K
                try simp only [Act.put, tzD, tzE, tzF]
                refine wpAnyH_done (by kernel_rfl) ?_ _
                go_wp2_with fail
                go_meet
                case rel => exact ⟨g17, x3, rfl, rfl, a3, bz⟩
               exact AllReadyH.nil
              exact AllReadyH.nil
             exact AllReadyH.nil
            exact AllReadyH.nil
          case rest =>
            obtain ⟨G, x3, rfl, rfl, v3, bz⟩ := hcut
            have v1 := H1.out.below bz
            have bk := HBK.out.below bz
            have bw := below_on HBW.out bz HBW.out.size
            clear H1 H2 HEL HBK HBW bz
            go_upto_region 9 with fail
            have tk := v1.fa.bk
            obtain ⟨k0, k1, k2, kf0, kf1, kf2, klt, kb⟩ := tk
            clear kb
            have ci0 := v3.c0
            have ci1 := v3.c1
            have ci2 := v3.c2
            go_wp2_with fail
            go_roundw
            case rel =>
              refine ⟨k + 1, x3, by omega, by go_num, by rw [HNX.out], ?_, bk.far (H := g14) (by omega), set3g bw (by omega)⟩
              rw [HTK.out]
              exact Nv.mk' (v1.fa.put v3.nm.ok) v3.nm
            case measure => simp [intOf]; omega
        · have HTK : Hid ((cl : Rat) - sumTo (tkS (fs.map Fm.fl) s link) (k + 1) = ((cl : Rat) - sumTo (tkS (fs.map Fm.fl) s link) k)) := Lib.hid (by
            have : tkS (fs.map Fm.fl) s link k = 0 := by rw [tkS, if_neg (fun h => by rw [hba] at h; exact absurd h.2 (by simp))]
            rw [sumTo, this]; grind)
          have HNX : Hid (cnt (fs.map Fm.fl) s link (k + 1) = nk + 1) := Lib.hid (by rw [cnt, if_pos ⟨HMEM.out, hba⟩, HNK.out])
          clear hba
          go_wp2_with fail
          refine (contains_i wx x.A _ x.c x.ls link true his rfl HU.out).mono ?_
          rintro e wn ⟨rfl, rfl⟩
          go_wp2_with fail
          go_roundw
          case rel =>
            refine ⟨k + 1, x1, by omega, by go_num, by rw [HNX.out]; go_num, ?_, bk, bw⟩
            rw [HTK.out]; exact v1
          case measure => simp [intOf]; omega
      · have HU := Lib.hid (decide_eq_false hu)
        have HMEM : Hid (¬ (link : Int) ∈ lkA (fs.map Fm.fl) k) := Lib.hid (by rw [HGL.out]; exact hu)
        have HTK : Hid ((cl : Rat) - sumTo (tkS (fs.map Fm.fl) s link) (k + 1) = ((cl : Rat) - sumTo (tkS (fs.map Fm.fl) s link) k)) := Lib.hid (by
          have : tkS (fs.map Fm.fl) s link k = 0 := by rw [tkS, if_neg (fun h => HMEM.out h.1)]
          rw [sumTo, this]; grind)
        have HNX : Hid (cnt (fs.map Fm.fl) s link (k + 1) = nk) := Lib.hid (by rw [cnt, if_neg (fun h => HMEM.out h.1), HNK.out, Nat.add_zero])
        clear hu
        go_wp2_with fail
        refine (contains_i wx x.A _ x.c x.ls link false his rfl HU.out).mono ?_
        rintro e wn ⟨rfl, rfl⟩
        go_wp2_with fail
        go_roundw
        case rel =>
          refine ⟨k + 1, x1, by omega, by go_num, by rw [HNX.out], ?_, bk, bw⟩
          rw [HTK.out]; exact v1
        case measure => simp [intOf]; omega
    · obtain rfl : k = fs.length := by omega
      obtain ⟨nk, hnk⟩ : ∃ nk, cnt (fs.map Fm.fl) s link fs.length = nk := ⟨_, rfl⟩
      rw [hnk] at hcn ⊢
      have HNK : Hid (cnt (fs.map Fm.fl) s link (fs.map Fm.fl).length = nk) := Lib.hid (by rw [List.length_map]; exact hnk)
      clear hnk
      by_cases hz : nk = 0
      · subst hz
        have HLV : Hid (lev (cpF caps) (fs.map Fm.fl) s link = none) := Lib.hid (by rw [lev, if_pos HNK.out])
        have HNK2 : Hid (cnt (fs.map Fm.fl) s link fs.length = 0) := Lib.hid (by have := HNK.out; rwa [List.length_map] at this)
        go_upto_region 15 with fail
        have tk := bk
        obtain ⟨k0, k1, k2, kf0, kf1, kf2, klt, kb⟩ := tk
        clear kb
        go_wp2_with fail
        refine bodyPost_ret (v := .tuple #[Fx.nil.val, .bool false, .int .i64 0]) (by simp [results, Try.results40, go_sem, k0, k1, k2]) rfl ?_
        exact ⟨Fx.nil, by rw [HNK2.out]; rfl, fun q hq => (by rw [HLV.out] at hq; cases hq), Fx.nil_ok _, set3g bw (Nat.le_refl _)⟩
      · have HNZ : Hid (((nk : Int) : Rat) ≠ 0) := Lib.hid (by rw [Rat.intCast_natCast]; simpa using hz)
        have HLV : Hid (lev (cpF caps) (fs.map Fm.fl) s link = some (((cl : Rat) - sumTo (tkS (fs.map Fm.fl) s link) fs.length) / ((nk : Int) : Rat))) := Lib.hid (by
          rw [lev, if_neg (by rw [HNK.out]; exact hz), HNK.out, HCP.out, Rat.intCast_natCast, List.length_map])
        have HSZ2 := Lib.hid (HSZ.out.lev _ HLV.out)
        have HB : Hid (decide (cnt (fs.map Fm.fl) s link fs.length ≠ 0) = true) := Lib.hid (decide_eq_true (by have := HNK.out; rw [List.length_map] at this; rw [this]; exact hz))
        have hz1 : ((nk : Int) == 0) = false := beq_eq_false_iff_ne.2 (by omega)
        clear hz
        go_upto_region 16 with fail
        have H1 := Lib.hid v1
        have HBK := Lib.hid bk
        have HBW := Lib.hid bw
        clear v1 bk bw
        go_cut [19, 20] (fun s19 s20 w' => ∃ (G : Nat) (x3 : Fx), s19 = .pointer (some ⟨G, 0, none⟩) ∧ s20 = .int .i64 0 ∧ Rp x3 (((cl : Rat) - sumTo (tkS (fs.map Fm.fl) s link) fs.length) / ((nk : Int) : Rat)) ∧ Nv w' G x3 (((cl : Rat) - sumTo (tkS (fs.map Fm.fl) s link) fs.length) / ((nk : Int) : Rat)) ∧ Below wr.heap.size wr w')
        case first =>
          have HSZ := HSZ2
          refine wp_region_held_drew (S := fun w' => w'.cell? ⟨g14, 0, none⟩ = some (.bool x1.b) ∧ w'.cell? ⟨g14, 1, none⟩ = some (.slice x1.A x1.xs.length x1.c) ∧ w'.cell? ⟨g14, 2, none⟩ = some (.slice x1.D x1.ys.length x1.d)) (by kernel_rfl) ⟨(H1.out.below ((Below.refl wr.heap.size wr).drew)).c0, (H1.out.below ((Below.refl wr.heap.size wr).drew)).c1, (H1.out.below ((Below.refl wr.heap.size wr).drew)).c2⟩ (fun hHeld => ?_)
          have bz := (Below.refl wr.heap.size wr).drew
          generalize wr.drew = wd at *
          refine tkw 0 (x1.val) rfl (by kernel_rfl) (by kernel_rfl) (by kernel_rfl) (fun _ _ _ h => h) ⟨by rfl, ?_⟩ (by assumption) ?_
          ·intro w hSw; (try dsimp only at hSw); obtain ⟨s0, s1, s2⟩ := hSw; go_simp; (try with_reducible rfl)
          try simp only [Act.put, tzD]
          refine tkw 1 (.int .i64 (nk : Int)) rfl (by kernel_rfl) (by kernel_rfl) (by kernel_rfl) (fun _ _ _ h => h) ⟨by rfl, ?_⟩ (by assumption) ?_
          ·intro w hSw; go_simp; (try with_reducible rfl)
          try simp only [Act.put]
          refine wpAnyH_ready (rs := [2, 7]) (by kernel_rfl) (by simp) ?_
          refine AllReadyH.cons rfl (fun K hK => ?_) ?_
          ·go_simp
           go_at_call 38
           refine (whole_any wd _ (by omega) (by omega)).mono ?_
           rintro e wd ⟨x4, rfl, _, n4, bb⟩
           try replace k19 := k19.below bb
           try replace ok3 := ok3.below bb
           try replace n4 := n4.below bb
           replace bz := below_on bz bb bz.size
           clear bb
           refine hK.out _ _ ⟨(H1.out.below bz).c0, (H1.out.below bz).c1, (H1.out.below bz).c2⟩ (fun hHeld => ?_)
           clear hK K
           try simp only [Act.put, tzD, tzE, tzF]
           refine wpAnyH_ready (rs := [3, 7]) (by kernel_rfl) (by simp) ?_
           refine AllReadyH.cons rfl (fun K hK => ?_) ?_
           ·go_simp
            go_at_call 63
            refine (fquo_nm wd x1 x4 _ _ (H1.out.below bz).nm n4 HNZ.out HSZ.out).mono ?_
            rintro e wd ⟨x3, rfl, HR3, ok3, bb⟩
            clear n4
            try replace k19 := k19.below bb
            try replace ok3 := ok3.below bb
            try replace n4 := n4.below bb
            replace bz := below_on bz bb bz.size
            clear bb
            refine hK.out _ _ ⟨(H1.out.below bz).c0, (H1.out.below bz).c1, (H1.out.below bz).c2⟩ (fun hHeld => ?_)
            clear hK K
            try simp only [Act.put, tzD, tzE, tzF]
            refine tkw 4 (.tuple #[x3.val, .int .i64 0]) rfl (by kernel_rfl) (by kernel_rfl) (by kernel_rfl) (fun _ _ _ h => h) ⟨by rfl, ?_⟩ (by assumption) ?_
            ·intro w hSw; go_simp; (try with_reducible rfl)
            try simp only [Act.put, tzD]
            refine tkw 5 (x3.val) rfl (by kernel_rfl) (by kernel_rfl) (by kernel_rfl) (fun _ _ _ h => h) ⟨by rfl, ?_⟩ (by assumption) ?_
            ·intro w hSw; go_simp; (try with_reducible rfl)
            try simp only [Act.put]
            refine tkw 6 (.int .i64 0) rfl (by kernel_rfl) (by kernel_rfl) (by kernel_rfl) (fun _ _ _ h => h) ⟨by rfl, ?_⟩ (by assumption) ?_
            ·intro w hSw; go_simp; (try with_reducible rfl)
            try simp only [Act.put]
            refine wpAnyH_ready (rs := [7]) (by kernel_rfl) (by simp) ?_
            refine AllReadyH.cons rfl (fun K hK => ?_) ?_
            ·go_simp
             have k19 := bk3_new wd
             have bb := (Below.refl wd.heap.size wd).alloc (Nat.le_refl _) (.cells #[.bool false, .slice none 0 0, .slice none 0 0] 41)
             have s19 := bz.size
             generalize h19 : wd.heap.size = g19 at k19 s19 ⊢
             try replace k19 := k19.below bb
             try replace ok3 := ok3.below bb
             try replace n4 := n4.below bb
             replace bz := below_on bz bb bz.size
             clear bb
             generalize (wd.alloc (.cells #[.bool false, .slice none 0 0, .slice none 0 0] 41)) = we at *
             clear h19
             generalize we = wd at *
             refine hK.out _ _ ⟨(H1.out.below bz).c0, (H1.out.below bz).c1, (H1.out.below bz).c2⟩ (fun hHeld => ?_)
             clear hK K
             try simp only [Act.put, tzD, tzE, tzF]
             refine wpAnyH_ready (rs := [8]) (by kernel_rfl) (by simp) ?_
             refine AllReadyH.cons rfl (fun K hK => ?_) ?_
             ·have t := k19
              obtain ⟨k0, k1, k2, kf0, kf1, kf2, _, _⟩ := t
              go_simp
              clear k0 k1 k2 kf0 kf1 kf2
              have hk : Fa wd g19 Fx.nil := ⟨k19, Fx.nil_ok _⟩
              have a3 := Nv.mk' (hk.put ok3.ok) ok3
              have b5 := set3g (G := g19) (a := (.bool x3.b)) (b := (.slice x3.A x3.xs.length x3.c)) (c := (.slice x3.D x3.ys.length x3.d)) bz s19
              clear bz hk k19 ok3 hHeld
              generalize (((wd.setCell ⟨g19, 0, none⟩ (.bool x3.b)).setCell ⟨g19, 1, none⟩ (.slice x3.A x3.xs.length x3.c)).setCell ⟨g19, 2, none⟩ (.slice x3.D x3.ys.length x3.d)) = we at *
              have bz := b5
              clear b5
              generalize we = wd at *
              refine hK.out _ _ ⟨(H1.out.below bz).c0, (H1.out.below bz).c1, (H1.out.below bz).c2⟩ (fun hHeld => ?_)
              clear hK K
              try simp only [Act.put, tzD, tzE, tzF]
              refine wpAnyH_ready (rs := [9]) (by kernel_rfl) (by simp) ?_
              refine AllReadyH.cons rfl (fun K hK => ?_) ?_
              ·go_simp
               refine hK.out _ _ ⟨(H1.out.below bz).c0, (H1.out.below bz).c1, (H1.out.below bz).c2⟩ (fun hHeld => ?_)
               clear hK K
               try simp only [Act.put, tzD, tzE, tzF]
               refine wpAnyH_done (by kernel_rfl) ?_ _
               go_wp2_with fail
               go_meet
               case rel => exact ⟨g19, x3, rfl, rfl, HR3, a3, bz⟩
              exact AllReadyH.nil
             exact AllReadyH.nil
            exact AllReadyH.nil
           refine AllReadyH.cons rfl (fun K hK => ?_) ?_
           ·go_simp
            have k19 := bk3_new wd
            have bb := (Below.refl wd.heap.size wd).alloc (Nat.le_refl _) (.cells #[.bool false, .slice none 0 0, .slice none 0 0] 41)
            have s19 := bz.size
            generalize h19 : wd.heap.size = g19 at k19 s19 ⊢
            try replace k19 := k19.below bb
            try replace ok3 := ok3.below bb
            try replace n4 := n4.below bb
            replace bz := below_on bz bb bz.size
            clear bb
            generalize (wd.alloc (.cells #[.bool false, .slice none 0 0, .slice none 0 0] 41)) = we at *
            clear h19
            generalize we = wd at *
            refine hK.out _ _ ⟨(H1.out.below bz).c0, (H1.out.below bz).c1, (H1.out.below bz).c2⟩ (fun hHeld => ?_)
            clear hK K
            try simp only [Act.put, tzD, tzE, tzF]
            refine wpAnyH_ready (rs := [3]) (by kernel_rfl) (by simp) ?_
            refine AllReadyH.cons rfl (fun K hK => ?_) ?_
            ·go_simp
             go_at_call 63
             refine (fquo_nm wd x1 x4 _ _ (H1.out.below bz).nm n4 HNZ.out HSZ.out).mono ?_
             rintro e wd ⟨x3, rfl, HR3, ok3, bb⟩
             clear n4
             try replace k19 := k19.below bb
             try replace ok3 := ok3.below bb
             try replace n4 := n4.below bb
             replace bz := below_on bz bb bz.size
             clear bb
             refine hK.out _ _ ⟨(H1.out.below bz).c0, (H1.out.below bz).c1, (H1.out.below bz).c2⟩ (fun hHeld => ?_)
             clear hK K
             try simp only [Act.put, tzD, tzE, tzF]
             refine tkw 4 (.tuple #[x3.val, .int .i64 0]) rfl (by kernel_rfl) (by kernel_rfl) (by kernel_rfl) (fun _ _ _ h => h) ⟨by rfl, ?_⟩ (by assumption) ?_
             ·intro w hSw; go_simp; (try with_reducible rfl)
             try simp only [Act.put, tzD]
             refine tkw 5 (x3.val) rfl (by kernel_rfl) (by kernel_rfl) (by kernel_rfl) (fun _ _ _ h => h) ⟨by rfl, ?_⟩ (by assumption) ?_
             ·intro w hSw; go_simp; (try with_reducible rfl)
             try simp only [Act.put]
             refine tkw 6 (.int .i64 0) rfl (by kernel_rfl) (by kernel_rfl) (by kernel_rfl) (fun _ _ _ h => h) ⟨by rfl, ?_⟩ (by assumption) ?_
             ·intro w hSw; go_simp; (try with_reducible rfl)
             try simp only [Act.put]
             refine wpAnyH_ready (rs := [8]) (by kernel_rfl) (by simp) ?_
             refine AllReadyH.cons rfl (fun K hK => ?_) ?_
             ·have t := k19
              obtain ⟨k0, k1, k2, kf0, kf1, kf2, _, _⟩ := t
              go_simp
              clear k0 k1 k2 kf0 kf1 kf2
              have hk : Fa wd g19 Fx.nil := ⟨k19, Fx.nil_ok _⟩
              have a3 := Nv.mk' (hk.put ok3.ok) ok3
              have b5 := set3g (G := g19) (a := (.bool x3.b)) (b := (.slice x3.A x3.xs.length x3.c)) (c := (.slice x3.D x3.ys.length x3.d)) bz s19
              clear bz hk k19 ok3 hHeld
              generalize (((wd.setCell ⟨g19, 0, none⟩ (.bool x3.b)).setCell ⟨g19, 1, none⟩ (.slice x3.A x3.xs.length x3.c)).setCell ⟨g19, 2, none⟩ (.slice x3.D x3.ys.length x3.d)) = we at *
              have bz := b5
              clear b5
              generalize we = wd at *
              refine hK.out _ _ ⟨(H1.out.below bz).c0, (H1.out.below bz).c1, (H1.out.below bz).c2⟩ (fun hHeld => ?_)
              clear hK K
              try simp only [Act.put, tzD, tzE, tzF]
              refine wpAnyH_ready (rs := [9]) (by kernel_rfl) (by simp) ?_
              refine AllReadyH.cons rfl (fun K hK => ?_) ?_
              ·go_simp
               refine hK.out _ _ ⟨(H1.out.below bz).c0, (H1.out.below bz).c1, (H1.out.below bz).c2⟩ (fun hHeld => ?_)
               clear hK K
               try simp only [Act.put, tzD, tzE, tzF]
               refine wpAnyH_done (by kernel_rfl) ?_ _
               go_wp2_with fail
               go_meet
               case rel => exact ⟨g19, x3, rfl, rfl, HR3, a3, bz⟩
              exact AllReadyH.nil
             exact AllReadyH.nil
            exact AllReadyH.nil
           exact AllReadyH.nil
          refine AllReadyH.cons rfl (fun K hK => ?_) ?_
          ·go_simp
           have k19 := bk3_new wd
           have bb := (Below.refl wd.heap.size wd).alloc (Nat.le_refl _) (.cells #[.bool false, .slice none 0 0, .slice none 0 0] 41)
           have s19 := bz.size
           generalize h19 : wd.heap.size = g19 at k19 s19 ⊢
           try replace k19 := k19.below bb
           try replace ok3 := ok3.below bb
           try replace n4 := n4.below bb
           replace bz := below_on bz bb bz.size
           clear bb
           generalize (wd.alloc (.cells #[.bool false, .slice none 0 0, .slice none 0 0] 41)) = we at *
           clear h19
           generalize we = wd at *
           refine hK.out _ _ ⟨(H1.out.below bz).c0, (H1.out.below bz).c1, (H1.out.below bz).c2⟩ (fun hHeld => ?_)
           clear hK K
           try simp only [Act.put, tzD, tzE, tzF]
           refine wpAnyH_ready (rs := [2]) (by kernel_rfl) (by simp) ?_
           refine AllReadyH.cons rfl (fun K hK => ?_) ?_
           ·go_simp
            go_at_call 38
            refine (whole_any wd _ (by omega) (by omega)).mono ?_
            rintro e wd ⟨x4, rfl, _, n4, bb⟩
            try replace k19 := k19.below bb
            try replace ok3 := ok3.below bb
            try replace n4 := n4.below bb
            replace bz := below_on bz bb bz.size
            clear bb
            refine hK.out _ _ ⟨(H1.out.below bz).c0, (H1.out.below bz).c1, (H1.out.below bz).c2⟩ (fun hHeld => ?_)
            clear hK K
            try simp only [Act.put, tzD, tzE, tzF]
            refine wpAnyH_ready (rs := [3]) (by kernel_rfl) (by simp) ?_
            refine AllReadyH.cons rfl (fun K hK => ?_) ?_
            ·go_simp
             go_at_call 63
             refine (fquo_nm wd x1 x4 _ _ (H1.out.below bz).nm n4 HNZ.out HSZ.out).mono ?_
             rintro e wd ⟨x3, rfl, HR3, ok3, bb⟩
             clear n4
             try replace k19 := k19.below bb
             try replace ok3 := ok3.below bb
             try replace n4 := n4.below bb
             replace bz := below_on bz bb bz.size
             clear bb
             refine hK.out _ _ ⟨(H1.out.below bz).c0, (H1.out.below bz).c1, (H1.out.below bz).c2⟩ (fun hHeld => ?_)
             clear hK K
             try simp only [Act.put, tzD, tzE, tzF]
             refine tkw 4 (.tuple #[x3.val, .int .i64 0]) rfl (by kernel_rfl) (by kernel_rfl) (by kernel_rfl) (fun _ _ _ h => h) ⟨by rfl, ?_⟩ (by assumption) ?_
             ·intro w hSw; go_simp; (try with_reducible rfl)
             try simp only [Act.put, tzD]
             refine tkw 5 (x3.val) rfl (by kernel_rfl) (by kernel_rfl) (by kernel_rfl) (fun _ _ _ h => h) ⟨by rfl, ?_⟩ (by assumption) ?_
             ·intro w hSw; go_simp; (try with_reducible rfl)
             try simp only [Act.put]
             refine tkw 6 (.int .i64 0) rfl (by kernel_rfl) (by kernel_rfl) (by kernel_rfl) (fun _ _ _ h => h) ⟨by rfl, ?_⟩ (by assumption) ?_
             ·intro w hSw; go_simp; (try with_reducible rfl)
             try simp only [Act.put]
             refine wpAnyH_ready (rs := [8]) (by kernel_rfl) (by simp) ?_
             refine AllReadyH.cons rfl (fun K hK => ?_) ?_
             ·have t := k19
              obtain ⟨k0, k1, k2, kf0, kf1, kf2, _, _⟩ := t
              go_simp
              clear k0 k1 k2 kf0 kf1 kf2
              have hk : Fa wd g19 Fx.nil := ⟨k19, Fx.nil_ok _⟩
              have a3 := Nv.mk' (hk.put ok3.ok) ok3
              have b5 := set3g (G := g19) (a := (.bool x3.b)) (b := (.slice x3.A x3.xs.length x3.c)) (c := (.slice x3.D x3.ys.length x3.d)) bz s19
              clear bz hk k19 ok3 hHeld
              generalize (((wd.setCell ⟨g19, 0, none⟩ (.bool x3.b)).setCell ⟨g19, 1, none⟩ (.slice x3.A x3.xs.length x3.c)).setCell ⟨g19, 2, none⟩ (.slice x3.D x3.ys.length x3.d)) = we at *
              have bz := b5
              clear b5
              generalize we = wd at *
              refine hK.out _ _ ⟨(H1.out.below bz).c0, (H1.out.below bz).c1, (H1.out.below bz).c2⟩ (fun hHeld => ?_)
              clear hK K
              try simp only [Act.put, tzD, tzE, tzF]
              refine wpAnyH_ready (rs := [9]) (by kernel_rfl) (by simp) ?_
              refine AllReadyH.cons rfl (fun K hK => ?_) ?_
              ·go_simp
               refine hK.out _ _ ⟨(H1.out.below bz).c0, (H1.out.below bz).c1, (H1.out.below bz).c2⟩ (fun hHeld => ?_)
               clear hK K
               try simp only [Act.put, tzD, tzE, tzF]
               refine wpAnyH_done (by kernel_rfl) ?_ _
               go_wp2_with fail
               go_meet
               case rel => exact ⟨g19, x3, rfl, rfl, HR3, a3, bz⟩
              exact AllReadyH.nil
             exact AllReadyH.nil
            exact AllReadyH.nil
           exact AllReadyH.nil
          exact AllReadyH.nil
        case rest =>
          obtain ⟨G, x3, rfl, rfl, _, v3, bz⟩ := hcut
          have bk := HBK.out.below bz
          have bw := below_on HBW.out bz HBW.out.size
          clear H1 HBK HBW bz
          have tk := bk
          obtain ⟨k0, k1, k2, kf0, kf1, kf2, klt, kb⟩ := tk
          clear kb
          have ci0 := v3.c0
          have ci1 := v3.c1
          have ci2 := v3.c2
          go_wp2_with fail
          refine bodyPost_ret (v := .tuple #[x3.val, .bool true, .int .i64 0]) (by simp [results, Try.results40, go_sem, k0, k1, k2]) rfl ?_
          refine ⟨x3, by rw [HB.out], fun q hq => ?_, set3_ok v3.nm.ok bk rfl rfl rfl, set3g bw (Nat.le_refl _)⟩
          rw [HLV.out] at hq
          cases hq
          exact ⟨set3_ok v3.nm.ok bk rfl rfl rfl, v3.v, v3.q, v3.l, v3.m⟩
end Go.Proofs.Ythdfflbhogfejaa
