/- The walk of fairshare.Bottlenecks. -/
import Derived.Test.YthdfflbhogfejaaFhD
import Derived.Test.YthdfflbhogfejaaFhE
namespace Go.Proofs.Ythdfflbhogfejaa
set_option maxRecDepth 100000
open Go.RowKit

/-- what limits a flow: -1, or the first link that does -/
def botA (cp : Int → Int) (l : List Fl) (R : List Rat) (i : Nat) : Int := if R.getD i 0 = (lmA l i : Rat) then -1 else ((lkA l i).find? (fun e => decide (limP cp l R e i))).getD (-1)
def botM (cp : Int → Int) (l : List Fl) (R : List Rat) : List Int := (List.range l.length).map (botA cp l R)
theorem botM_len (cp : Int → Int) (l : List Fl) (R : List Rat) : (botM cp l R).length = l.length := by simp [botM]
theorem botM_of {cp : Int → Int} {l : List Fl} {R : List Rat} {out : List Int} (h : out.length = l.length) (k : ∀ i, i < l.length → out.getD i 0 = botA cp l R i) : out = botM cp l R := by
  apply List.ext_getElem (by rw [h, botM_len])
  intro i h1 h2
  have := k i (by omega)
  rw [getD_lt _ _ _ h1] at this
  rw [this]; simp [botM]
theorem find_at {es : List Int} {p : Int → Bool} {j : Nat} (hj : j < es.length) (h : ∀ t (h : t < es.length), t < j → p es[t] = false) (hp : p es[j] = true) : es.find? p = some es[j] := by
  have e : es = es.take j ++ es[j] :: es.drop (j + 1) := by rw [List.getElem_cons_drop, List.take_append_drop]
  have hn : (es.take j).find? p = none := by
    rw [List.find?_eq_none]
    intro x hx
    obtain ⟨t, ht, rfl⟩ := List.getElem_of_mem hx
    rw [List.getElem_take]
    simp at ht
    rw [h t (by omega) (by omega)]; simp
  refine (congrArg (fun l : List Int => l.find? p) e).trans ?_
  show (es.take j ++ es[j] :: es.drop (j + 1)).find? p = _
  rw [List.find?_append, hn, Option.none_or, List.find?_cons_of_pos hp]
theorem find_none {es : List Int} {p : Int → Bool} (h : ∀ t (h : t < es.length), p es[t] = false) : es.find? p = none := by
  rw [List.find?_eq_none]
  intro x hx
  obtain ⟨t, ht, rfl⟩ := List.getElem_of_mem hx
  rw [h t ht]; simp
/-- the values of the rates that Rates hands back -/
theorem rates_map {vs : List Fx} {R : List Rat} (hl : vs.length = R.length) (h : ∀ i (h : i < vs.length), Vq vs[i] (R.getD i 0)) : vs.map Fx.q = R := by
  apply List.ext_getElem (by simpa using hl)
  intro i h1 h2
  have := (h i (by simpa using h1)).q
  rw [getD_lt _ _ _ h2] at this
  rw [List.getElem_map]; exact this
theorem ratesM_len {cp : Int → Int} {l : List Fl} {n : Nat} (h : OkR cp l n) : (ratesM cp l n).length = l.length := (ratesM_cert h).lo
set_option maxHeartbeats 4000000 in
theorem fbot_ok (w : World) (A : Option Addr) (n c : Nat) (caps : List Int) (D : Option Addr) (m d : Nat) (fs : List Fm) (hA : Is w A c caps) (hD : Ws w D d fs) (hn : n = caps.length) (hm : m = fs.length) (hv : validFl caps (fs.map Fm.fl)) (h14 : fs.length ≤ 14) :
    Calls Try.prog 20 #[.slice A n c, .slice D m d] w fun e w' => ∃ A' c', e = .returned (.tuple #[.slice A' (botM (cpF caps) (fs.map Fm.fl) (ratesM (cpF caps) (fs.map Fm.fl) caps.length)).length c', .int .i64 0]) ∧ Gr iv 3 w' w.heap.size A' c' (botM (cpF caps) (fs.map Fm.fl) (ratesM (cpF caps) (fs.map Fm.fl) caps.length)) ∧ Below w.heap.size w w' := by
  have HA := Lib.hid hA; clear hA
  have HD := Lib.hid hD; clear hD
  have HV := Lib.hid hv; clear hv
  subst hn hm
  obtain ⟨i1, hi, hi0, hi1, hi2⟩ := info_parts int_info
  go_enter Try.func20, Try.ntmps20
  go_wp2_with fail
  refine (frates_ok w A _ c caps D _ d fs HA.out HD.out rfl rfl HV.out h14).mono ?_
  rintro e w1 ⟨AR, vs, rfl, hq, hvl, hvq, bw1⟩
  have hR : vs.map Fx.q = ratesM (cpF caps) (fs.map Fm.fl) caps.length := rates_map (by rw [hvl, ratesM_len HV.out.okR, List.length_map]) (fun i hi => (hvq i hi).2)
  have HR := Lib.hid hR
  have HRD := Lib.hid hq.fr.rd
  have HVV : Hid (∀ v ∈ vs, v.v) := Lib.hid (fun v hv => by
    obtain ⟨i, hi, rfl⟩ := List.getElem_of_mem hv
    exact (hvq i hi).2.v)
  have HOK : Hid (OkF w1 vs) := Lib.hid (fun v hv => by
    refine ⟨hq.ok v hv, ?_⟩
    obtain ⟨i, hi, rfl⟩ := List.getElem_of_mem hv
    exact ⟨(hvq i hi).2.l, (hvq i hi).2.m⟩)
  have HVL := Lib.hid hvl
  have HBW1 := Lib.hid bw1
  clear hq hvl hvq hR bw1
  go_upto_region 5 with (refine wpList_make_rd w1 (mk := iv) 0 rfl _ _ 22 rfl 3 i1 8 Try.underlying22 hi hi0 hi1 hi2 rfl .i64 .i64 _ _ (fs.length) rfl rfl (by omega) (by omega) (by omega) (by simp only [maxLen]; omega) ?_; intro w2 hg2 hb2 hs2)
  generalize hg8 : w1.heap.size = g8 at hg2 hs2 ⊢
  have HG8 := Lib.hid hg8
  clear hg8
  go_wp2_with fail
  go_loopw [27] (fun jv wr => ∃ (k : Nat) (out : List Int), k ≤ fs.length ∧ jv = .int .i64 k ∧ out.length = fs.length ∧ (∀ i, i < k → out.getD i 0 = botA (cpF caps) (fs.map Fm.fl) (vs.map Fx.q) i) ∧ Gr iv 3 wr g8 (some ⟨g8, 0, none⟩) fs.length out ∧ Below w1.heap.size w1 wr) (fun jv _ => fs.length - (intOf jv).toNat)
  case atStart => exact ⟨0, _, by omega, rfl, by simp, (fun i h => by omega), hg2, hb2⟩
  case round =>
    clear hg2 hb2 hs2
    obtain ⟨k, out, hk, rfl, hol, hout, hG, bz⟩ := hrel
    have HOUT := Lib.hid hout
    have HOL := Lib.hid hol
    clear hout hol
    by_cases hlt : k < fs.length
    · have bwr := below_on HBW1.out bz HBW1.out.size
      have hW := HD.out.below bwr
      obtain ⟨ad, rfl, _, hcc⟩ := hW.rd (by omega)
      obtain ⟨hc0, hc1⟩ := hcc k hlt
      have hok := HD.out.ok _ (List.getElem_mem hlt)
      have hgl := fl_get hlt
      obtain ⟨x, hx⟩ : ∃ x, fs[k] = x := ⟨_, rfl⟩
      rw [hx] at hc0 hc1 hok hgl
      have HGL := Lib.hid hgl
      have HXO := Lib.hid hok
      have HXM : Hid (0 ≤ x.m ∧ x.m ≤ 4096) := Lib.hid (by
        have := HV.out.lm k (by simpa using hlt)
        rw [hgl.2] at this; exact this)
      have HLK : Hid (∀ e ∈ x.ls, 0 ≤ e ∧ e < (caps.length : Int)) := Lib.hid (fun e he => HV.out.okR.lk k (by simpa using hlt) e (by rw [hgl.1]; exact he))
      clear hcc hx hW hgl bwr hok
      have dgF : g8 < wr.heap.size := (hG.form.2.2 _ rfl).2
      go_upto_region 8 with fail
      have fb := (fb_alloc wr x 48).1
      have bb := (fb_alloc wr x 48).2
      clear hc0 hc1
      generalize (wr.alloc (.cells #[.slice x.A x.ls.length x.c, .int .i64 x.m] 48)) = wx at fb bb ⊢
      replace hG := hG.below bb
      replace bz := below_on bz bb bz.size
      clear bb
      generalize wr.heap.size = gF at fb dgF ⊢
      have ngF : ¬ g8 = gF := by omega
      have ngF2 : ¬ gF = g8 := by omega
      have e0 := hG.cell k (by rw [HOL.out]; exact hlt)
      have e1 := hG.free k
      go_upto_region 9 with fail
      have hG2 := hG.store k (-1)
      have hfb2 := fb.grown (grownBy_set1 wx ⟨g8, k, none⟩ (iv (-1))) (by show some gF ≠ some g8; simp; exact ngF2)
      have hbz2 := bz.setCell (p := ⟨g8, k, none⟩) (by show w1.heap.size ≤ g8; rw [HG8.out]; exact Nat.le_refl _) (iv (-1))
      clear hG fb bz e0 e1
      generalize (wx.setCell ⟨g8, k, none⟩ (.int .i64 (-1))) = wm at *
      have HG2 := Lib.hid hG2
      have HFB := Lib.hid hfb2
      have HBM := Lib.hid hbz2
      clear hG2 hfb2 hbz2
      have hkv : k < vs.length := by rw [HVL.out]; exact hlt
      have hmk := map_q_getD vs hkv
      have hn2 := okf_nm (HOK.out.below HBM.out) HVV.out hkv
      obtain ⟨ad2, rfl, e2⟩ := (HRD.out.below HBM.out).at k hkv
      obtain ⟨x2, hx2⟩ : ∃ x2, vs[k] = x2 := ⟨_, rfl⟩
      rw [hx2] at hmk hn2 e2
      have N2 := Lib.hid hn2
      have E2 := Lib.hid e2
      have HMK := Lib.hid hmk
      clear hn2 e2 hmk hx2
      obtain ⟨z, hz⟩ : ∃ z, cmpQ x2.q (x.m : Rat) = z := ⟨_, rfl⟩
      have HZ := Lib.hid hz
      clear hz
      go_cut [43] (fun s43 w3 => s43 = .bool (z == 0) ∧ Below wm.heap.size wm w3)
      case first =>
        refine wp_region_held_drew (S := fun w' => w'.cell? ⟨gF, 1, none⟩ = some (.int .i64 x.m) ∧ w'.cell? (ad2.add (k * 3)) = some (.bool x2.b) ∧ w'.cell? ⟨(ad2.add (k * 3)).block, (ad2.add (k * 3)).off + 1, none⟩ = some (.slice x2.A x2.xs.length x2.c) ∧ w'.cell? ⟨(ad2.add (k * 3)).block, (ad2.add (k * 3)).off + 2, none⟩ = some (.slice x2.D x2.ys.length x2.d)) (by kernel_rfl) ⟨(HFB.out.below ((Below.refl wm.heap.size wm).drew)).c1, (E2.out.below ((Below.refl wm.heap.size wm).drew)).c0, (E2.out.below ((Below.refl wm.heap.size wm).drew)).c1, (E2.out.below ((Below.refl wm.heap.size wm).drew)).c2⟩ (fun hHeld => ?_)
        have bz := (Below.refl wm.heap.size wm).drew
        generalize wm.drew = wd at *
        refine tkw 0 (.slice (some ad2) vs.length vs.length) rfl (by kernel_rfl) (by kernel_rfl) (by kernel_rfl) (fun _ _ _ h => h) ⟨by rfl, ?_⟩ (by assumption) ?_
        ·intro w hSw; go_simp; (try with_reducible rfl)
        try simp only [Act.put, tzA, tzB, tzD, tzE, tzF]
        refine tkw 1 (.int .i64 (k : Int)) rfl (by kernel_rfl) (by kernel_rfl) (by kernel_rfl) (fun _ _ _ h => h) ⟨by rfl, ?_⟩ (by assumption) ?_
        ·intro w hSw; go_simp; (try with_reducible rfl)
        try simp only [Act.put, tzA, tzB, tzC, tzD, tzE, tzF]
        refine tkw 2 (.pointer (some (ad2.add (k * 3)))) rfl (by kernel_rfl) (by kernel_rfl) (by kernel_rfl) (fun _ _ _ h => h) ⟨by rfl, ?_⟩ (by assumption) ?_
        ·intro w hSw; go_simp; (try with_reducible rfl)
        try simp only [Act.put, tzA, tzB, tzC, tzD, tzE, tzF]
        refine tkw 3 (x2.val) rfl (by kernel_rfl) (by kernel_rfl) (by kernel_rfl) (fun _ _ _ h => h) ⟨by rfl, ?_⟩ (by assumption) ?_
        ·intro w hSw; (try dsimp only at hSw); obtain ⟨_, s0, s1, s2⟩ := hSw; go_simp; (try with_reducible rfl)
        try simp only [Act.put, tzA, tzB, tzC, tzD, tzE, tzF]
        refine tkw 4 (.pointer (some ⟨gF, 1, none⟩)) rfl (by kernel_rfl) (by kernel_rfl) (by kernel_rfl) (fun _ _ _ h => h) ⟨by rfl, ?_⟩ (by assumption) ?_
        ·intro w hSw; go_simp; (try with_reducible rfl)
        try simp only [Act.put, tzA, tzB, tzC, tzD, tzE, tzF]
        refine tkw 5 (.int .i64 x.m) rfl (by kernel_rfl) (by kernel_rfl) (by kernel_rfl) (fun _ _ _ h => h) ⟨by rfl, ?_⟩ (by assumption) ?_
        ·intro w hSw; (try dsimp only at hSw); obtain ⟨s0, _⟩ := hSw; go_simp; (try with_reducible rfl)
        try simp only [Act.put, tzA, tzB, tzC, tzD, tzE, tzF]
        refine wpAnyH_ready (rs := [6]) (by kernel_rfl) (by simp) ?_
        refine AllReadyH.cons rfl (fun K hK => ?_) ?_
        ·go_simp
         go_at_call 38
         refine (whole_any wd x.m (by have := HXM.out; omega) (by have := HXM.out; omega)).mono ?_
         rintro e wd ⟨y, rfl, _, n4, bb⟩
         try replace n4 := n4.below bb
         replace bz := below_on bz bb bz.size
         clear bb
         refine hK.out _ _ ⟨(HFB.out.below bz).c1, (E2.out.below bz).c0, (E2.out.below bz).c1, (E2.out.below bz).c2⟩ (fun hHeld => ?_)
         clear hK K
         try simp only [Act.put]
         try simp only [tzD, tzE, tzF]
         refine wpAnyH_ready (rs := [7]) (by kernel_rfl) (by simp) ?_
         refine AllReadyH.cons rfl (fun K hK => ?_) ?_
         ·go_simp
          go_at_call 41
          refine (compare_any wd x2 y x2.q (x.m : Rat) z (N2.out.below bz) n4 HZ.out).mono ?_
          rintro e wd ⟨rfl, bb⟩
          clear n4
          try replace n4 := n4.below bb
          replace bz := below_on bz bb bz.size
          clear bb
          refine hK.out _ _ ⟨(HFB.out.below bz).c1, (E2.out.below bz).c0, (E2.out.below bz).c1, (E2.out.below bz).c2⟩ (fun hHeld => ?_)
          clear hK K
          try simp only [Act.put]
          try simp only [tzD, tzE, tzF]
          refine tkw 8 (.bool (z == 0)) rfl (by kernel_rfl) (by kernel_rfl) (by kernel_rfl) (fun _ _ _ h => h) ⟨by rfl, ?_⟩ (by assumption) ?_
          ·intro w hSw; go_simp; (try with_reducible rfl)
          try simp only [Act.put, tzA, tzB, tzC, tzD, tzE, tzF]
          refine wpAnyH_done (by kernel_rfl) ?_ _
          go_wp2_with fail
          go_meet
          case rel => exact ⟨rfl, bz⟩
         exact AllReadyH.nil
        exact AllReadyH.nil
      case rest =>
        obtain ⟨rfl, bb⟩ := hcut
        have hz2 := cmp_zero HZ.out
        have HB3 := Lib.hid bb
        clear bb
        by_cases he : x2.q = (x.m : Rat)
        · rw [hz2, decide_eq_true he]
          have HNX : Hid (∀ i, i < k + 1 → (out.set k (-1)).getD i 0 = botA (cpF caps) (fs.map Fm.fl) (vs.map Fx.q) i) := Lib.hid (fun i hi => by
            rw [getD_set]
            by_cases e : k = i
            · subst e
              rw [if_pos ⟨rfl, by rw [HOL.out]; exact hlt⟩, botA, if_pos (by rw [HMK.out, HGL.out.2]; exact he)]
            · rw [if_neg (fun h => e h.1)]; exact HOUT.out i (by omega))
          clear he hz2
          go_wp2_with fail
          go_roundw
          case rel => exact ⟨k + 1, out.set k (-1), by omega, by go_num, by rw [List.length_set]; exact HOL.out, HNX.out, HG2.out.below HB3.out, below_on HBM.out HB3.out HBM.out.size⟩
          case measure => simp [intOf]; omega
        · rw [hz2, decide_eq_false he]
          have HNE : Hid (¬ (vs.map Fx.q).getD k 0 = (lmA (fs.map Fm.fl) k : Rat)) := Lib.hid (by rw [HMK.out, HGL.out.2]; exact he)
          clear he hz2
          have fc0 := (HFB.out.below HB3.out).c0
          have hxl := HXO.out.is.len
          go_wp2_with fail
          go_loopw [47] (fun jv wz => ∃ j : Nat, j ≤ x.ls.length ∧ jv = .int .i64 j ∧ (∀ t (h : t < x.ls.length), t < j → decide (limP (cpF caps) (fs.map Fm.fl) (vs.map Fx.q) x.ls[t] k) = false) ∧ Below wm.heap.size wm wz) (fun jv _ => x.ls.length - (intOf jv).toNat)
          case atStart => exact ⟨0, by omega, rfl, (fun t _ h => by omega), HB3.out⟩
          case round =>
            clear HB3 fc0
            obtain ⟨j, hj, rfl, hno, bz⟩ := hrel
            have HNO := Lib.hid hno
            have HBZ := Lib.hid bz
            have HBW : Hid (Below w.heap.size w wr) := Lib.hid (below_on (below_on HBW1.out HBM.out HBW1.out.size) bz (Nat.le_trans HBW1.out.size HBM.out.size))
            have HB1 : Hid (Below w1.heap.size w1 wr) := Lib.hid (below_on HBM.out bz HBM.out.size)
            clear hno bz
            by_cases hjx : j < x.ls.length
            · obtain ⟨ax, hax, _, hcx⟩ := (HXO.out.is.below HBW.out).at j hjx
              have hlk := HLK.out _ (List.getElem_mem hjx)
              obtain ⟨e0, he0⟩ : ∃ e0 : Nat, x.ls[j] = (e0 : Int) := ⟨(x.ls[j]).toNat, by omega⟩
              rw [he0] at hcx hlk
              have HE0 := Lib.hid he0
              have hec : e0 < caps.length := by omega
              go_upto_region 13 with fail
              clear hax hcx hlk he0
              obtain ⟨b, hb⟩ : ∃ b, decide (limP (cpF caps) (fs.map Fm.fl) (vs.map Fx.q) e0 k) = b := ⟨_, rfl⟩
              have HB := Lib.hid hb
              clear hb
              go_wp2_with fail
              refine (limits_any wr A _ c caps (some ad) _ d fs (some ad2) _ _ vs e0 k b (HA.out.below HBW.out) (HD.out.below HBW.out) (HRD.out.below HB1.out) (HOK.out.below HB1.out) HVV.out rfl rfl rfl HVL.out (by omega) hec hlt HB.out).mono ?_
              rintro e wn ⟨rfl, bb⟩
              cases b with
              | true =>
                have hgm := (HG2.out.below HBZ.out).below bb
                have e0' := hgm.cell k (by rw [List.length_set, HOL.out]; exact hlt)
                have e1' := hgm.free k
                have hbm := below_on HB1.out bb HB1.out.size
                have HNX : Hid (∀ i, i < k + 1 → ((out.set k (-1)).set k (e0 : Int)).getD i 0 = botA (cpF caps) (fs.map Fm.fl) (vs.map Fx.q) i) := Lib.hid (fun i hi => by
                  rw [getD_set]
                  by_cases e : k = i
                  · subst e
                    rw [if_pos ⟨rfl, by rw [List.length_set, HOL.out]; exact hlt⟩, botA, if_neg HNE.out, HGL.out.1, find_at hjx HNO.out (by rw [HE0.out]; exact HB.out), HE0.out]; rfl
                  · rw [if_neg (fun h => e h.1), getD_set, if_neg (fun h => e h.1)]; exact HOUT.out i (by omega))
                go_wp2_with fail
                go_roundw
                case rel => exact ⟨k + 1, (out.set k (-1)).set k (e0 : Int), by omega, by go_num, by rw [List.length_set, List.length_set]; exact HOL.out, HNX.out, hgm.store k (e0 : Int), hbm.setCell (p := ⟨g8, k, none⟩) (by show w1.heap.size ≤ g8; rw [HG8.out]; exact Nat.le_refl _) _⟩
                case measure => simp [intOf]; omega
              | false =>
                go_wp2_with fail
                go_roundw
                case rel =>
                  refine ⟨j + 1, by omega, by go_num, fun t ht htj => ?_, below_on HBZ.out bb HBZ.out.size⟩
                  rcases Nat.lt_or_ge t j with h1 | h1
                  · exact HNO.out t ht h1
                  · obtain rfl : t = j := by omega
                    rw [HE0.out]; exact HB.out
                case measure => simp [intOf]; omega
            · have HNX : Hid (∀ i, i < k + 1 → (out.set k (-1)).getD i 0 = botA (cpF caps) (fs.map Fm.fl) (vs.map Fx.q) i) := Lib.hid (fun i hi => by
                rw [getD_set]
                by_cases e : k = i
                · subst e
                  rw [if_pos ⟨rfl, by rw [HOL.out]; exact hlt⟩, botA, if_neg HNE.out, HGL.out.1, find_none (fun t ht => HNO.out t ht (by omega))]; rfl
                · rw [if_neg (fun h => e h.1)]; exact HOUT.out i (by omega))
              go_wp2_with fail
              go_roundw
              case rel => exact ⟨k + 1, out.set k (-1), by omega, by go_num, by rw [List.length_set]; exact HOL.out, HNX.out, HG2.out.below HBZ.out, HB1.out⟩
              case measure => simp [intOf]; omega
    · obtain rfl : k = fs.length := by omega
      have HO : Hid (out = botM (cpF caps) (fs.map Fm.fl) (ratesM (cpF caps) (fs.map Fm.fl) caps.length)) := Lib.hid (by
        rw [← HR.out]
        exact botM_of (by rw [HOL.out, List.length_map]) (fun i hi => HOUT.out i (by simpa using hi)))
      go_wp2_with fail
      go_ret2
      rw [← HO.out, HOL.out]
      exact ⟨some ⟨g8, 0, none⟩, fs.length, rfl, hG.more (fun ad e => by injection e with e; subst e; show w.heap.size ≤ g8; have := HBW1.out.size; have h3 := HG8.out; omega), below_on HBW1.out bz HBW1.out.size⟩
end Go.Proofs.Ythdfflbhogfejaa
