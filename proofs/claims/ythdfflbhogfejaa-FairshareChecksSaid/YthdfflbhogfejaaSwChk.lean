/- The walk of FairshareChecks. -/
import Derived.Test.YthdfflbhogfejaaNatA
import Derived.Test.YthdfflbhogfejaaFhI
import Derived.Test.YthdfflbhogfejaaFhQ
import Derived.Test.YthdfflbhogfejaaFhT
import Derived.Test.YthdfflbhogfejaaOpenT
import Derived.Test.YthdfflbhogfejaaOpenL
import Derived.Deep.Cut
import Derived.Deep.DeepCutAuto
namespace Go.Proofs.Ythdfflbhogfejaa
set_option maxRecDepth 100000
open Go.RowKit

theorem nt_i64 {w : World} {A : Option Addr} {c : Nat} {xs : List Nat} (h : Nt w A c xs) {p : Addr} {v : Int} (hp : w.cell? p = some (.int .i64 v)) (u : Value) : Nt (w.setCell p u) A c xs :=
  ⟨h.cap, h.max, h.u, fun hn => by
    obtain ⟨ad, e, hl, hc⟩ := h.rd hn
    refine ⟨ad, e, by simpa [World.setCell] using hl, fun k hk => ?_⟩
    rw [World.cell?_setCell_other (w := w) (a := p) (b := ad.add k) (v := u) (fun e => by
      have := hc k hk
      rw [← e, hp] at this
      simp [lmv] at this)]
    exact hc k hk⟩
theorem Fx.ok.i64 {w : World} {x : Fx} (h : x.ok w) {p : Addr} {v : Int} (hp : w.cell? p = some (.int .i64 v)) (u : Value) : x.ok (w.setCell p u) := ⟨nt_i64 h.num hp u, nt_i64 h.den hp u⟩
/-- the rates and the bottlenecks of the law, one of them changed or not -/
structure RB (w0 wr : World) (N : Nat) (AR AB : Option Addr) (cB : Nat) (vs : List Fx) (bs : List Int) : Prop where
  q : Qr wr w0.heap.size AR vs
  lv : vs.length = N
  ll : ∀ v ∈ vs, v.xs.length ≤ 10000 ∧ v.ys.length ≤ 10000
  g : Gr iv 3 wr w0.heap.size AB cB bs
  lb : bs.length = N
  bd : ∀ x ∈ bs, -1000 ≤ x ∧ x ≤ 1000
  bw : Below w0.heap.size w0 wr
section
variable {w0 wr wn : World} {N cB gR gB : Nat} {AR AB : Option Addr} {vs : List Fx} {bs : List Int}
theorem RB.below (h : RB w0 wr N AR AB cB vs bs) (hb : Below wr.heap.size wr wn) : RB w0 wn N AR AB cB vs bs := ⟨h.q.below hb, h.lv, h.ll, h.g.below hb, h.lb, h.bd, below_on h.bw hb h.bw.size⟩
theorem RB.okf (h : RB w0 wr N AR AB cB vs bs) : OkF wr vs := fun v hv => ⟨h.q.ok v hv, h.ll v hv⟩
theorem RB.is (h : RB w0 wr N AR AB cB vs bs) : Is wr AB cB bs := h.g.is (fun x hx => by have := h.bd x hx; omega)
theorem RB.putR (h : RB w0 wr N (some ⟨gR, 0, none⟩) AB cB vs bs) (hne : ∀ ad, AB = some ad → ad.block ≠ gR) (k : Nat) {x : Fx} (hx : x.ok wr) (hl : x.xs.length ≤ 10000 ∧ x.ys.length ≤ 10000) :
    RB w0 (((wr.setCell ⟨gR, k * 3, none⟩ (.bool x.b)).setCell ⟨gR, k * 3 + 1, none⟩ (.slice x.A x.xs.length x.c)).setCell ⟨gR, k * 3 + 2, none⟩ (.slice x.D x.ys.length x.d)) N (some ⟨gR, 0, none⟩) AB cB (vs.set k x) bs :=
  ⟨h.q.put k hx, by rw [List.length_set]; exact h.lv, fun v hv => by
    rcases List.mem_or_eq_of_mem_set hv with h1 | h1
    · exact h.ll v h1
    · rw [h1]; exact hl, h.g.far3 hne, h.lb, h.bd, q3_below h.bw h.q.lt.1⟩
theorem RB.putB (h : RB w0 wr N AR (some ⟨gB, 0, none⟩) cB vs bs) (hne : ∀ ad, AR = some ad → ad.block ≠ gB) (k : Nat) (hk : k < bs.length) {t : Int} (ht : -1000 ≤ t ∧ t ≤ 1000) :
    RB w0 (wr.setCell ⟨gB, k, none⟩ (.int .i64 t)) N AR (some ⟨gB, 0, none⟩) cB vs (bs.set k t) := by
  have hc := h.g.cell k hk
  exact ⟨⟨h.q.fr.far (p := ⟨gB, k, none⟩) hne _, fun v hv => (h.q.ok v hv).i64 hc _⟩, h.lv, h.ll, h.g.store k t, by rw [List.length_set]; exact h.lb, fun x hx => by
    rcases List.mem_or_eq_of_mem_set hx with h1 | h1
    · exact h.bd x h1
    · rw [h1]; exact ht, h.bw.setCell (p := ⟨gB, k, none⟩) (h.g.form.2.2 _ rfl).1 _⟩
end
theorem ex_dec (p : Prop) : ∃ b : Bool, (p ↔ b = true) := by
  by_cases h : p
  · exact ⟨true, fun _ => rfl, fun _ => h⟩
  · exact ⟨false, fun k => absurd k h, fun k => by cases k⟩
set_option maxHeartbeats 6400000 in
theorem checks_walk (w : World) (A : Option Addr) (c : Nat) (cs : List Int) (D : Option Addr) (d : Nat) (xs : List Int) (wh nu de to_ : Int) (E : Option Addr) (ce : Nat) (rs : List Fx) (F : Option Addr) (cf : Nat) (ats : List Int) (hA : Is w A c cs) (hB : Is w D d xs) (h1 : (Lit.int .i64 wh).wf = true) (h2 : (Lit.int .i64 nu).wf = true) (h3 : (Lit.int .i64 de).wf = true) (h4 : (Lit.int .i64 to_).wf = true)
    (hrd : RdF w E rs) (_ : rs.length ≤ ce) (_ : ce ≤ maxLen) (hrk : ∀ v ∈ rs, v.ok w) (hF : Is w F cf ats) :
    Calls Try.prog 7 #[.slice A cs.length c, .slice D xs.length d, .int .i64 wh, .int .i64 nu, .int .i64 de, .int .i64 to_, .slice E rs.length ce, .slice F ats.length cf] w fun e w' => e = .returned (.bool true) ∧ Below w.heap.size w w' := by
  have H1 := Lib.hid (wf_i64 h1)
  have H2 := Lib.hid (wf_i64 h2)
  have H3 := Lib.hid (wf_i64 h3)
  have H4 := Lib.hid (wf_i64 h4)
  have HRD := Lib.hid hrd
  have HRK := Lib.hid hrk
  have HF := Lib.hid hF
  have HLL0 : Hid (∀ v ∈ rs, v.xs.length ≤ 9223372036854775807 ∧ v.ys.length ≤ 9223372036854775807) := Lib.hid (fun v hv => lens_ok (hrk v hv))
  have hfl := hF.len
  clear h1 h2 h3 h4 hrd hrk hF
  have HA := Lib.hid hA; clear hA
  have HB := Lib.hid hB; clear hB
  have bw := Below.refl w.heap.size w
  by_cases hr : rs.length ≤ 20
  · have g1 : decide ((20 : Int) < (rs.length : Int)) = false := decide_eq_false (by omega)
    by_cases ha : ats.length ≤ 20
    · have g2 : decide ((20 : Int) < (ats.length : Int)) = false := decide_eq_false (by omega)
      go_enter Try.func7, Try.ntmps7
      go_wp2_with fail
      refine (caps_any w A _ c cs HA.out rfl).mono ?_
      rintro e wn ⟨A', c', rfl, hI, bb⟩
      have HI := Lib.hid hI
      replace bw := below_on bw bb bw.size
      clear bb hI
      go_wp2_with fail
      refine (flowsL_walk wn D _ d xs (capsM cs).length (HB.out.below bw) rfl (by have := (capsM_len cs).2; omega)).mono ?_
      rintro e wt ⟨D', d', fs, rfl, hfm, hT, bb⟩
      have HT := Lib.hid hT
      have HI := Lib.hid (HI.out.below bb)
      replace bw := below_on bw bb bw.size
      have h7 : fs.length ≤ 7 := by
        have h1 := congrArg List.length hfm
        rw [List.length_map] at h1
        have h2 := flowsM_len xs (capsM cs).length
        omega
      have hc5 := (capsM_len cs).2
      have HV := Lib.hid (flowsM_valid cs xs)
      rw [← hfm] at HV
      clear bb hT hfm
      obtain ⟨caps, hcaps⟩ : ∃ caps, capsM cs = caps := ⟨_, rfl⟩
      rw [hcaps] at HI HV hc5 ⊢
      clear hcaps
      go_wp2_with fail
      refine (rrates_ok wt A' _ c' caps D' _ d' fs HI.out HT.out rfl rfl HV.out (by omega)).mono ?_
      rintro e w2 ⟨AR, vs, rfl, hq, hvl, hvq, bb⟩
      have HI2 := Lib.hid (HI.out.below bb)
      have HT2 := Lib.hid (HT.out.below bb)
      have HQ := Lib.hid hq
      have HVL := Lib.hid hvl
      have HLL : Hid (∀ v ∈ vs, v.xs.length ≤ 10000 ∧ v.ys.length ≤ 10000) := Lib.hid (fun v hv => by
        obtain ⟨i, hi, rfl⟩ := List.getElem_of_mem hv
        exact ⟨(hvq i hi).2.l, (hvq i hi).2.m⟩)
      have HB2 := Lib.hid bb
      have HBW := Lib.hid bw
      clear bb hq hvl hvq bw
      go_wp2_with fail
      refine (rbot_ok w2 A' _ c' caps D' _ d' fs HI2.out HT2.out rfl rfl HV.out (by omega)).mono ?_
      rintro e w3 ⟨AB, cB, rfl, hG, bb⟩
      obtain ⟨bs, hbs⟩ : ∃ bs, botM (cpF caps) (fs.map Fm.fl) (ratesM (cpF caps) (fs.map Fm.fl) caps.length) = bs := ⟨_, rfl⟩
      have hbl : bs.length = fs.length := by rw [← hbs, botM_len, List.length_map]
      have hbd : ∀ x ∈ bs, -1000 ≤ x ∧ x ≤ 1000 := fun x hx => by
        rw [← hbs] at hx
        obtain ⟨i, hi, rfl⟩ := List.mem_map.1 hx
        have hi' : i < (fs.map Fm.fl).length := by simpa using hi
        rw [botA]
        split
        · omega
        · cases hf : (lkA (fs.map Fm.fl) i).find? (fun e => decide (limP (cpF caps) (fs.map Fm.fl) (ratesM (cpF caps) (fs.map Fm.fl) caps.length) e i)) with
          | none => simp
          | some e =>
            have h1 := HV.out.okR.lk i hi' e (List.mem_of_find?_eq_some hf)
            have h2 := HV.out.1
            simp only [Option.getD_some]
            omega
      rw [hbs] at hG ⊢
      rw [hbl]
      have HNE : Hid (∀ a b, AR = some a → AB = some b → a.block ≠ b.block) := Lib.hid (fun a b ea eb => by
        have h1 := (hG.form.2.2 b eb).1
        have h2 := (HQ.out.fr.lt a.block (by rw [ea]; rfl)).2
        omega)
      have hrb : RB wt w3 fs.length AR AB cB vs bs := ⟨HQ.out.below bb, HVL.out, HLL.out, hG.more (fun ad e => Nat.le_trans HB2.out.size (hG.form.2.2 ad e).1), hbl, hbd, below_on HB2.out bb HB2.out.size⟩
      have HRB := Lib.hid hrb
      rw [HVL.out]
      clear hrb hG bb hbs hbl hbd HI2 HT2 HQ HLL HB2 HVL
      go_upto_if 54 with fail
      go_cut [] (fun wx => ∃ (vs : List Fx) (bs : List Int), RB wt wx fs.length AR AB cB vs bs)
      case first =>
        by_cases h0 : fs.length = 0
        · have t2 : decide ((0 : Int) < (fs.length : Int)) = false := decide_eq_false (by omega)
          go_wp2_with fail
          go_meet
          case rel => exact ⟨vs, bs, HRB.out⟩
        · have t2 : decide ((0 : Int) < (fs.length : Int)) = true := decide_eq_true (by omega)
          go_wp2_with fail
          refine (within_any w3 wh (fs.length : Int) H1.out (by omega)).mono ?_
          rintro e w5 ⟨rfl, rfl⟩
          have hkb := withinM_bd wh (n := (fs.length : Int)) (by omega)
          obtain ⟨k, hk⟩ : ∃ k : Nat, withinM wh (fs.length : Int) = (k : Int) := ⟨(withinM wh (fs.length : Int)).toNat, by omega⟩
          rw [hk] at hkb ⊢
          have hkl : k < fs.length := by omega
          obtain ⟨gR, rfl⟩ := HRB.out.q.addr (by rw [HRB.out.lv]; omega)
          clear hk hkb
          go_upto_if 61 with fail
          obtain ⟨t, ht⟩ : ∃ t, (bits .and .i64 wh 1 == 0) = t := ⟨_, rfl⟩
          rw [ht]
          clear ht
          go_cut [] (fun wx => ∃ vs : List Fx, RB wt wx fs.length (some ⟨gR, 0, none⟩) AB cB vs bs)
          case first =>
            cases t with
            | false =>
              go_wp2_with fail
              go_meet
              case rel => exact ⟨vs, HRB.out⟩
            | true =>
              go_wp2_with fail
              refine (within_any _ nu 30 H2.out (by omega)).mono ?_
              rintro e w5 ⟨rfl, rfl⟩
              have hn := withinM_bd nu (n := 30) (by omega)
              obtain ⟨n0, hn0⟩ : ∃ n0, withinM nu 30 = n0 := ⟨_, rfl⟩
              rw [hn0] at hn ⊢
              clear hn0
              go_wp2_with fail
              refine (within_any _ de 4 H3.out (by omega)).mono ?_
              rintro e w5 ⟨rfl, rfl⟩
              have hd := withinM_bd de (n := 4) (by omega)
              obtain ⟨d0, hd0⟩ : ∃ d0, withinM de 4 = d0 := ⟨_, rfl⟩
              rw [hd0] at hd ⊢
              clear hd0
              obtain ⟨q, hq⟩ : ∃ q, Rat.divInt n0 (1 + d0) = q := ⟨_, rfl⟩
              have hsz : Sz q 128 128 := by
                rw [← hq, ← qv_divInt (by omega)]
                exact (Sz.of_qv (n := 2) (d := 2) (by omega) (lim_len2 (by omega)) (lim_len2 (by omega))).mono (by omega) (by omega)
              have hmk : makeF n0 (1 + d0) = okS q := by rw [makeF, if_neg (by omega), hq]; exact frS_ok hsz
              have HMK := Lib.hid hmk
              have HSZ := Lib.hid hsz
              have hw1 : wrap64 (1 + d0) = 1 + d0 := by unfold wrap64; omega
              clear hq hsz hmk
              go_wp2_with fail
              refine (rfmake_any _ n0 (1 + d0) _ (by omega) (by omega) (by omega) (by omega) HMK.out).mono ?_
              rintro e w5 ⟨x1, rfl, hs1, ok1, bb⟩
              have HR1 := Lib.hid (Rp.of hs1)
              have hrb := HRB.out.below bb
              clear bb hs1 hw1 hn hd HMK
              obtain ⟨c0, c1, c2⟩ := hrb.q.cells k (by rw [hrb.lv]; exact hkl)
              have f0 := hrb.q.free (k * 3)
              have f1 := hrb.q.free (k * 3 + 1)
              have f2 := hrb.q.free (k * 3 + 2)
              have hput := hrb.putR (fun ad e h => HNE.out _ _ rfl e h.symm) k ok1 ⟨HR1.out.l1 HSZ.out, HR1.out.l2 HSZ.out⟩
              go_wp2_with fail
              go_meet
              case rel => exact ⟨_, hput⟩
          case rest =>
            obtain ⟨vs, hrb⟩ := hcut
            have HRB1 := Lib.hid hrb
            clear HRB hrb
            go_upto_if 76 with fail
            obtain ⟨t, ht⟩ : ∃ t, (bits .and .i64 wh 2 == 0) = t := ⟨_, rfl⟩
            rw [ht]
            clear ht
            cases t with
            | false =>
              go_wp2_with fail
              go_meet
              case rel => exact ⟨vs, bs, HRB1.out⟩
            | true =>
              have hw1 : wrap64 ((caps.length : Int) + 2) = (caps.length : Int) + 2 := by unfold wrap64; omega
              go_wp2_with fail
              refine (within_any _ to_ ((caps.length : Int) + 2) H4.out (by omega)).mono ?_
              rintro e w5 ⟨rfl, rfl⟩
              have hd := withinM_bd to_ (n := (caps.length : Int) + 2) (by omega)
              obtain ⟨t0, ht0⟩ : ∃ t0, withinM to_ ((caps.length : Int) + 2) = t0 := ⟨_, rfl⟩
              rw [ht0] at hd ⊢
              clear ht0
              obtain ⟨gB, rfl⟩ := HRB1.out.g.some_ (by rw [HRB1.out.lb]; omega)
              have e0 := HRB1.out.g.cell k (by rw [HRB1.out.lb]; exact hkl)
              have e1 := HRB1.out.g.free k
              have hput := HRB1.out.putB (fun ad e h => HNE.out _ _ e rfl h) k (by rw [HRB1.out.lb]; exact hkl) (t := t0 - 1) (by omega)
              go_wp2_with fail
              go_meet
              case rel => exact ⟨_, _, hput⟩
      case rest =>
        obtain ⟨vs, bs, hrb⟩ := hcut
        have HRB := Lib.hid hrb
        have hbw := below_on HBW.out hrb.bw HBW.out.size
        have HBC := Lib.hid hbw
        have HIC := Lib.hid (HI.out.below hrb.bw)
        have HTC := Lib.hid (HT.out.below hrb.bw)
        have HVL := Lib.hid hrb.lv
        have HBL := Lib.hid hrb.lb
        clear hrb hbw HNE HBW HI HT
        go_wp2_with fail
        go_loopw [24] (fun i wr => ∃ k : Nat, k ≤ rs.length ∧ i = .int .i64 k ∧ (∀ t (h : t < rs.length), t < k → rs[t].xs.length ≤ 20 ∧ rs[t].ys.length ≤ 20) ∧ Below wc.heap.size wc wr) (fun i _ => rs.length - (intOf i).toNat)
        case atStart => exact ⟨0, by omega, rfl, fun t _ h => by omega, Below.refl _ _⟩
        case round =>
          obtain ⟨k, hk, rfl, hgood, bz⟩ := hrel
          have HGOOD := Lib.hid hgood
          clear hgood
          by_cases hlt : k < rs.length
          · have bw := below_on HBC.out bz HBC.out.size
            obtain ⟨ad, rfl, el⟩ := (HRD.out.below bw).at k hlt
            have hll := HLL0.out _ (List.getElem_mem hlt)
            obtain ⟨x1, hx1⟩ : ∃ x1, rs[k] = x1 := ⟨_, rfl⟩
            have HX1 := Lib.hid hx1
            rw [hx1] at el hll
            have c1 := el.c1
            have c2 := el.c2
            clear el hx1
            by_cases hn : x1.xs.length ≤ 20
            · have d1 : decide ((20 : Int) < (x1.xs.length : Int)) = false := decide_eq_false (by omega)
              by_cases hd : x1.ys.length ≤ 20
              · have d2 : decide ((20 : Int) < (x1.ys.length : Int)) = false := decide_eq_false (by omega)
                have HNX : Hid (∀ t (h : t < rs.length), t < k + 1 → rs[t].xs.length ≤ 20 ∧ rs[t].ys.length ≤ 20) := Lib.hid (fun t ht htk => by
                  rcases Nat.lt_or_ge t k with h1 | h1
                  · exact HGOOD.out t ht h1
                  · obtain rfl : t = k := by omega
                    rw [HX1.out]; exact ⟨hn, hd⟩)
                go_wp2_with fail
                go_roundw
                case rel => exact ⟨k + 1, by omega, by go_num, HNX.out, bz⟩
                case measure => simp [intOf]; omega
              · have d2 : decide ((20 : Int) < (x1.ys.length : Int)) = true := decide_eq_true (by omega)
                go_wp2_with fail
                refine (awakes_any _).mono ?_
                rintro e wn ⟨rfl, bb⟩
                replace bw := below_on bw bb bw.size
                go_wp2_with fail
                go_ret
                exact ⟨rfl, bw⟩
            · have d1 : decide ((20 : Int) < (x1.xs.length : Int)) = true := decide_eq_true (by omega)
              go_wp2_with fail
              refine (awakes_any _).mono ?_
              rintro e wn ⟨rfl, bb⟩
              replace bw := below_on bw bb bw.size
              go_wp2_with fail
              go_ret
              exact ⟨rfl, bw⟩
          · have HOKR : Hid (OkF w rs) := Lib.hid (fun v hv => by
              refine ⟨HRK.out v hv, ?_⟩
              obtain ⟨i, hi, rfl⟩ := List.getElem_of_mem hv
              have := HGOOD.out i hi (by omega)
              omega)
            clear HGOOD
            obtain ⟨b1, hb1⟩ := ex_dec (chkP caps (fs.map Fm.fl) vs bs)
            obtain ⟨b2, hb2⟩ := ex_dec (chkP caps (fs.map Fm.fl) rs ats)
            have HB1 := Lib.hid hb1
            have HB2 := Lib.hid hb2
            have e1 : (b1 == b1) = true := by cases b1 <;> rfl
            have e2 : (b2 == b2) = true := by cases b2 <;> rfl
            clear hb1 hb2
            have HBZ := Lib.hid bz
            clear bz
            go_wp2_with fail
            refine (awakes_any _).mono ?_
            rintro e wa ⟨rfl, bb⟩
            have HB3 := Lib.hid (below_on HBZ.out bb HBZ.out.size)
            clear bb HBZ
            go_wp2_with fail
            refine (check_any _ A' _ c' caps D' _ d' fs AR _ _ vs AB _ cB bs b1 (HIC.out.below HB3.out) (HTC.out.below HB3.out) (HRB.out.q.fr.rd.below HB3.out) (HRB.out.okf.below HB3.out) (HRB.out.is.below HB3.out) rfl rfl HVL.out.symm HBL.out.symm (by rw [HVL.out]; omega) HB1.out).mono ?_
            rintro e wb ⟨rfl, bb⟩
            have HB4 := Lib.hid (below_on HB3.out bb HB3.out.size)
            clear bb HB3
            go_wp2_with fail
            refine (rcheck_any _ A' _ c' caps D' _ d' fs AR _ _ vs AB _ cB bs b1 (HIC.out.below HB4.out) (HTC.out.below HB4.out) (HRB.out.q.fr.rd.below HB4.out) (HRB.out.okf.below HB4.out) (HRB.out.is.below HB4.out) rfl rfl HVL.out.symm HBL.out.symm (by rw [HVL.out]; omega) HB1.out).mono ?_
            rintro e wd ⟨rfl, bb⟩
            have HB5 := Lib.hid (below_on HB4.out bb HB4.out.size)
            have HBW5 := Lib.hid (below_on HBC.out HB5.out HBC.out.size)
            clear bb HB4
            go_wp2_with fail
            refine (check_any _ A' _ c' caps D' _ d' fs E _ ce rs F _ cf ats b2 (HIC.out.below HB5.out) (HTC.out.below HB5.out) (HRD.out.below HBW5.out) (HOKR.out.below HBW5.out) (HF.out.below HBW5.out) rfl rfl rfl rfl (by omega) HB2.out).mono ?_
            rintro e we ⟨rfl, bb⟩
            have HB6 := Lib.hid (below_on HB5.out bb HB5.out.size)
            have HBW6 := Lib.hid (below_on HBC.out HB6.out HBC.out.size)
            clear bb HB5 HBW5
            go_wp2_with fail
            refine (rcheck_any _ A' _ c' caps D' _ d' fs E _ ce rs F _ cf ats b2 (HIC.out.below HB6.out) (HTC.out.below HB6.out) (HRD.out.below HBW6.out) (HOKR.out.below HBW6.out) (HF.out.below HBW6.out) rfl rfl rfl rfl (by omega) HB2.out).mono ?_
            rintro e wf ⟨rfl, bb⟩
            have bw := below_on HBW6.out bb HBW6.out.size
            clear bb
            go_wp2_with fail
            go_ret
            exact ⟨by first | rfl | simp, bw⟩
    · have g2 : decide ((20 : Int) < (ats.length : Int)) = true := decide_eq_true (by omega)
      go_enter Try.func7, Try.ntmps7
      go_wp2_with fail
      refine (awakes_any _).mono ?_
      rintro e wn ⟨rfl, bb⟩
      replace bw := below_on bw bb bw.size
      go_wp2_with fail
      go_ret
      exact ⟨rfl, bw⟩
  · have g1 : decide ((20 : Int) < (rs.length : Int)) = true := decide_eq_true (by omega)
    go_enter Try.func7, Try.ntmps7
    go_wp2_with fail
    refine (awakes_any _).mono ?_
    rintro e wn ⟨rfl, bb⟩
    replace bw := below_on bw bb bw.size
    go_wp2_with fail
    go_ret
    exact ⟨rfl, bw⟩
end Go.Proofs.Ythdfflbhogfejaa
