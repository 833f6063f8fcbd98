/- The walk of interval.Hull. The reference of package interval: Less, Same, Valid, lowest, Point, Contains, Inside, pair, Width. -/
import Derived.Test.YtlcolmifmhdboaaIvH
import Derived.Test.YtlcolmifmhdboaaIvD
import Derived.Test.YtlcolmifmhdboaaRfG
import Derived.Test.YtlcolmifmhdboaaIvA
namespace Go.Proofs.Ytlcolmifmhdboaa
open Go.RowKit

/-- a slice that reads as intervals -/
def RdI (w : World) (A : Option Addr) (vs : List Ix) : Prop := 0 < vs.length → ∃ ad, A = some ad ∧ ad.block < w.heap.size ∧
  ∀ k (hk : k < vs.length), w.cell? (ad.add (k * 6)) = some (.bool vs[k].lo.b) ∧ w.cell? ⟨(ad.add (k * 6)).block, (ad.add (k * 6)).off + 1, none⟩ = some (.slice vs[k].lo.A vs[k].lo.xs.length vs[k].lo.c) ∧ w.cell? ⟨(ad.add (k * 6)).block, (ad.add (k * 6)).off + 2, none⟩ = some (.slice vs[k].lo.D vs[k].lo.ys.length vs[k].lo.d) ∧ w.cell? ⟨(ad.add (k * 6)).block, (ad.add (k * 6)).off + 3, none⟩ = some (.bool vs[k].hi.b) ∧ w.cell? ⟨(ad.add (k * 6)).block, (ad.add (k * 6)).off + 4, none⟩ = some (.slice vs[k].hi.A vs[k].hi.xs.length vs[k].hi.c) ∧ w.cell? ⟨(ad.add (k * 6)).block, (ad.add (k * 6)).off + 5, none⟩ = some (.slice vs[k].hi.D vs[k].hi.ys.length vs[k].hi.d)
set_option maxRecDepth 100000 in
theorem RdI.below {w w' : World} {A : Option Addr} {vs : List Ix} (h : RdI w A vs) (hb : Below w.heap.size w w') : RdI w' A vs := fun hn => by
  obtain ⟨ad, e, hl, hc⟩ := h hn
  refine ⟨ad, e, Nat.lt_of_lt_of_le hl hb.size, fun k hk => ?_⟩
  obtain ⟨h0, h1, h2, h3, h4, h5⟩ := hc k hk
  have e2 : (ad.add (k * 6)).block = ad.block := block_of_add _ _
  have hx : ∀ o, w'.cell? ⟨(ad.add (k * 6)).block, o, none⟩ = w.cell? ⟨(ad.add (k * 6)).block, o, none⟩ := fun o => hb.cell (p := ⟨(ad.add (k * 6)).block, o, none⟩) (by show (ad.add (k * 6)).block < _; rw [e2]; exact hl)
  exact ⟨(hb.cell (p := ad.add (k * 6)) (by rw [e2]; exact hl)).trans h0, (hx _).trans h1, (hx _).trans h2, (hx _).trans h3, (hx _).trans h4, (hx _).trans h5⟩
def OkI (w : World) (vs : List Ix) : Prop := ∀ v ∈ vs, v.ok w ∧ v.few
set_option maxRecDepth 100000 in
theorem OkI.below {w w' : World} {vs : List Ix} (h : OkI w vs) (hb : Below w.heap.size w w') : OkI w' vs := fun v hv => ⟨(h v hv).1.below hb, (h v hv).2⟩
def endsL (vs : List Ix) : List Fx := vs.flatMap (fun a => [a.lo, a.hi])
set_option maxRecDepth 100000 in
theorem endsL_len (vs : List Ix) : (endsL vs).length = 2 * vs.length := by
  induction vs with
  | nil => rfl
  | cons x vs ih => rw [endsL, List.flatMap_cons, List.length_append, ← endsL, ih]; simp; omega
set_option maxRecDepth 100000 in
theorem endsL_take {vs : List Ix} {k : Nat} (h : k < vs.length) : endsL (vs.take (k + 1)) = endsL (vs.take k) ++ [vs[k].lo, vs[k].hi] := by
  rw [List.take_succ_eq_append_getElem h, endsL, List.flatMap_append]; rfl
set_option maxRecDepth 100000 in
theorem endsL_ok {w : World} {vs : List Ix} (h : OkI w vs) : OkF w (endsL vs) := fun v hv => by
  rw [endsL, List.mem_flatMap] at hv
  obtain ⟨a, ha, hm⟩ := hv
  obtain ⟨o, f⟩ := h a ha
  simp only [List.mem_cons, List.not_mem_nil, or_false] at hm
  rcases hm with rfl | rfl
  · exact ⟨o.lo, f.l1, f.m1⟩
  · exact ⟨o.hi, f.l2, f.m2⟩
set_option maxRecDepth 100000 in
theorem endsL_v {vs : List Ix} (h : ∀ a ∈ vs, a.v) : ∀ v ∈ endsL vs, v.v := fun v hv => by
  rw [endsL, List.mem_flatMap] at hv
  obtain ⟨a, ha, hm⟩ := hv
  simp only [List.mem_cons, List.not_mem_nil, or_false] at hm
  rcases hm with rfl | rfl
  · exact (h a ha).1
  · exact (h a ha).2.1
def allV (vs : List Ix) : Prop := ∀ a ∈ vs, a.v
instance (vs : List Ix) : Decidable (allV vs) := inferInstanceAs (Decidable (∀ a ∈ vs, a.v))
/-- the least interval that holds them all -/
def hullS (vs : List Ix) : IvS := if vs ≠ [] ∧ allV vs then (okS (loP ((endsL vs).map Fx.q)), okS (hiP ((endsL vs).map Fx.q)), 0) else errI 1
set_option maxHeartbeats 4000000 in
set_option maxRecDepth 100000 in
theorem ihull_any (w : World) (A : Option Addr) (n c : Nat) (vs : List Ix) (S : IvS) (hrd : RdI w A vs) (hok : OkI w vs) (hn : n = vs.length) (hm : n ≤ 100) (hs : hullS vs = S) :
    Calls Try.prog 32 #[.slice A n c] w (IvlRes w S) := by
  have HRD := Lib.hid hrd
  have HOK := Lib.hid hok
  have HS := Lib.hid hs
  clear hs hrd hok
  subst hn
  go_enter Try.func32, Try.ntmps32
  go_upto_region 1 with fail
  have br := (zr_alloc w).1
  have bw := (zr_alloc w).2
  generalize (w.alloc (.cells zcells 41)) = wm at br bw ⊢
  have hB : w.heap.size + 1 ≤ wm.heap.size := br.lt
  have HBR := Lib.hid br
  clear br
  go_wp2_with fail
  go_loopw [4, 9] (fun s i wr => ∃ (k : Nat) (out : List Fx) (A2 : Option Addr) (c2 : Nat), k ≤ vs.length ∧ i = .int .i64 k ∧ s = .slice A2 out.length c2 ∧ Fr wr wm.heap.size A2 c2 out ∧ NoI wr A2 ∧ out = endsL (vs.take k) ∧ (∀ v ∈ vs.take k, v.v) ∧ Below wm.heap.size wm wr) (fun _ i _ => vs.length - (intOf i).toNat)
  case atStart => exact ⟨0, [], none, 0, by omega, rfl, rfl, fr_nil _ _, NoI.nil _, rfl, (fun v hv => nomatch hv), Below.refl _ _⟩
  case round =>
    obtain ⟨k, out, A2, c2, hkl, rfl, rfl, fr, ni, hout, hvo, bz⟩ := hrel
    have HOUT := Lib.hid hout
    have HVO := Lib.hid hvo
    have bwr := below_on bw bz bw.size
    have hszr := bz.size
    clear hout hvo
    by_cases hlt : k < vs.length
    · obtain ⟨ad, rfl, _, hcc⟩ := (HRD.out.below bwr) (by omega)
      obtain ⟨hc0, hc1, hc2, hc3, hc4, hc5⟩ := hcc k hlt
      obtain ⟨ok1, f1⟩ := (HOK.out.below bwr) _ (List.getElem_mem hlt)
      have hte := endsL_take hlt
      have hmv := List.getElem_mem hlt
      have htk := List.take_succ_eq_append_getElem hlt
      obtain ⟨x1, hx1⟩ : ∃ x1, vs[k] = x1 := ⟨_, rfl⟩
      rw [hx1] at hc0 hc1 hc2 hc3 hc4 hc5 ok1 f1 hte hmv htk
      have HTE := Lib.hid hte
      have HMV := Lib.hid hmv
      have HTK := Lib.hid htk
      clear hcc hx1 hte hmv htk
      go_upto_region 5 with fail
      clear hc0 hc1 hc2 hc3 hc4 hc5
      have a1 := (ia_alloc ok1).1
      have bb := (ia_alloc ok1).2
      clear ok1 bwr
      generalize (wr.alloc (.cells #[.bool x1.lo.b, .slice x1.lo.A x1.lo.xs.length x1.lo.c, .slice x1.lo.D x1.lo.ys.length x1.lo.d, .bool x1.hi.b, .slice x1.hi.A x1.hi.xs.length x1.hi.c, .slice x1.hi.D x1.hi.ys.length x1.hi.d] 41)) = wx at a1 bb ⊢
      replace fr := fr.below bb
      replace ni := ni.below bb
      replace bz := below_on bz bb bz.size
      clear bb
      generalize wr.heap.size = g6 at a1 hszr ⊢
      by_cases hv : x1.v
      · have HV := Lib.hid hv
        clear hv
        have ci0 := a1.c0
        have ci1 := a1.c1
        have ci2 := a1.c2
        have ci3 := a1.c3
        have ci4 := a1.c4
        have ci5 := a1.c5
        go_wp2_with fail
        clear ci0 ci1 ci2 ci3 ci4 ci5
        refine (ivalid_any _ x1 true a1.ok f1 (decide_eq_true HV.out)).mono ?_
        rintro e wn ⟨rfl, bb⟩
        replace fr := fr.below bb
        replace ni := ni.below bb
        try replace a1 := a1.below bb
        replace bz := below_on bz bb bz.size
        clear bb
        go_upto_region 7 with fail
        have hol : out.length ≤ 200 := by rw [HOUT.out, endsL_len, List.length_take]; omega
        have ci0 := a1.c0
        have ci1 := a1.c1
        have ci2 := a1.c2
        have ci3 := a1.c3
        have ci4 := a1.c4
        have ci5 := a1.c5
        go_wp2_with (at_builtin; refine wpList_append_frac _ rfl _ _ rfl rfl (A := A2) (c := c2) (n := out.length) (xs := out) rfl rfl (fr.below ((Below.refl _ _).alloc (Nat.le_refl _) _)) (ni.below ((Below.refl _ _).alloc (Nat.le_refl _) _)) _ 2 2 [x1.lo, x1.hi] rfl rfl (rdf2 _ x1.lo x1.hi) (by simp) (by omega) (by simp; have := bz.size; omega) ?_; intro A4 c4 wz fr4 ni4 bz4 gr4 hat4)
        have blit := (Below.refl wn.heap.size wn).alloc (Nat.le_refl _) (.cells #[.bool x1.lo.b, .slice x1.lo.A x1.lo.xs.length x1.lo.c, .slice x1.lo.D x1.lo.ys.length x1.lo.d, .bool x1.hi.b, .slice x1.hi.A x1.hi.xs.length x1.hi.c, .slice x1.hi.D x1.hi.ys.length x1.hi.d] 25)
        go_roundw
        case rel =>
          refine ⟨k + 1, out ++ [x1.lo, x1.hi], A4, c4, by omega, by go_num, by simp, fr4, ni4, ?_, ?_, (bz.trans (blit.mono bz.size)).trans bz4⟩
          · rw [HTE.out, ← HOUT.out]
          · intro v hv
            rw [HTK.out] at hv
            rcases List.mem_append.1 hv with h | h
            · exact HVO.out v h
            · obtain rfl : v = x1 := by simpa using h
              exact HV.out
        case measure => simp [intOf]; omega
      · have HV : Hid (¬ x1.v) := hv
        have HE : Hid (hullS vs = errI 1) := Lib.hid (if_neg (fun e => hv (e.2 x1 HMV.out)))
        clear hv
        have ci0 := a1.c0
        have ci1 := a1.c1
        have ci2 := a1.c2
        have ci3 := a1.c3
        have ci4 := a1.c4
        have ci5 := a1.c5
        go_wp2_with fail
        clear ci0 ci1 ci2 ci3 ci4 ci5
        refine (ivalid_any _ x1 false a1.ok f1 (decide_eq_false HV.out)).mono ?_
        rintro e wn ⟨rfl, bb⟩
        replace fr := fr.below bb
        replace ni := ni.below bb
        try replace a1 := a1.below bb
        replace bz := below_on bz bb bz.size
        clear bb
        have br := HBR.out.below bz
        have bw2 := below_on bw bz bw.size
        clear bw
        have bw := bw2
        clear bw2 bz
        have r0 := br.cell 0
        have r1 := br.cell 1
        have r2 := br.cell 2
        have r3 := br.cell 3
        have r4 := br.cell 4
        have r5 := br.cell 5
        have rf0 := br.unf 0
        have rf1 := br.unf 1
        have rf2 := br.unf 2
        have rf3 := br.unf 3
        have rf4 := br.unf 4
        have rf5 := br.unf 5
        simp only [List.getElem?_toArray, List.getElem?_cons_succ, List.getElem?_cons_zero] at r0 r1 r2 r3 r4 r5
        go_wp2_with fail
        refine bodyPost_ret (v := .tuple #[(Ix.nil : Ix).val, .int .i64 1]) (by simp [results, Try.results32, go_sem, r0, r1, r2, r3, r4, r5]) rfl ?_
        rw [← HS.out, HE.out]
        exact ⟨Ix.nil, rfl, ⟨rfl, rfl, rfl⟩, ⟨rfl, rfl, rfl⟩, Ix.nil_ok _, set6_below bw (by omega)⟩
    · obtain rfl : k = vs.length := by omega
      have hout : out = endsL vs := by rw [HOUT.out, List.take_of_length_le (Nat.le_refl _)]
      have hvv : allV vs := fun v hv => HVO.out v (by rw [List.take_of_length_le (Nat.le_refl _)]; exact hv)
      have hol := endsL_len vs
      rw [← hout] at hol
      have br := HBR.out.below bz
      have hcp := fr.caps
      have hrf := fr.rd
      have hof : OkF wr out := by rw [hout]; exact endsL_ok (HOK.out.below (below_on bw bz bw.size))
      have hov : ∀ v ∈ out, v.v := by rw [hout]; exact endsL_v hvv
      have bw2 := below_on bw bz bw.size
      clear bw
      have bw := bw2
      clear bw2 bz
      cases out with
      | nil =>
        have HE : Hid (hullS vs = errI 1) := Lib.hid (if_neg (fun e => e.1 (List.eq_nil_of_length_eq_zero (by simp at hol; omega))))
        clear hol hout hcp hrf hof hov
        have r0 := br.cell 0
        have r1 := br.cell 1
        have r2 := br.cell 2
        have r3 := br.cell 3
        have r4 := br.cell 4
        have r5 := br.cell 5
        have rf0 := br.unf 0
        have rf1 := br.unf 1
        have rf2 := br.unf 2
        have rf3 := br.unf 3
        have rf4 := br.unf 4
        have rf5 := br.unf 5
        simp only [List.getElem?_toArray, List.getElem?_cons_succ, List.getElem?_cons_zero] at r0 r1 r2 r3 r4 r5
        go_wp2_with fail
        refine bodyPost_ret (v := .tuple #[(Ix.nil : Ix).val, .int .i64 1]) (by simp [results, Try.results32, go_sem, r0, r1, r2, r3, r4, r5]) rfl ?_
        rw [← HS.out, HE.out]
        exact ⟨Ix.nil, rfl, ⟨rfl, rfl, rfl⟩, ⟨rfl, rfl, rfl⟩, Ix.nil_ok _, set6_below bw (by omega)⟩
      | cons v0 out =>
        obtain ⟨ad, rfl, _⟩ := hrf (by simp)
        have HS2 : Hid ((okS (loQ out v0.q), okS (hiQ out v0.q), (0 : Int)) = S) := Lib.hid (by
          have hcd : vs ≠ [] ∧ allV vs := ⟨fun e => by rw [e] at hol; simp at hol, hvv⟩
          rw [← HS.out, hullS, if_pos hcd, ← hout, loQ_loL, hiQ_hiL]; rfl)
        have HOL2 : Hid (out.length + 1 = 2 * vs.length) := Lib.hid (by simpa using hol)
        have HCP := Lib.hid hcp
        have HRF := Lib.hid hrf
        have HOV := Lib.hid hov
        have hne : ((out.length : Int) + 1 == 0) = false := beq_eq_false_iff_ne.2 (by omega)
        clear hol hout hcp hrf hov
        go_wp2_with fail
        have hcl1 : out.length + 1 ≤ c2 := HCP.out.1
        refine (ispan_any wr ad (out.length + 1) c2 v0 out _ _ HRF.out hof HOV.out rfl (by have := HOL2.out; omega) hcl1 (by have := HOL2.out; omega) HCP.out.2 rfl rfl).mono ?_
        rintro e wn ⟨a, rfl, h1, h2, oka, bb⟩
        try replace br := br.below bb
        try replace a1 := a1.below bb
        replace bw := below_on bw bb bw.size
        clear bb
        have r0 := br.cell 0
        have r1 := br.cell 1
        have r2 := br.cell 2
        have r3 := br.cell 3
        have r4 := br.cell 4
        have r5 := br.cell 5
        have rf0 := br.unf 0
        have rf1 := br.unf 1
        have rf2 := br.unf 2
        have rf3 := br.unf 3
        have rf4 := br.unf 4
        have rf5 := br.unf 5
        simp only [List.getElem?_toArray, List.getElem?_cons_succ, List.getElem?_cons_zero] at r0 r1 r2 r3 r4 r5
        go_wp2_with fail
        refine bodyPost_ret (v := .tuple #[(a : Ix).val, .int .i64 0]) (by simp [results, Try.results32, go_sem, r0, r1, r2, r3, r4, r5]) rfl ?_
        rw [← HS2.out]
        exact ⟨a, rfl, h1, h2, ⟨set6_ok oka.lo br noInt_z, set6_ok oka.hi br noInt_z⟩, set6_below bw (by omega)⟩
end Go.Proofs.Ytlcolmifmhdboaa
namespace Go.Proofs.Ytlcolmifmhdboaa
open Go.RowKit

set_option maxRecDepth 100000 in
theorem cmpQ_neg (p q : Rat) : decide (cmpQ p q < 0) = decide (p < q) := by
  rcases cmpQ_cases p q with ⟨h, e⟩ | ⟨h, e⟩ | ⟨h, e⟩ <;> rw [e]
  · rw [decide_eq_true h]; rfl
  · rw [h, decide_eq_false Rat.lt_irrefl]; rfl
  · rw [decide_eq_false (Rat.not_lt.2 (Rat.le_of_lt h))]; rfl
set_option maxRecDepth 100000 in
theorem cmpQ_zero (p q : Rat) : decide (cmpQ p q = 0) = decide (p = q) := by
  rcases cmpQ_cases p q with ⟨h, e⟩ | ⟨h, e⟩ | ⟨h, e⟩ <;> rw [e]
  · rw [decide_eq_false (Rat.ne_of_lt h)]; rfl
  · rw [decide_eq_true h]; rfl
  · rw [decide_eq_false (Rat.ne_of_gt h)]; rfl
set_option maxHeartbeats 800000 in
set_option maxRecDepth 100000 in
theorem rless_any (w : World) (x1 x2 : Fx) (b : Bool) (ok1 : x1.ok w) (ok2 : x2.ok w) (v1 : x1.v) (v2 : x2.v) (f1 : x1.few) (f2 : x2.few) (hb : decide (x1.q < x2.q) = b) :
    Calls Try.prog 53 #[x1.val, x2.val] w fun e w' => e = .returned (.bool b) ∧ Below w.heap.size w w' := by
  obtain ⟨z, hz⟩ : ∃ z, cmpQ x1.q x2.q = z := ⟨_, rfl⟩
  rw [← cmpQ_neg, hz] at hb
  have HB := Lib.hid hb
  have HZ := Lib.hid hz
  have V1 := Lib.hid v1
  have V2 := Lib.hid v2
  clear hb hz v1 v2
  go_enter Try.func53, Try.ntmps53
  go_upto_region 1 with fail
  have bw := Below.refl w.heap.size w
  have a1 := (fa_alloc ok1).1
  have bb := (fa_alloc ok1).2
  have sz1 := size_box w (.cells x1.cells 25)
  clear ok1
  generalize (w.alloc (.cells x1.cells 25)) = wA at a1 bb sz1 ⊢
  try replace ok1 := ok1.below bb
  try replace ok2 := ok2.below bb
  try replace a1 := a1.below bb
  try replace a2 := a2.below bb
  replace bw := below_on bw bb bw.size
  clear bb
  have a2 := (fa_alloc ok2).1
  have bb := (fa_alloc ok2).2
  have sz2 := size_box wA (.cells x2.cells 25)
  rw [sz1] at a2 sz2
  clear ok2 sz1
  generalize (wA.alloc (.cells x2.cells 25)) = wm at a2 bb sz2 ⊢
  try replace ok1 := ok1.below bb
  try replace ok2 := ok2.below bb
  try replace a1 := a1.below bb
  try replace a2 := a2.below bb
  replace bw := below_on bw bb bw.size
  clear bb
  clear sz2
  have ci0 := a1.c0
  have ci1 := a1.c1
  have ci2 := a1.c2
  have cj0 := a2.c0
  have cj1 := a2.c1
  have cj2 := a2.c2
  go_wp2_with fail
  clear ci0 ci1 ci2 cj0 cj1 cj2
  refine (rforder_any _ x1 x2 z a1.ok a2.ok V1.out V2.out f1.l f1.m f2.l f2.m HZ.out).mono ?_
  rintro e wn ⟨rfl, bb⟩
  try replace a1 := a1.below bb
  try replace a2 := a2.below bb
  replace bw := below_on bw bb bw.size
  clear bb
  go_wp2_with fail
  go_ret
  exact ⟨ret_bool HB.out, bw⟩
set_option maxHeartbeats 800000 in
set_option maxRecDepth 100000 in
theorem rsame_any (w : World) (x1 x2 : Fx) (b : Bool) (ok1 : x1.ok w) (ok2 : x2.ok w) (v1 : x1.v) (v2 : x2.v) (f1 : x1.few) (f2 : x2.few) (hb : decide (x1.q = x2.q) = b) :
    Calls Try.prog 30 #[x1.val, x2.val] w fun e w' => e = .returned (.bool b) ∧ Below w.heap.size w w' := by
  obtain ⟨z, hz⟩ : ∃ z, cmpQ x1.q x2.q = z := ⟨_, rfl⟩
  rw [← cmpQ_zero, hz] at hb
  have HB : Hid ((z == 0) = b) := Lib.hid (by rw [← hb]; exact Bool.beq_eq_decide_eq z 0)
  have HZ := Lib.hid hz
  have V1 := Lib.hid v1
  have V2 := Lib.hid v2
  clear hb hz v1 v2
  go_enter Try.func30, Try.ntmps30
  go_upto_region 1 with fail
  have bw := Below.refl w.heap.size w
  have a1 := (fa_alloc ok1).1
  have bb := (fa_alloc ok1).2
  have sz1 := size_box w (.cells x1.cells 25)
  clear ok1
  generalize (w.alloc (.cells x1.cells 25)) = wA at a1 bb sz1 ⊢
  try replace ok1 := ok1.below bb
  try replace ok2 := ok2.below bb
  try replace a1 := a1.below bb
  try replace a2 := a2.below bb
  replace bw := below_on bw bb bw.size
  clear bb
  have a2 := (fa_alloc ok2).1
  have bb := (fa_alloc ok2).2
  have sz2 := size_box wA (.cells x2.cells 25)
  rw [sz1] at a2 sz2
  clear ok2 sz1
  generalize (wA.alloc (.cells x2.cells 25)) = wm at a2 bb sz2 ⊢
  try replace ok1 := ok1.below bb
  try replace ok2 := ok2.below bb
  try replace a1 := a1.below bb
  try replace a2 := a2.below bb
  replace bw := below_on bw bb bw.size
  clear bb
  clear sz2
  have ci0 := a1.c0
  have ci1 := a1.c1
  have ci2 := a1.c2
  have cj0 := a2.c0
  have cj1 := a2.c1
  have cj2 := a2.c2
  go_wp2_with fail
  clear ci0 ci1 ci2 cj0 cj1 cj2
  refine (rforder_any _ x1 x2 z a1.ok a2.ok V1.out V2.out f1.l f1.m f2.l f2.m HZ.out).mono ?_
  rintro e wn ⟨rfl, bb⟩
  try replace a1 := a1.below bb
  try replace a2 := a2.below bb
  replace bw := below_on bw bb bw.size
  clear bb
  go_wp2_with fail
  go_ret
  exact ⟨ret_bool HB.out, bw⟩
set_option maxHeartbeats 1600000 in
set_option maxRecDepth 100000 in
theorem rivalid_any (w : World) (x1 : Ix) (b : Bool) (ok1 : x1.ok w) (f1 : x1.few) (hb : decide x1.v = b) :
    Calls Try.prog 20 #[x1.val] w fun e w' => e = .returned (.bool b) ∧ Below w.heap.size w w' := by
  by_cases h1 : x1.lo.v
  · have V1 := Lib.hid h1
    by_cases h2 : x1.hi.v
    · have V2 := Lib.hid h2
      obtain ⟨z, hz⟩ : ∃ z, cmpQ x1.lo.q x1.hi.q = z := ⟨_, rfl⟩
      have HZ := Lib.hid hz
      have HB : Hid (decide (z ≤ 0) = b) := Lib.hid (by
        rw [← hb, ← hz, cmpQ_le, decide_eq_decide, Ix.v, leF]
        exact ⟨fun h => ⟨h1, h2, h⟩, fun h => h.2.2⟩)
      clear h1 h2 hb hz
      go_enter Try.func20, Try.ntmps20
      go_upto_region 1 with fail
      have bw := Below.refl w.heap.size w
      have a1 := (ia_alloc ok1).1
      have bb := (ia_alloc ok1).2
      have sz1 := size_box w (.cells x1.cells 41)
      clear ok1
      generalize (w.alloc (.cells x1.cells 41)) = wm at a1 bb sz1 ⊢
      try replace ok1 := ok1.below bb
      try replace a1 := a1.below bb
      replace bw := below_on bw bb bw.size
      clear bb
      clear sz1
      have ci0 := a1.c0
      have ci1 := a1.c1
      have ci2 := a1.c2
      have ci3 := a1.c3
      have ci4 := a1.c4
      have ci5 := a1.c5
      go_wp2_with fail
      clear ci0 ci1 ci2 ci3 ci4 ci5
      refine (rfvalid_any _ x1.lo true a1.ok.lo f1.lo.l f1.lo.m (decide_eq_true V1.out)).mono ?_
      rintro e wn ⟨rfl, bb⟩
      try replace a1 := a1.below bb
      replace bw := below_on bw bb bw.size
      clear bb
      have ci0 := a1.c0
      have ci1 := a1.c1
      have ci2 := a1.c2
      have ci3 := a1.c3
      have ci4 := a1.c4
      have ci5 := a1.c5
      go_wp2_with fail
      clear ci0 ci1 ci2 ci3 ci4 ci5
      refine (rfvalid_any _ x1.hi true a1.ok.hi f1.hi.l f1.hi.m (decide_eq_true V2.out)).mono ?_
      rintro e wn ⟨rfl, bb⟩
      try replace a1 := a1.below bb
      replace bw := below_on bw bb bw.size
      clear bb
      have ci0 := a1.c0
      have ci1 := a1.c1
      have ci2 := a1.c2
      have ci3 := a1.c3
      have ci4 := a1.c4
      have ci5 := a1.c5
      go_wp2_with fail
      clear ci0 ci1 ci2 ci3 ci4 ci5
      refine (rforder_any _ x1.lo x1.hi z a1.ok.lo a1.ok.hi V1.out V2.out f1.lo.l f1.lo.m f1.hi.l f1.hi.m HZ.out).mono ?_
      rintro e wn ⟨rfl, bb⟩
      try replace a1 := a1.below bb
      replace bw := below_on bw bb bw.size
      clear bb
      go_wp2_with fail
      go_ret
      exact ⟨ret_bool HB.out, bw⟩
    · have V2 : Hid (¬ x1.hi.v) := h2
      have HB : Hid (false = b) := Lib.hid (by rw [← hb, decide_eq_false]; exact fun h => h2 h.2.1)
      clear h1 h2 hb
      go_enter Try.func20, Try.ntmps20
      go_upto_region 1 with fail
      have bw := Below.refl w.heap.size w
      have a1 := (ia_alloc ok1).1
      have bb := (ia_alloc ok1).2
      have sz1 := size_box w (.cells x1.cells 41)
      clear ok1
      generalize (w.alloc (.cells x1.cells 41)) = wm at a1 bb sz1 ⊢
      try replace ok1 := ok1.below bb
      try replace a1 := a1.below bb
      replace bw := below_on bw bb bw.size
      clear bb
      clear sz1
      have ci0 := a1.c0
      have ci1 := a1.c1
      have ci2 := a1.c2
      have ci3 := a1.c3
      have ci4 := a1.c4
      have ci5 := a1.c5
      go_wp2_with fail
      clear ci0 ci1 ci2 ci3 ci4 ci5
      refine (rfvalid_any _ x1.lo true a1.ok.lo f1.lo.l f1.lo.m (decide_eq_true V1.out)).mono ?_
      rintro e wn ⟨rfl, bb⟩
      try replace a1 := a1.below bb
      replace bw := below_on bw bb bw.size
      clear bb
      have ci0 := a1.c0
      have ci1 := a1.c1
      have ci2 := a1.c2
      have ci3 := a1.c3
      have ci4 := a1.c4
      have ci5 := a1.c5
      go_wp2_with fail
      clear ci0 ci1 ci2 ci3 ci4 ci5
      refine (rfvalid_any _ x1.hi false a1.ok.hi f1.hi.l f1.hi.m (decide_eq_false V2.out)).mono ?_
      rintro e wn ⟨rfl, bb⟩
      try replace a1 := a1.below bb
      replace bw := below_on bw bb bw.size
      clear bb
      go_wp2_with fail
      go_ret
      exact ⟨ret_bool HB.out, bw⟩
  · have V1 : Hid (¬ x1.lo.v) := h1
    have HB : Hid (false = b) := Lib.hid (by rw [← hb, decide_eq_false]; exact fun h => h1 h.1)
    clear h1 hb
    go_enter Try.func20, Try.ntmps20
    go_upto_region 1 with fail
    have bw := Below.refl w.heap.size w
    have a1 := (ia_alloc ok1).1
    have bb := (ia_alloc ok1).2
    have sz1 := size_box w (.cells x1.cells 41)
    clear ok1
    generalize (w.alloc (.cells x1.cells 41)) = wm at a1 bb sz1 ⊢
    try replace ok1 := ok1.below bb
    try replace a1 := a1.below bb
    replace bw := below_on bw bb bw.size
    clear bb
    clear sz1
    have ci0 := a1.c0
    have ci1 := a1.c1
    have ci2 := a1.c2
    have ci3 := a1.c3
    have ci4 := a1.c4
    have ci5 := a1.c5
    go_wp2_with fail
    clear ci0 ci1 ci2 ci3 ci4 ci5
    refine (rfvalid_any _ x1.lo false a1.ok.lo f1.lo.l f1.lo.m (decide_eq_false V1.out)).mono ?_
    rintro e wn ⟨rfl, bb⟩
    try replace a1 := a1.below bb
    replace bw := below_on bw bb bw.size
    clear bb
    go_wp2_with fail
    go_ret
    exact ⟨ret_bool HB.out, bw⟩
set_option maxHeartbeats 1600000 in
set_option maxRecDepth 100000 in
theorem rilowest_any (w : World) (x1 : Ix) (S T : FS) (ok1 : x1.ok w) (f1 : x1.few) (hs : redS x1.lo = S) (ht : redS x1.hi = T) :
    Calls Try.prog 81 #[x1.val] w (IvlNew w S T) := by
  have HS := Lib.hid hs
  have HT := Lib.hid ht
  clear hs ht
  go_enter Try.func81, Try.ntmps81
  go_upto_region 1 with fail
  have bw := Below.refl w.heap.size w
  have a1 := (ia_alloc ok1).1
  have bb := (ia_alloc ok1).2
  have sz1 := size_box w (.cells x1.cells 41)
  clear ok1
  generalize (w.alloc (.cells x1.cells 41)) = wA at a1 bb sz1 ⊢
  try replace ok1 := ok1.below bb
  try replace ok3 := ok3.below bb
  try replace ok4 := ok4.below bb
  try replace br := br.below bb
  try replace a1 := a1.below bb
  try replace a3 := a3.below bb
  try replace a4 := a4.below bb
  replace bw := below_on bw bb bw.size
  clear bb
  have br := (zr_alloc wA).1
  have bb := (zr_alloc wA).2
  rw [sz1] at br
  clear sz1
  generalize (wA.alloc (.cells zcells 41)) = wm at br bb ⊢
  try replace a1 := a1.below bb
  try replace a3 := a3.below bb
  try replace a4 := a4.below bb
  replace bw := below_on bw bb bw.size
  clear bb
  have ci0 := a1.c0
  have ci1 := a1.c1
  have ci2 := a1.c2
  have ci3 := a1.c3
  have ci4 := a1.c4
  have ci5 := a1.c5
  go_wp2_with fail
  clear ci0 ci1 ci2 ci3 ci4 ci5
  refine (rfreduce_any _ x1.lo S a1.ok.lo f1.l1 f1.m1 HS.out).mono ?_
  rintro e wn ⟨x3, rfl, hs3, ok3, bb⟩
  have HS3 := Lib.hid hs3
  clear hs3
  try replace br := br.below bb
  try replace a1 := a1.below bb
  try replace a3 := a3.below bb
  try replace a4 := a4.below bb
  replace bw := below_on bw bb bw.size
  clear bb
  go_upto_region 2 with fail
  have a3 := (fa_alloc ok3).1
  have bb := (fa_alloc ok3).2
  clear ok3
  generalize (wn.alloc (.cells #[.bool x3.b, .slice x3.A x3.xs.length x3.c, .slice x3.D x3.ys.length x3.d] 25)) = wm at a3 bb ⊢
  try replace br := br.below bb
  try replace a1 := a1.below bb
  try replace a3 := a3.below bb
  try replace a4 := a4.below bb
  replace bw := below_on bw bb bw.size
  clear bb
  generalize wn.heap.size = g3 at a3 ⊢
  have ci0 := a1.c0
  have ci1 := a1.c1
  have ci2 := a1.c2
  have ci3 := a1.c3
  have ci4 := a1.c4
  have ci5 := a1.c5
  go_wp2_with fail
  clear ci0 ci1 ci2 ci3 ci4 ci5
  refine (rfreduce_any _ x1.hi T a1.ok.hi f1.l2 f1.m2 HT.out).mono ?_
  rintro e wn ⟨x4, rfl, hs4, ok4, bb⟩
  have HS4 := Lib.hid hs4
  clear hs4
  try replace br := br.below bb
  try replace a1 := a1.below bb
  try replace a3 := a3.below bb
  try replace a4 := a4.below bb
  replace bw := below_on bw bb bw.size
  clear bb
  go_upto_region 3 with fail
  have a4 := (fa_alloc ok4).1
  have bb := (fa_alloc ok4).2
  clear ok4
  generalize (wn.alloc (.cells #[.bool x4.b, .slice x4.A x4.xs.length x4.c, .slice x4.D x4.ys.length x4.d] 25)) = wm at a4 bb ⊢
  try replace br := br.below bb
  try replace a1 := a1.below bb
  try replace a3 := a3.below bb
  try replace a4 := a4.below bb
  replace bw := below_on bw bb bw.size
  clear bb
  generalize wn.heap.size = g4 at a4 ⊢
  have ci0 := a3.c0
  have ci1 := a3.c1
  have ci2 := a3.c2
  have cj0 := a4.c0
  have cj1 := a4.c1
  have cj2 := a4.c2
  have r0 := br.cell 0
  have r1 := br.cell 1
  have r2 := br.cell 2
  have r3 := br.cell 3
  have r4 := br.cell 4
  have r5 := br.cell 5
  have rf0 := br.unf 0
  have rf1 := br.unf 1
  have rf2 := br.unf 2
  have rf3 := br.unf 3
  have rf4 := br.unf 4
  have rf5 := br.unf 5
  simp only [List.getElem?_toArray, List.getElem?_cons_succ, List.getElem?_cons_zero] at r0 r1 r2 r3 r4 r5
  go_wp2_with fail
  refine bodyPost_ret (v := (⟨x3, x4⟩ : Ix).val) (by simp [results, Try.results81, go_sem, r0, r1, r2, r3, r4, r5]) rfl ?_
  exact ⟨⟨x3, x4⟩, rfl, HS3.out, HS4.out, ⟨set6_ok a3.ok br noInt_z, set6_ok a4.ok br noInt_z⟩, set6_below bw (by omega)⟩
end Go.Proofs.Ytlcolmifmhdboaa
