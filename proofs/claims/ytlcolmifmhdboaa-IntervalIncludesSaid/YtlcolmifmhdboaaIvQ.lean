/- The walk of interval.Hull. What the reference's span needs: stores into an interval's variable, the least of a list, fractions in lowest terms. -/
import Derived.Test.YtlcolmifmhdboaaIvF
import Derived.Test.YtlcolmifmhdboaaFrD
import Derived.Test.YtlcolmifmhdboaaFrcA
namespace Go.Proofs.Ytlcolmifmhdboaa
open Go.RowKit

/-- a slice that reads as intervals -/
def RdI (w : World) (A : Option Addr) (vs : List Ix) : Prop := 0 < vs.length → ∃ ad, A = some ad ∧ ad.block < w.heap.size ∧
  ∀ k (hk : k < vs.length), w.cell? (ad.add (k * 6)) = some (.bool vs[k].lo.b) ∧ w.cell? ⟨(ad.add (k * 6)).block, (ad.add (k * 6)).off + 1, none⟩ = some (.slice vs[k].lo.A vs[k].lo.xs.length vs[k].lo.c) ∧ w.cell? ⟨(ad.add (k * 6)).block, (ad.add (k * 6)).off + 2, none⟩ = some (.slice vs[k].lo.D vs[k].lo.ys.length vs[k].lo.d) ∧ w.cell? ⟨(ad.add (k * 6)).block, (ad.add (k * 6)).off + 3, none⟩ = some (.bool vs[k].hi.b) ∧ w.cell? ⟨(ad.add (k * 6)).block, (ad.add (k * 6)).off + 4, none⟩ = some (.slice vs[k].hi.A vs[k].hi.xs.length vs[k].hi.c) ∧ w.cell? ⟨(ad.add (k * 6)).block, (ad.add (k * 6)).off + 5, none⟩ = some (.slice vs[k].hi.D vs[k].hi.ys.length vs[k].hi.d)
set_option maxRecDepth 100000 in
theorem RdI.below {w w' : World} {A : Option Addr} {vs : List Ix} (h : RdI w A vs) (hb : Below w.heap.size w w') : RdI w' A vs := fun hn => by
  obtain ⟨ad, e, hl, hc⟩ := h hn
  refine ⟨ad, e, Nat.lt_of_lt_of_le hl hb.size, fun k hk => ?_⟩
  obtain ⟨h0, h1, h2, h3, h4, h5⟩ := hc k hk
  have e2 : (ad.add (k * 6)).block = ad.block := block_of_add _ _
  have hx : ∀ o, w'.cell? ⟨(ad.add (k * 6)).block, o, none⟩ = w.cell? ⟨(ad.add (k * 6)).block, o, none⟩ := fun o => hb.cell (p := ⟨(ad.add (k * 6)).block, o, none⟩) (by show (ad.add (k * 6)).block < _; rw [e2]; exact hl)
  exact ⟨(hb.cell (p := ad.add (k * 6)) (by rw [e2]; exact hl)).trans h0, (hx _).trans h1, (hx _).trans h2, (hx _).trans h3, (hx _).trans h4, (hx _).trans h5⟩
def OkI (w : World) (vs : List Ix) : Prop := ∀ v ∈ vs, v.ok w ∧ v.few
set_option maxRecDepth 100000 in
theorem OkI.below {w w' : World} {vs : List Ix} (h : OkI w vs) (hb : Below w.heap.size w w') : OkI w' vs := fun v hv => ⟨(h v hv).1.below hb, (h v hv).2⟩
def endsL (vs : List Ix) : List Fx := vs.flatMap (fun a => [a.lo, a.hi])
set_option maxRecDepth 100000 in
theorem endsL_len (vs : List Ix) : (endsL vs).length = 2 * vs.length := by
  induction vs with
  | nil => rfl
  | cons x vs ih => rw [endsL, List.flatMap_cons, List.length_append, ← endsL, ih]; simp; omega
set_option maxRecDepth 100000 in
theorem endsL_take {vs : List Ix} {k : Nat} (h : k < vs.length) : endsL (vs.take (k + 1)) = endsL (vs.take k) ++ [vs[k].lo, vs[k].hi] := by
  rw [List.take_succ_eq_append_getElem h, endsL, List.flatMap_append]; rfl
set_option maxRecDepth 100000 in
theorem endsL_ok {w : World} {vs : List Ix} (h : OkI w vs) : OkF w (endsL vs) := fun v hv => by
  rw [endsL, List.mem_flatMap] at hv
  obtain ⟨a, ha, hm⟩ := hv
  obtain ⟨o, f⟩ := h a ha
  simp only [List.mem_cons, List.not_mem_nil, or_false] at hm
  rcases hm with rfl | rfl
  · exact ⟨o.lo, f.l1, f.m1⟩
  · exact ⟨o.hi, f.l2, f.m2⟩
set_option maxRecDepth 100000 in
theorem endsL_v {vs : List Ix} (h : ∀ a ∈ vs, a.v) : ∀ v ∈ endsL vs, v.v := fun v hv => by
  rw [endsL, List.mem_flatMap] at hv
  obtain ⟨a, ha, hm⟩ := hv
  simp only [List.mem_cons, List.not_mem_nil, or_false] at hm
  rcases hm with rfl | rfl
  · exact (h a ha).1
  · exact (h a ha).2.1
def allV (vs : List Ix) : Prop := ∀ a ∈ vs, a.v
instance (vs : List Ix) : Decidable (allV vs) := inferInstanceAs (Decidable (∀ a ∈ vs, a.v))
/-- the least interval that holds them all -/
def hullS (vs : List Ix) : IvS := if vs ≠ [] ∧ allV vs then (okS (loP ((endsL vs).map Fx.q)), okS (hiP ((endsL vs).map Fx.q)), 0) else errI 1
set_option maxHeartbeats 4000000 in
set_option maxRecDepth 100000 in
theorem ihull_any (w : World) (A : Option Addr) (n c : Nat) (vs : List Ix) (S : IvS) (hrd : RdI w A vs) (hok : OkI w vs) (hn : n = vs.length) (hm : n ≤ 100) (hs : hullS vs = S) :
    Calls Try.prog 32 #[.slice A n c] w (IvlRes w S) := by
  have HRD := Lib.hid hrd
  have HOK := Lib.hid hok
  have HS := Lib.hid hs
  clear hs hrd hok
  subst hn
  go_enter Try.func32, Try.ntmps32
  go_upto_region 1 with fail
  have br := (zr_alloc w).1
  have bw := (zr_alloc w).2
  generalize (w.alloc (.cells zcells 41)) = wm at br bw ⊢
  have hB : w.heap.size + 1 ≤ wm.heap.size := br.lt
  have HBR := Lib.hid br
  clear br
  go_wp2_with fail
  go_loopw [4, 9] (fun s i wr => ∃ (k : Nat) (out : List Fx) (A2 : Option Addr) (c2 : Nat), k ≤ vs.length ∧ i = .int .i64 k ∧ s = .slice A2 out.length c2 ∧ Fr wr wm.heap.size A2 c2 out ∧ NoI wr A2 ∧ out = endsL (vs.take k) ∧ (∀ v ∈ vs.take k, v.v) ∧ Below wm.heap.size wm wr) (fun _ i _ => vs.length - (intOf i).toNat)
  case atStart => exact ⟨0, [], none, 0, by omega, rfl, rfl, fr_nil _ _, NoI.nil _, rfl, (fun v hv => nomatch hv), Below.refl _ _⟩
  case round =>
    obtain ⟨k, out, A2, c2, hkl, rfl, rfl, fr, ni, hout, hvo, bz⟩ := hrel
    have HOUT := Lib.hid hout
    have HVO := Lib.hid hvo
    have bwr := below_on bw bz bw.size
    have hszr := bz.size
    clear hout hvo
    by_cases hlt : k < vs.length
    · obtain ⟨ad, rfl, _, hcc⟩ := (HRD.out.below bwr) (by omega)
      obtain ⟨hc0, hc1, hc2, hc3, hc4, hc5⟩ := hcc k hlt
      obtain ⟨ok1, f1⟩ := (HOK.out.below bwr) _ (List.getElem_mem hlt)
      have hte := endsL_take hlt
      have hmv := List.getElem_mem hlt
      have htk := List.take_succ_eq_append_getElem hlt
      obtain ⟨x1, hx1⟩ : ∃ x1, vs[k] = x1 := ⟨_, rfl⟩
      rw [hx1] at hc0 hc1 hc2 hc3 hc4 hc5 ok1 f1 hte hmv htk
      have HTE := Lib.hid hte
      have HMV := Lib.hid hmv
      have HTK := Lib.hid htk
      clear hcc hx1 hte hmv htk
      go_upto_region 5 with fail
      clear hc0 hc1 hc2 hc3 hc4 hc5
      have a1 := (ia_alloc ok1).1
      have bb := (ia_alloc ok1).2
      clear ok1 bwr
      generalize (wr.alloc (.cells #[.bool x1.lo.b, .slice x1.lo.A x1.lo.xs.length x1.lo.c, .slice x1.lo.D x1.lo.ys.length x1.lo.d, .bool x1.hi.b, .slice x1.hi.A x1.hi.xs.length x1.hi.c, .slice x1.hi.D x1.hi.ys.length x1.hi.d] 41)) = wx at a1 bb ⊢
      replace fr := fr.below bb
      replace ni := ni.below bb
      replace bz := below_on bz bb bz.size
      clear bb
      generalize wr.heap.size = g6 at a1 hszr ⊢
      by_cases hv : x1.v
      · have HV := Lib.hid hv
        clear hv
        have ci0 := a1.c0
        have ci1 := a1.c1
        have ci2 := a1.c2
        have ci3 := a1.c3
        have ci4 := a1.c4
        have ci5 := a1.c5
        go_wp2_with fail
        clear ci0 ci1 ci2 ci3 ci4 ci5
        refine (ivalid_any _ x1 true a1.ok f1 (decide_eq_true HV.out)).mono ?_
        rintro e wn ⟨rfl, bb⟩
        replace fr := fr.below bb
        replace ni := ni.below bb
        try replace a1 := a1.below bb
        replace bz := below_on bz bb bz.size
        clear bb
        go_upto_region 7 with fail
        have hol : out.length ≤ 200 := by rw [HOUT.out, endsL_len, List.length_take]; omega
        have ci0 := a1.c0
        have ci1 := a1.c1
        have ci2 := a1.c2
        have ci3 := a1.c3
        have ci4 := a1.c4
        have ci5 := a1.c5
        go_wp2_with (at_builtin; refine wpList_append_frac _ rfl _ _ rfl rfl (A := A2) (c := c2) (n := out.length) (xs := out) rfl rfl (fr.below ((Below.refl _ _).alloc (Nat.le_refl _) _)) (ni.below ((Below.refl _ _).alloc (Nat.le_refl _) _)) _ 2 2 [x1.lo, x1.hi] rfl rfl (rdf2 _ x1.lo x1.hi) (by simp) (by omega) (by simp; have := bz.size; omega) ?_; intro A4 c4 wz fr4 ni4 bz4 gr4 hat4)
        have blit := (Below.refl wn.heap.size wn).alloc (Nat.le_refl _) (.cells #[.bool x1.lo.b, .slice x1.lo.A x1.lo.xs.length x1.lo.c, .slice x1.lo.D x1.lo.ys.length x1.lo.d, .bool x1.hi.b, .slice x1.hi.A x1.hi.xs.length x1.hi.c, .slice x1.hi.D x1.hi.ys.length x1.hi.d] 25)
        go_roundw
        case rel =>
          refine ⟨k + 1, out ++ [x1.lo, x1.hi], A4, c4, by omega, by go_num, by simp, fr4, ni4, ?_, ?_, (bz.trans (blit.mono bz.size)).trans bz4⟩
          · rw [HTE.out, ← HOUT.out]
          · intro v hv
            rw [HTK.out] at hv
            rcases List.mem_append.1 hv with h | h
            · exact HVO.out v h
            · obtain rfl : v = x1 := by simpa using h
              exact HV.out
        case measure => simp [intOf]; omega
      · have HV : Hid (¬ x1.v) := hv
        have HE : Hid (hullS vs = errI 1) := Lib.hid (if_neg (fun e => hv (e.2 x1 HMV.out)))
        clear hv
        have ci0 := a1.c0
        have ci1 := a1.c1
        have ci2 := a1.c2
        have ci3 := a1.c3
        have ci4 := a1.c4
        have ci5 := a1.c5
        go_wp2_with fail
        clear ci0 ci1 ci2 ci3 ci4 ci5
        refine (ivalid_any _ x1 false a1.ok f1 (decide_eq_false HV.out)).mono ?_
        rintro e wn ⟨rfl, bb⟩
        replace fr := fr.below bb
        replace ni := ni.below bb
        try replace a1 := a1.below bb
        replace bz := below_on bz bb bz.size
        clear bb
        have br := HBR.out.below bz
        have bw2 := below_on bw bz bw.size
        clear bw
        have bw := bw2
        clear bw2 bz
        have r0 := br.cell 0
        have r1 := br.cell 1
        have r2 := br.cell 2
        have r3 := br.cell 3
        have r4 := br.cell 4
        have r5 := br.cell 5
        have rf0 := br.unf 0
        have rf1 := br.unf 1
        have rf2 := br.unf 2
        have rf3 := br.unf 3
        have rf4 := br.unf 4
        have rf5 := br.unf 5
        simp only [List.getElem?_toArray, List.getElem?_cons_succ, List.getElem?_cons_zero] at r0 r1 r2 r3 r4 r5
        go_wp2_with fail
        refine bodyPost_ret (v := .tuple #[(Ix.nil : Ix).val, .int .i64 1]) (by simp [results, Try.results32, go_sem, r0, r1, r2, r3, r4, r5]) rfl ?_
        rw [← HS.out, HE.out]
        exact ⟨Ix.nil, rfl, ⟨rfl, rfl, rfl⟩, ⟨rfl, rfl, rfl⟩, Ix.nil_ok _, set6_below bw (by omega)⟩
    · obtain rfl : k = vs.length := by omega
      have hout : out = endsL vs := by rw [HOUT.out, List.take_of_length_le (Nat.le_refl _)]
      have hvv : allV vs := fun v hv => HVO.out v (by rw [List.take_of_length_le (Nat.le_refl _)]; exact hv)
      have hol := endsL_len vs
      rw [← hout] at hol
      have br := HBR.out.below bz
      have hcp := fr.caps
      have hrf := fr.rd
      have hof : OkF wr out := by rw [hout]; exact endsL_ok (HOK.out.below (below_on bw bz bw.size))
      have hov : ∀ v ∈ out, v.v := by rw [hout]; exact endsL_v hvv
      have bw2 := below_on bw bz bw.size
      clear bw
      have bw := bw2
      clear bw2 bz
      cases out with
      | nil =>
        have HE : Hid (hullS vs = errI 1) := Lib.hid (if_neg (fun e => e.1 (List.eq_nil_of_length_eq_zero (by simp at hol; omega))))
        clear hol hout hcp hrf hof hov
        have r0 := br.cell 0
        have r1 := br.cell 1
        have r2 := br.cell 2
        have r3 := br.cell 3
        have r4 := br.cell 4
        have r5 := br.cell 5
        have rf0 := br.unf 0
        have rf1 := br.unf 1
        have rf2 := br.unf 2
        have rf3 := br.unf 3
        have rf4 := br.unf 4
        have rf5 := br.unf 5
        simp only [List.getElem?_toArray, List.getElem?_cons_succ, List.getElem?_cons_zero] at r0 r1 r2 r3 r4 r5
        go_wp2_with fail
        refine bodyPost_ret (v := .tuple #[(Ix.nil : Ix).val, .int .i64 1]) (by simp [results, Try.results32, go_sem, r0, r1, r2, r3, r4, r5]) rfl ?_
        rw [← HS.out, HE.out]
        exact ⟨Ix.nil, rfl, ⟨rfl, rfl, rfl⟩, ⟨rfl, rfl, rfl⟩, Ix.nil_ok _, set6_below bw (by omega)⟩
      | cons v0 out =>
        obtain ⟨ad, rfl, _⟩ := hrf (by simp)
        have HS2 : Hid ((okS (loQ out v0.q), okS (hiQ out v0.q), (0 : Int)) = S) := Lib.hid (by
          have hcd : vs ≠ [] ∧ allV vs := ⟨fun e => by rw [e] at hol; simp at hol, hvv⟩
          rw [← HS.out, hullS, if_pos hcd, ← hout, loQ_loL, hiQ_hiL]; rfl)
        have HOL2 : Hid (out.length + 1 = 2 * vs.length) := Lib.hid (by simpa using hol)
        have HCP := Lib.hid hcp
        have HRF := Lib.hid hrf
        have HOV := Lib.hid hov
        have hne : ((out.length : Int) + 1 == 0) = false := beq_eq_false_iff_ne.2 (by omega)
        clear hol hout hcp hrf hov
        go_wp2_with fail
        have hcl1 : out.length + 1 ≤ c2 := HCP.out.1
        refine (ispan_any wr ad (out.length + 1) c2 v0 out _ _ HRF.out hof HOV.out rfl (by have := HOL2.out; omega) hcl1 (by have := HOL2.out; omega) HCP.out.2 rfl rfl).mono ?_
        rintro e wn ⟨a, rfl, h1, h2, oka, bb⟩
        try replace br := br.below bb
        try replace a1 := a1.below bb
        replace bw := below_on bw bb bw.size
        clear bb
        have r0 := br.cell 0
        have r1 := br.cell 1
        have r2 := br.cell 2
        have r3 := br.cell 3
        have r4 := br.cell 4
        have r5 := br.cell 5
        have rf0 := br.unf 0
        have rf1 := br.unf 1
        have rf2 := br.unf 2
        have rf3 := br.unf 3
        have rf4 := br.unf 4
        have rf5 := br.unf 5
        simp only [List.getElem?_toArray, List.getElem?_cons_succ, List.getElem?_cons_zero] at r0 r1 r2 r3 r4 r5
        go_wp2_with fail
        refine bodyPost_ret (v := .tuple #[(a : Ix).val, .int .i64 0]) (by simp [results, Try.results32, go_sem, r0, r1, r2, r3, r4, r5]) rfl ?_
        rw [← HS2.out]
        exact ⟨a, rfl, h1, h2, ⟨set6_ok oka.lo br noInt_z, set6_ok oka.hi br noInt_z⟩, set6_below bw (by omega)⟩
end Go.Proofs.Ytlcolmifmhdboaa
namespace Go.Proofs.Ytlcolmifmhdboaa
open Go.RowKit

set_option maxRecDepth 100000 in
theorem set3at_ok {w : World} {x : Fx} {G : Nat} {arr : Array Value} {i j k : Nat} {v0 v1 v2 : Value} (h : x.ok w) (bk : Blk w G arr) (hn : noInt arr) : x.ok (((w.setCell ⟨G, i, none⟩ v0).setCell ⟨G, j, none⟩ v1).setCell ⟨G, k, none⟩ v2) := by
  constructor
  · rcases Nat.eq_zero_or_pos x.xs.length with h0 | h0
    · exact h.num.nil_any h0 _
    · have hs := h.num.sepB bk hn h0
      exact nt_far (nt_far (nt_far h.num hs _) hs _) hs _
  · rcases Nat.eq_zero_or_pos x.ys.length with h0 | h0
    · exact h.den.nil_any h0 _
    · have hs := h.den.sepB bk hn h0
      exact nt_far (nt_far (nt_far h.den hs _) hs _) hs _
set_option maxRecDepth 100000 in
theorem Ia.putLo {w : World} {G : Nat} {a : Ix} {z : Fx} (h : Ia w G a) (hz : z.ok w) : Ia (((w.setCell ⟨G, 0, none⟩ (.bool z.b)).setCell ⟨G, 1, none⟩ (.slice z.A z.xs.length z.c)).setCell ⟨G, 2, none⟩ (.slice z.D z.ys.length z.d)) G ⟨z, a.hi⟩ :=
  ⟨((h.bk.set 0 _).set 1 _).set 2 _, ⟨set3at_ok hz h.bk (noInt_i a), set3at_ok h.ok.hi h.bk (noInt_i a)⟩⟩
set_option maxRecDepth 100000 in
theorem Ia.putHi {w : World} {G : Nat} {a : Ix} {z : Fx} (h : Ia w G a) (hz : z.ok w) : Ia (((w.setCell ⟨G, 3, none⟩ (.bool z.b)).setCell ⟨G, 4, none⟩ (.slice z.A z.xs.length z.c)).setCell ⟨G, 5, none⟩ (.slice z.D z.ys.length z.d)) G ⟨a.lo, z⟩ :=
  ⟨((h.bk.set 3 _).set 4 _).set 5 _, ⟨set3at_ok h.ok.lo h.bk (noInt_i a), set3at_ok hz h.bk (noInt_i a)⟩⟩
set_option maxRecDepth 100000 in
theorem Ia.unf {w : World} {G : Nat} {a : Ix} (h : Ia w G a) (k : Nat) : w.frozen? ⟨G, k, none⟩ = false := h.bk.unf k
set_option maxRecDepth 100000 in
theorem set3h {w wc : World} {B G i j k : Nat} {a b c : Value} (h : Below B w wc) (hG : B ≤ G) : Below B w (((wc.setCell ⟨G, i, none⟩ a).setCell ⟨G, j, none⟩ b).setCell ⟨G, k, none⟩ c) :=
  ((h.setCell (p := ⟨G, i, none⟩) hG _).setCell (p := ⟨G, j, none⟩) hG _).setCell (p := ⟨G, k, none⟩) hG _
set_option maxRecDepth 100000 in
theorem Fa.farB {w : World} {G H i j k : Nat} {x : Fx} {arr : Array Value} (h : Fa w G x) (bk : Blk w H arr) (hn : noInt arr) (hne : H ≠ G) {a b c : Value} : Fa (((w.setCell ⟨H, i, none⟩ a).setCell ⟨H, j, none⟩ b).setCell ⟨H, k, none⟩ c) G x := by
  refine ⟨?_, set3at_ok h.ok bk hn⟩
  have hg : (((w.setCell ⟨H, i, none⟩ a).setCell ⟨H, j, none⟩ b).setCell ⟨H, k, none⟩ c).heap[G]? = w.heap[G]? := by
    rw [heap_setCell_other _ _ _ _ (by exact fun e => hne e.symm), heap_setCell_other _ _ _ _ (by exact fun e => hne e.symm), heap_setCell_other _ _ _ _ (by exact fun e => hne e.symm)]
  have hc : ∀ o, (((w.setCell ⟨H, i, none⟩ a).setCell ⟨H, j, none⟩ b).setCell ⟨H, k, none⟩ c).cell? ⟨G, o, none⟩ = w.cell? ⟨G, o, none⟩ := fun o => by unfold World.cell?; rw [hg]
  have hf : ∀ o, (((w.setCell ⟨H, i, none⟩ a).setCell ⟨H, j, none⟩ b).setCell ⟨H, k, none⟩ c).frozen? ⟨G, o, none⟩ = w.frozen? ⟨G, o, none⟩ := fun o => by unfold World.frozen?; rw [hg]
  have b := h.bk
  exact ⟨(hc 0).trans b.c0, (hc 1).trans b.c1, (hc 2).trans b.c2, (hf 0).trans b.f0, (hf 1).trans b.f1, (hf 2).trans b.f2, by simp [World.setCell]; exact b.lt, by rw [hg]; exact b.blk⟩
set_option maxRecDepth 100000 in
theorem loL_snoc (l : List Rat) (q p : Rat) : loL (l ++ [p]) q = if p < loL l q then p else loL l q := by
  induction l generalizing q with
  | nil =>
    show (if p ≤ q then p else q) = if p < q then p else q
    by_cases h : p < q
    · rw [if_pos h, if_pos (Rat.le_of_lt h)]
    · rw [if_neg h]
      by_cases h2 : p ≤ q
      · rw [if_pos h2]; exact Rat.le_antisymm h2 (Rat.not_lt.1 h)
      · rw [if_neg h2]
  | cons x l ih => rw [List.cons_append, loL, ih, loL]
set_option maxRecDepth 100000 in
theorem hiL_snoc (l : List Rat) (q p : Rat) : hiL (l ++ [p]) q = if hiL l q < p then p else hiL l q := by
  induction l generalizing q with
  | nil =>
    show (if q ≤ p then p else q) = if q < p then p else q
    by_cases h : q < p
    · rw [if_pos h, if_pos (Rat.le_of_lt h)]
    · rw [if_neg h]
      by_cases h2 : q ≤ p
      · rw [if_pos h2]; exact (Rat.le_antisymm h2 (Rat.not_lt.1 h)).symm
      · rw [if_neg h2]
  | cons x l ih => rw [List.cons_append, hiL, ih, hiL]
set_option maxRecDepth 100000 in
theorem loP_take {ps : List Rat} {k : Nat} {p : Rat} (hk : 0 < k) (hp : ps[k]? = some p) : loP (ps.take (k + 1)) = if p < loP (ps.take k) then p else loP (ps.take k) := by
  rw [← take_next rfl hp]
  cases h : ps.take k with
  | nil =>
    have := congrArg List.length h
    have hl := (List.getElem?_eq_some_iff.1 hp).1
    rw [List.length_take, List.length_nil] at this
    omega
  | cons x l => exact loL_snoc l x p
set_option maxRecDepth 100000 in
theorem hiP_take {ps : List Rat} {k : Nat} {p : Rat} (hk : 0 < k) (hp : ps[k]? = some p) : hiP (ps.take (k + 1)) = if hiP (ps.take k) < p then p else hiP (ps.take k) := by
  rw [← take_next rfl hp]
  cases h : ps.take k with
  | nil =>
    have := congrArg List.length h
    have hl := (List.getElem?_eq_some_iff.1 hp).1
    rw [List.length_take, List.length_nil] at this
    omega
  | cons x l => exact hiL_snoc l x p
set_option maxRecDepth 100000 in
theorem loP_one {ps : List Rat} {p : Rat} (hp : ps[0]? = some p) : loP (ps.take 1) = p := by
  cases ps with
  | nil => cases hp
  | cons x l => simp at hp; rw [← hp]; rfl
set_option maxRecDepth 100000 in
theorem hiP_one {ps : List Rat} {p : Rat} (hp : ps[0]? = some p) : hiP (ps.take 1) = p := by
  cases ps with
  | nil => cases hp
  | cons x l => simp at hp; rw [← hp]; rfl
/-- a fraction in lowest terms, of that value -/
structure IsP (x : Fx) (q : Rat) : Prop where
  rp : Rp x q
  v : x.v
  f : x.few
set_option maxRecDepth 100000 in
theorem IsP.of {x : Fx} {p : Rat} (h : x.b = (okS p).1 ∧ x.xs = (okS p).2.1 ∧ x.ys = (okS p).2.2.1) (hb : ¬ bigQ p) : IsP x p :=
  ⟨Rp.of h, (Rp.of h).v (Sz.of_big hb), ⟨(Rp.of h).l1 (Sz.of_big hb), (Rp.of h).l2 (Sz.of_big hb)⟩⟩
set_option maxRecDepth 100000 in
theorem IsP.is {x : Fx} {p : Rat} (h : IsP x p) : x.is (okS p) := ⟨h.rp.b, h.rp.n, h.rp.d⟩
set_option maxRecDepth 100000 in
theorem Ia.far {w : World} {G H : Nat} {x : Ix} {y : Fx} (h : Ia w G x) (k : Fa w H y) (hne : H ≠ G) {a b c : Value} : Ia (((w.setCell ⟨H, 0, none⟩ a).setCell ⟨H, 1, none⟩ b).setCell ⟨H, 2, none⟩ c) G x :=
  ⟨((h.bk.far (p := ⟨H, 0, none⟩) (by exact hne) a).far (p := ⟨H, 1, none⟩) (by exact hne) b).far (p := ⟨H, 2, none⟩) (by exact hne) c, ⟨set3_ok h.ok.lo k.bk rfl rfl rfl, set3_ok h.ok.hi k.bk rfl rfl rfl⟩⟩
end Go.Proofs.Ytlcolmifmhdboaa
