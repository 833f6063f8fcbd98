/- The walk of drydockref03.Hull. -/
import Derived.Test.YtlcolmifmhdboaaIvQ
import Derived.Test.YtlcolmifmhdboaaIvS
namespace Go.Proofs.Ytlcolmifmhdboaa
open Go.RowKit

def losL (vs : List Ix) : List Rat := vs.map (fun a => a.lo.q)
def hisL (vs : List Ix) : List Rat := vs.map (fun a => a.hi.q)
set_option maxRecDepth 100000 in
theorem loL_ends (vs : List Ix) (h : allV vs) (q : Rat) : loL ((endsL vs).map Fx.q) q = loL (losL vs) q := by
  induction vs generalizing q with
  | nil => rfl
  | cons a vs ih =>
    have hv := (h a (by simp)).2.2
    rw [endsL, List.flatMap_cons, ← endsL]
    show loL ((endsL vs).map Fx.q) (if a.hi.q ≤ (if a.lo.q ≤ q then a.lo.q else q) then a.hi.q else (if a.lo.q ≤ q then a.lo.q else q)) = loL (losL vs) (if a.lo.q ≤ q then a.lo.q else q)
    rw [ih (fun v hv => h v (List.mem_cons_of_mem _ hv))]
    congr 1
    grind
set_option maxRecDepth 100000 in
theorem hiL_ends (vs : List Ix) (h : allV vs) (q : Rat) : hiL ((endsL vs).map Fx.q) q = hiL (hisL vs) q := by
  induction vs generalizing q with
  | nil => rfl
  | cons a vs ih =>
    have hv := (h a (by simp)).2.2
    rw [endsL, List.flatMap_cons, ← endsL]
    show hiL ((endsL vs).map Fx.q) (if (if q ≤ a.lo.q then a.lo.q else q) ≤ a.hi.q then a.hi.q else (if q ≤ a.lo.q then a.lo.q else q)) = hiL (hisL vs) (if q ≤ a.hi.q then a.hi.q else q)
    rw [ih (fun v hv => h v (List.mem_cons_of_mem _ hv))]
    congr 1
    grind
set_option maxRecDepth 100000 in
theorem loP_ends (vs : List Ix) (h : allV vs) : loP ((endsL vs).map Fx.q) = loP (losL vs) := by
  cases vs with
  | nil => rfl
  | cons a vs =>
    have hv := (h a (by simp)).2.2
    show loL ((endsL vs).map Fx.q) (if a.hi.q ≤ a.lo.q then a.hi.q else a.lo.q) = loL (losL vs) a.lo.q
    rw [loL_ends vs (fun v hv => h v (List.mem_cons_of_mem _ hv))]
    congr 1
    grind
set_option maxRecDepth 100000 in
theorem hiP_ends (vs : List Ix) (h : allV vs) : hiP ((endsL vs).map Fx.q) = hiP (hisL vs) := by
  cases vs with
  | nil => rfl
  | cons a vs =>
    have hv := (h a (by simp)).2.2
    show hiL ((endsL vs).map Fx.q) (if a.lo.q ≤ a.hi.q then a.hi.q else a.lo.q) = hiL (hisL vs) a.hi.q
    rw [hiL_ends vs (fun v hv => h v (List.mem_cons_of_mem _ hv))]
    congr 1
    grind
set_option maxRecDepth 100000 in
theorem El6.below {w w' : World} {ad : Addr} {j : Nat} {x : Ix} (h : ad.block < w.heap.size ∧ w.cell? (ad.add j) = some (.bool x.lo.b) ∧ w.cell? ⟨(ad.add j).block, (ad.add j).off + 1, none⟩ = some (.slice x.lo.A x.lo.xs.length x.lo.c) ∧ w.cell? ⟨(ad.add j).block, (ad.add j).off + 2, none⟩ = some (.slice x.lo.D x.lo.ys.length x.lo.d) ∧ w.cell? ⟨(ad.add j).block, (ad.add j).off + 3, none⟩ = some (.bool x.hi.b) ∧ w.cell? ⟨(ad.add j).block, (ad.add j).off + 4, none⟩ = some (.slice x.hi.A x.hi.xs.length x.hi.c) ∧ w.cell? ⟨(ad.add j).block, (ad.add j).off + 5, none⟩ = some (.slice x.hi.D x.hi.ys.length x.hi.d)) (hb : Below w.heap.size w w') :
    ad.block < w'.heap.size ∧ w'.cell? (ad.add j) = some (.bool x.lo.b) ∧ w'.cell? ⟨(ad.add j).block, (ad.add j).off + 1, none⟩ = some (.slice x.lo.A x.lo.xs.length x.lo.c) ∧ w'.cell? ⟨(ad.add j).block, (ad.add j).off + 2, none⟩ = some (.slice x.lo.D x.lo.ys.length x.lo.d) ∧ w'.cell? ⟨(ad.add j).block, (ad.add j).off + 3, none⟩ = some (.bool x.hi.b) ∧ w'.cell? ⟨(ad.add j).block, (ad.add j).off + 4, none⟩ = some (.slice x.hi.A x.hi.xs.length x.hi.c) ∧ w'.cell? ⟨(ad.add j).block, (ad.add j).off + 5, none⟩ = some (.slice x.hi.D x.hi.ys.length x.hi.d) := by
  obtain ⟨hl, h0, h1, h2, h3, h4, h5⟩ := h
  have e2 : (ad.add j).block = ad.block := block_of_add _ _
  have hx : ∀ o, w'.cell? ⟨(ad.add j).block, o, none⟩ = w.cell? ⟨(ad.add j).block, o, none⟩ := fun o => hb.cell (p := ⟨(ad.add j).block, o, none⟩) (by show (ad.add j).block < _; rw [e2]; exact hl)
  exact ⟨Nat.lt_of_lt_of_le hl hb.size, (hb.cell (p := ad.add j) (by rw [e2]; exact hl)).trans h0, (hx _).trans h1, (hx _).trans h2, (hx _).trans h3, (hx _).trans h4, (hx _).trans h5⟩
set_option maxHeartbeats 8000000 in
set_option maxRecDepth 100000 in
theorem rihull_any (w : World) (A : Option Addr) (n c : Nat) (vs : List Ix) (S : IvS) (hrd : RdI w A vs) (hok : OkI w vs) (hn : n = vs.length) (hm : n ≤ 100) (hs : hullS vs = S) :
    Calls Try.prog 33 #[.slice A n c] w (IvlRes w S) := by
  have HRD := Lib.hid hrd
  have HOK := Lib.hid hok
  have HS := Lib.hid hs
  have HN := Lib.hid hn
  clear hs hrd hok hn
  rcases Nat.eq_zero_or_pos n with hn0 | hn0
  · subst hn0
    have HE : Hid (hullS vs = errI 1) := Lib.hid (if_neg (fun e => e.1 (List.eq_nil_of_length_eq_zero HN.out.symm)))
    go_enter Try.func33, Try.ntmps33
    go_upto_region 1 with fail
    have br := (zr_alloc w).1
    have bw := (zr_alloc w).2
    generalize (w.alloc (.cells zcells 41)) = wm at br bw ⊢
    have r0 := br.cell 0
    have r1 := br.cell 1
    have r2 := br.cell 2
    have r3 := br.cell 3
    have r4 := br.cell 4
    have r5 := br.cell 5
    have rf0 := br.unf 0
    have rf1 := br.unf 1
    have rf2 := br.unf 2
    have rf3 := br.unf 3
    have rf4 := br.unf 4
    have rf5 := br.unf 5
    simp only [List.getElem?_toArray, List.getElem?_cons_succ, List.getElem?_cons_zero] at r0 r1 r2 r3 r4 r5
    go_wp2_with fail
    refine bodyPost_ret (v := .tuple #[(Ix.nil : Ix).val, .int .i64 1]) (by simp [results, Try.results33, go_sem, r0, r1, r2, r3, r4, r5]) rfl ?_
    rw [← HS.out, HE.out]
    exact ⟨Ix.nil, rfl, ⟨rfl, rfl, rfl⟩, ⟨rfl, rfl, rfl⟩, Ix.nil_ok _, set6_below bw (by omega)⟩
  have hnz : ((n : Int) == 0) = false := beq_eq_false_iff_ne.2 (by omega)
  go_enter Try.func33, Try.ntmps33
  go_upto_region 1 with fail
  have br := (zr_alloc w).1
  have bw := (zr_alloc w).2
  generalize (w.alloc (.cells zcells 41)) = wm at br bw ⊢
  go_wp2_with fail
  go_loopw [4] (fun i wr => ∃ (k : Nat), k ≤ n ∧ i = .int .i64 k ∧ (∀ v ∈ vs.take k, v.v) ∧ Blk wr w.heap.size zcells ∧ Below w.heap.size w wr) (fun i _ => n - (intOf i).toNat)
  case atStart => exact ⟨0, by omega, rfl, (fun v hv => nomatch hv), br, bw⟩
  case round =>
    clear br bw
    obtain ⟨k, hkl, rfl, hvo, br, bw⟩ := hrel
    have HVO := Lib.hid hvo
    clear hvo
    by_cases hlt : k < n
    · have hkx : k < vs.length := by rw [← HN.out]; exact hlt
      obtain ⟨ad, rfl, _, hcc⟩ := (HRD.out.below bw) (by omega)
      obtain ⟨hc0, hc1, hc2, hc3, hc4, hc5⟩ := hcc k hkx
      obtain ⟨ok1, f1⟩ := (HOK.out.below bw) _ (List.getElem_mem hkx)
      have hmv := List.getElem_mem hkx
      have htk := List.take_succ_eq_append_getElem hkx
      obtain ⟨x1, hx1⟩ : ∃ x1, vs[k] = x1 := ⟨_, rfl⟩
      rw [hx1] at hc0 hc1 hc2 hc3 hc4 hc5 ok1 f1 hmv htk
      have HMV := Lib.hid hmv
      have HTK := Lib.hid htk
      clear hcc hx1 hmv htk hkx
      by_cases hv : x1.v
      · have HV := Lib.hid hv
        clear hv
        go_wp2_with fail
        refine (rivalid_any _ x1 true ok1 f1 (decide_eq_true HV.out)).mono ?_
        rintro e wn ⟨rfl, bb⟩
        clear hc0 hc1 hc2 hc3 hc4 hc5
        try replace br := br.below bb
        replace bw := below_on bw bb bw.size
        clear bb
        go_wp2_with fail
        go_roundw
        case rel =>
          refine ⟨k + 1, by omega, by go_num, ?_, br, bw⟩
          intro v hv
          rw [HTK.out] at hv
          rcases List.mem_append.1 hv with h | h
          · exact HVO.out v h
          · obtain rfl : v = x1 := by simpa using h
            exact HV.out
        case measure => simp [intOf]; omega
      · have HV : Hid (¬ x1.v) := hv
        have HE : Hid (hullS vs = errI 1) := Lib.hid (if_neg (fun e => hv (e.2 x1 HMV.out)))
        clear hv
        go_wp2_with fail
        refine (rivalid_any _ x1 false ok1 f1 (decide_eq_false HV.out)).mono ?_
        rintro e wn ⟨rfl, bb⟩
        clear hc0 hc1 hc2 hc3 hc4 hc5
        try replace br := br.below bb
        replace bw := below_on bw bb bw.size
        clear bb
        have r0 := br.cell 0
        have r1 := br.cell 1
        have r2 := br.cell 2
        have r3 := br.cell 3
        have r4 := br.cell 4
        have r5 := br.cell 5
        have rf0 := br.unf 0
        have rf1 := br.unf 1
        have rf2 := br.unf 2
        have rf3 := br.unf 3
        have rf4 := br.unf 4
        have rf5 := br.unf 5
        simp only [List.getElem?_toArray, List.getElem?_cons_succ, List.getElem?_cons_zero] at r0 r1 r2 r3 r4 r5
        go_wp2_with fail
        refine bodyPost_ret (v := .tuple #[(Ix.nil : Ix).val, .int .i64 1]) (by simp [results, Try.results33, go_sem, r0, r1, r2, r3, r4, r5]) rfl ?_
        rw [← HS.out, HE.out]
        exact ⟨Ix.nil, rfl, ⟨rfl, rfl, rfl⟩, ⟨rfl, rfl, rfl⟩, Ix.nil_ok _, set6_below bw (by omega)⟩
    · have hav : allV vs := by
        have h := HVO.out
        rw [List.take_of_length_le (by have := HN.out; omega)] at h
        exact h
      have hne : vs ≠ [] := fun e => by have := HN.out; rw [e] at this; simp at this; omega
      have HAV := Lib.hid hav
      have HS2 : Hid ((okS (loP (losL vs)), okS (hiP (hisL vs)), (0 : Int)) = S) := Lib.hid (by
        have hcd : vs ≠ [] ∧ allV vs := ⟨hne, hav⟩
        rw [← HS.out, hullS, if_pos hcd, loP_ends vs hav, hiP_ends vs hav])
      clear hav hne HVO HS
      have hk0 : 0 < vs.length := by rw [← HN.out]; exact hn0
      obtain ⟨ad, rfl, hadl, hcc⟩ := (HRD.out.below bw) hk0
      obtain ⟨hc0, hc1, hc2, hc3, hc4, hc5⟩ := hcc 0 hk0
      rw [Nat.zero_mul, show ad.add 0 = ad from if_pos rfl] at hc0 hc1 hc2 hc3 hc4 hc5
      obtain ⟨ok1, f1⟩ := (HOK.out.below bw) _ (List.getElem_mem hk0)
      have V1 := Lib.hid (HAV.out _ (List.getElem_mem hk0))
      have h1l : losL vs = vs[0].lo.q :: losL (vs.drop 1) := by cases vs with
        | nil => simp at hk0
        | cons a vs => rfl
      have h1h : hisL vs = vs[0].hi.q :: hisL (vs.drop 1) := by cases vs with
        | nil => simp at hk0
        | cons a vs => rfl
      obtain ⟨x1, hx1⟩ : ∃ x1, vs[0] = x1 := ⟨_, rfl⟩
      rw [hx1] at hc0 hc1 hc2 hc3 hc4 hc5 ok1 f1 V1 h1l h1h
      have H1L : Hid (loP ((losL vs).take 1) = x1.lo.q) := Lib.hid (by rw [h1l]; rfl)
      have H1H : Hid (hiP ((hisL vs).take 1) = x1.hi.q) := Lib.hid (by rw [h1h]; rfl)
      clear hcc hx1 h1l h1h hk0 hadl
      go_upto_region 9 with fail
      clear hc0 hc1 hc2 hc3 hc4 hc5
      have a5 := (ia_alloc ok1).1
      have bb := (ia_alloc ok1).2
      have g5l := br.lt
      generalize (wr.alloc (.cells #[.bool x1.lo.b, .slice x1.lo.A x1.lo.xs.length x1.lo.c, .slice x1.lo.D x1.lo.ys.length x1.lo.d, .bool x1.hi.b, .slice x1.hi.A x1.hi.xs.length x1.hi.c, .slice x1.hi.D x1.hi.ys.length x1.hi.d] 41)) = wm at a5 bb ⊢
      clear ok1
      try replace br := br.below bb
      try replace a5 := a5.below bb
      replace bw := below_on bw bb bw.size
      clear bb
      generalize wr.heap.size = g5 at a5 g5l ⊢
      have hkn : k = n := by omega
      clear hkl
      go_wp2_with fail
      go_loopw [6] (fun i wr => ∃ (k : Nat) (cur : Ix), 1 ≤ k ∧ k ≤ n ∧ i = .int .i64 k ∧ Ia wr g5 cur ∧ cur.lo.v ∧ cur.hi.v ∧ cur.few ∧ cur.lo.q = loP ((losL vs).take k) ∧ cur.hi.q = hiP ((hisL vs).take k) ∧ Blk wr w.heap.size zcells ∧ Below w.heap.size w wr) (fun i _ => n - (intOf i).toNat)
      case atStart => exact ⟨1, x1, by omega, by omega, rfl, a5, V1.out.1, V1.out.2.1, f1, H1L.out.symm, H1H.out.symm, br, bw⟩
      case round =>
        clear a5 br bw hlt hkn f1 V1 H1L H1H
        obtain ⟨k, cur, hk1, hkl, rfl, a5, hvl, hvh, fc, hql, hqh, br, bw⟩ := hrel
        have VL := Lib.hid hvl
        have VH := Lib.hid hvh
        have QL := Lib.hid hql
        have QH := Lib.hid hqh
        clear hvl hvh hql hqh
        by_cases hlt : k < n
        · have hkx : k < vs.length := by rw [← HN.out]; exact hlt
          obtain ⟨_, e, hadl, hcc⟩ := HRD.out (by omega)
          injection e with e
          subst e
          have el := And.intro hadl (hcc k hkx)
          obtain ⟨ok1, f1⟩ := HOK.out _ (List.getElem_mem hkx)
          have V1 := Lib.hid (HAV.out _ (List.getElem_mem hkx))
          have hpl : (losL vs)[k]? = some vs[k].lo.q := by simp [losL, hkx]
          have hph : (hisL vs)[k]? = some vs[k].hi.q := by simp [hisL, hkx]
          obtain ⟨x1, hx1⟩ : ∃ x1, vs[k] = x1 := ⟨_, rfl⟩
          rw [hx1] at el ok1 f1 V1 hpl hph
          have hlo := loP_take hk1 hpl
          have hhi := hiP_take hk1 hph
          rw [← QL.out] at hlo
          rw [← QH.out] at hhi
          have HLO := Lib.hid hlo
          have HHI := Lib.hid hhi
          have V1L : Hid x1.lo.v := Lib.hid V1.out.1
          have V1H : Hid x1.hi.v := Lib.hid V1.out.2.1
          have EL0 := Lib.hid el
          have OK0 := Lib.hid ok1
          replace el := El6.below el bw
          replace ok1 := ok1.below bw
          clear hcc hx1 hkx hpl hph hlo hhi hadl
          by_cases h1 : x1.lo.q < cur.lo.q
          · by_cases h2 : cur.hi.q < x1.hi.q
            · skip
              have HLO2 : Hid (loP ((losL vs).take (k + 1)) = _) := Lib.hid (HLO.out.trans (if_pos h1))
              have HHI2 : Hid (hiP ((hisL vs).take (k + 1)) = _) := Lib.hid (HHI.out.trans (if_pos h2))
              have HL1 : Hid (decide (x1.lo.q < cur.lo.q) = true) := Lib.hid (decide_eq_true h1)
              have HL2 : Hid (decide (cur.hi.q < x1.hi.q) = true) := Lib.hid (decide_eq_true h2)
              clear h1 h2
              have hadl := el.1
              go_upto_region 12 with fail
              go_region_held3 (fun w' => w'.cell? ⟨g5, 0, none⟩ = some (.bool cur.lo.b) ∧ w'.cell? ⟨g5, 1, none⟩ = some (.slice cur.lo.A cur.lo.xs.length cur.lo.c) ∧ w'.cell? ⟨g5, 2, none⟩ = some (.slice cur.lo.D cur.lo.ys.length cur.lo.d) ∧ w'.cell? (ad.add (k * 6)) = some (.bool x1.lo.b) ∧ w'.cell? ⟨(ad.add (k * 6)).block, (ad.add (k * 6)).off + 1, none⟩ = some (.slice x1.lo.A x1.lo.xs.length x1.lo.c) ∧ w'.cell? ⟨(ad.add (k * 6)).block, (ad.add (k * 6)).off + 2, none⟩ = some (.slice x1.lo.D x1.lo.ys.length x1.lo.d))
                (first | with_reducible exact ⟨(a5.below (by with_reducible first | exact Below.refl _ _ | exact (Below.refl _ _).drew)).c0, (a5.below (by with_reducible first | exact Below.refl _ _ | exact (Below.refl _ _).drew)).c1, (a5.below (by with_reducible first | exact Below.refl _ _ | exact (Below.refl _ _).drew)).c2, (El6.below el (by with_reducible first | exact Below.refl _ _ | exact (Below.refl _ _).drew)).2.1, (El6.below el (by with_reducible first | exact Below.refl _ _ | exact (Below.refl _ _).drew)).2.2.1, (El6.below el (by with_reducible first | exact Below.refl _ _ | exact (Below.refl _ _).drew)).2.2.2.1⟩ | go_keep)
                (first
                    | (go_at_call 53
                       with_reducible refine (rless_any _ x1.lo cur.lo true (ok1.lo.below (by with_reducible first | exact Below.refl _ _ | exact (Below.refl _ _).drew)) (a5.ok.lo.below (by with_reducible first | exact Below.refl _ _ | exact (Below.refl _ _).drew)) V1L.out VL.out f1.lo fc.lo HL1.out).mono ?_
                       rintro e wq ⟨rfl, bb⟩
                       repeat replace bb := below_undrew bb
                       replace a5 := a5.below bb
                       replace el := El6.below el bb
                       replace ok1 := ok1.below bb
                       replace br := br.below bb
                       replace bw := below_on bw bb bw.size
                       clear bb))
              all_goals (try go_upto_region 13 with fail)
              have ci0 := a5.c0
              have ci1 := a5.c1
              have ci2 := a5.c2
              have ci3 := a5.c3
              have ci4 := a5.c4
              have ci5 := a5.c5
              have af0 := a5.unf 0
              have af1 := a5.unf 1
              have af2 := a5.unf 2
              have af3 := a5.unf 3
              have af4 := a5.unf 4
              have af5 := a5.unf 5
              obtain ⟨_, hc0, hc1, hc2, hc3, hc4, hc5⟩ := el
              go_upto_region 14 with fail
              clear ci0 ci1 ci2 ci3 ci4 ci5
              clear af0 af1 af2 af3 af4 af5 hc0 hc1 hc2 hc3 hc4 hc5
              have b5 := a5.putLo ok1.lo
              clear ok1
              have b3 := ((br.far (p := ⟨g5, 0, none⟩) (by simp; omega) (.bool x1.lo.b)).far (p := ⟨g5, 1, none⟩) (by simp; omega) (.slice x1.lo.A x1.lo.xs.length x1.lo.c)).far (p := ⟨g5, 2, none⟩) (by simp; omega) (.slice x1.lo.D x1.lo.ys.length x1.lo.d)
              have bz := set3h (G := g5) (i := 0) (j := 1) (k := 2) (a := .bool x1.lo.b) (b := .slice x1.lo.A x1.lo.xs.length x1.lo.c) (c := .slice x1.lo.D x1.lo.ys.length x1.lo.d) bw (by omega)
              clear a5 br bw
              generalize ((World.setCell (World.setCell (World.setCell _ ⟨g5, 0, none⟩ (.bool x1.lo.b)) ⟨g5, 1, none⟩ (.slice x1.lo.A x1.lo.xs.length x1.lo.c)) ⟨g5, 2, none⟩ (.slice x1.lo.D x1.lo.ys.length x1.lo.d))) = wm at *
              have a5 := b5
              have br := b3
              have bw := bz
              clear b5 b3 bz
              have el := El6.below EL0.out bw
              have ok1 := OK0.out.below bw
              go_region_held3 (fun w' => w'.cell? ⟨g5, 3, none⟩ = some (.bool cur.hi.b) ∧ w'.cell? ⟨g5, 4, none⟩ = some (.slice cur.hi.A cur.hi.xs.length cur.hi.c) ∧ w'.cell? ⟨g5, 5, none⟩ = some (.slice cur.hi.D cur.hi.ys.length cur.hi.d) ∧ w'.cell? ⟨(ad.add (k * 6)).block, (ad.add (k * 6)).off + 3, none⟩ = some (.bool x1.hi.b) ∧ w'.cell? ⟨(ad.add (k * 6)).block, (ad.add (k * 6)).off + 4, none⟩ = some (.slice x1.hi.A x1.hi.xs.length x1.hi.c) ∧ w'.cell? ⟨(ad.add (k * 6)).block, (ad.add (k * 6)).off + 5, none⟩ = some (.slice x1.hi.D x1.hi.ys.length x1.hi.d))
                (first | with_reducible exact ⟨(a5.below (by with_reducible first | exact Below.refl _ _ | exact (Below.refl _ _).drew)).c3, (a5.below (by with_reducible first | exact Below.refl _ _ | exact (Below.refl _ _).drew)).c4, (a5.below (by with_reducible first | exact Below.refl _ _ | exact (Below.refl _ _).drew)).c5, (El6.below el (by with_reducible first | exact Below.refl _ _ | exact (Below.refl _ _).drew)).2.2.2.2.1, (El6.below el (by with_reducible first | exact Below.refl _ _ | exact (Below.refl _ _).drew)).2.2.2.2.2.1, (El6.below el (by with_reducible first | exact Below.refl _ _ | exact (Below.refl _ _).drew)).2.2.2.2.2.2⟩ | go_keep)
                (first
                    | (go_at_call 53
                       with_reducible refine (rless_any _ cur.hi x1.hi true (a5.ok.hi.below (by with_reducible first | exact Below.refl _ _ | exact (Below.refl _ _).drew)) (ok1.hi.below (by with_reducible first | exact Below.refl _ _ | exact (Below.refl _ _).drew)) VH.out V1H.out fc.hi f1.hi HL2.out).mono ?_
                       rintro e wq ⟨rfl, bb⟩
                       repeat replace bb := below_undrew bb
                       replace a5 := a5.below bb
                       replace el := El6.below el bb
                       replace ok1 := ok1.below bb
                       replace br := br.below bb
                       replace bw := below_on bw bb bw.size
                       clear bb))
              all_goals (try go_upto_region 15 with fail)
              have ci0 := a5.c0
              have ci1 := a5.c1
              have ci2 := a5.c2
              have ci3 := a5.c3
              have ci4 := a5.c4
              have ci5 := a5.c5
              have af0 := a5.unf 0
              have af1 := a5.unf 1
              have af2 := a5.unf 2
              have af3 := a5.unf 3
              have af4 := a5.unf 4
              have af5 := a5.unf 5
              obtain ⟨_, hc0, hc1, hc2, hc3, hc4, hc5⟩ := el
              go_upto_region 11 with fail
              clear ci0 ci1 ci2 ci3 ci4 ci5
              clear af0 af1 af2 af3 af4 af5 hc0 hc1 hc2 hc3 hc4 hc5
              have b5 := a5.putHi ok1.hi
              clear ok1
              have b3 := ((br.far (p := ⟨g5, 3, none⟩) (by simp; omega) (.bool x1.hi.b)).far (p := ⟨g5, 4, none⟩) (by simp; omega) (.slice x1.hi.A x1.hi.xs.length x1.hi.c)).far (p := ⟨g5, 5, none⟩) (by simp; omega) (.slice x1.hi.D x1.hi.ys.length x1.hi.d)
              have bz := set3h (G := g5) (i := 3) (j := 4) (k := 5) (a := .bool x1.hi.b) (b := .slice x1.hi.A x1.hi.xs.length x1.hi.c) (c := .slice x1.hi.D x1.hi.ys.length x1.hi.d) bw (by omega)
              clear a5 br bw
              generalize ((World.setCell (World.setCell (World.setCell _ ⟨g5, 3, none⟩ (.bool x1.hi.b)) ⟨g5, 4, none⟩ (.slice x1.hi.A x1.hi.xs.length x1.hi.c)) ⟨g5, 5, none⟩ (.slice x1.hi.D x1.hi.ys.length x1.hi.d))) = wm at *
              have a5 := b5
              have br := b3
              have bw := bz
              clear b5 b3 bz
              have el := El6.below EL0.out bw
              have ok1 := OK0.out.below bw
              go_wp2_with fail
              go_roundw
              case rel => exact ⟨k + 1, ⟨x1.lo, x1.hi⟩, by omega, by omega, by go_num, a5, V1L.out, V1H.out, ⟨f1.lo.l, f1.lo.m, f1.hi.l, f1.hi.m⟩, HLO2.out.symm, HHI2.out.symm, br, bw⟩
              case measure => simp [intOf]; omega
            · skip
              have HLO2 : Hid (loP ((losL vs).take (k + 1)) = _) := Lib.hid (HLO.out.trans (if_pos h1))
              have HHI2 : Hid (hiP ((hisL vs).take (k + 1)) = _) := Lib.hid (HHI.out.trans (if_neg h2))
              have HL1 : Hid (decide (x1.lo.q < cur.lo.q) = true) := Lib.hid (decide_eq_true h1)
              have HL2 : Hid (decide (cur.hi.q < x1.hi.q) = false) := Lib.hid (decide_eq_false h2)
              clear h1 h2
              have hadl := el.1
              go_upto_region 12 with fail
              go_region_held3 (fun w' => w'.cell? ⟨g5, 0, none⟩ = some (.bool cur.lo.b) ∧ w'.cell? ⟨g5, 1, none⟩ = some (.slice cur.lo.A cur.lo.xs.length cur.lo.c) ∧ w'.cell? ⟨g5, 2, none⟩ = some (.slice cur.lo.D cur.lo.ys.length cur.lo.d) ∧ w'.cell? (ad.add (k * 6)) = some (.bool x1.lo.b) ∧ w'.cell? ⟨(ad.add (k * 6)).block, (ad.add (k * 6)).off + 1, none⟩ = some (.slice x1.lo.A x1.lo.xs.length x1.lo.c) ∧ w'.cell? ⟨(ad.add (k * 6)).block, (ad.add (k * 6)).off + 2, none⟩ = some (.slice x1.lo.D x1.lo.ys.length x1.lo.d))
                (first | with_reducible exact ⟨(a5.below (by with_reducible first | exact Below.refl _ _ | exact (Below.refl _ _).drew)).c0, (a5.below (by with_reducible first | exact Below.refl _ _ | exact (Below.refl _ _).drew)).c1, (a5.below (by with_reducible first | exact Below.refl _ _ | exact (Below.refl _ _).drew)).c2, (El6.below el (by with_reducible first | exact Below.refl _ _ | exact (Below.refl _ _).drew)).2.1, (El6.below el (by with_reducible first | exact Below.refl _ _ | exact (Below.refl _ _).drew)).2.2.1, (El6.below el (by with_reducible first | exact Below.refl _ _ | exact (Below.refl _ _).drew)).2.2.2.1⟩ | go_keep)
                (first
                    | (go_at_call 53
                       with_reducible refine (rless_any _ x1.lo cur.lo true (ok1.lo.below (by with_reducible first | exact Below.refl _ _ | exact (Below.refl _ _).drew)) (a5.ok.lo.below (by with_reducible first | exact Below.refl _ _ | exact (Below.refl _ _).drew)) V1L.out VL.out f1.lo fc.lo HL1.out).mono ?_
                       rintro e wq ⟨rfl, bb⟩
                       repeat replace bb := below_undrew bb
                       replace a5 := a5.below bb
                       replace el := El6.below el bb
                       replace ok1 := ok1.below bb
                       replace br := br.below bb
                       replace bw := below_on bw bb bw.size
                       clear bb))
              all_goals (try go_upto_region 13 with fail)
              have ci0 := a5.c0
              have ci1 := a5.c1
              have ci2 := a5.c2
              have ci3 := a5.c3
              have ci4 := a5.c4
              have ci5 := a5.c5
              have af0 := a5.unf 0
              have af1 := a5.unf 1
              have af2 := a5.unf 2
              have af3 := a5.unf 3
              have af4 := a5.unf 4
              have af5 := a5.unf 5
              obtain ⟨_, hc0, hc1, hc2, hc3, hc4, hc5⟩ := el
              go_upto_region 14 with fail
              clear ci0 ci1 ci2 ci3 ci4 ci5
              clear af0 af1 af2 af3 af4 af5 hc0 hc1 hc2 hc3 hc4 hc5
              have b5 := a5.putLo ok1.lo
              clear ok1
              have b3 := ((br.far (p := ⟨g5, 0, none⟩) (by simp; omega) (.bool x1.lo.b)).far (p := ⟨g5, 1, none⟩) (by simp; omega) (.slice x1.lo.A x1.lo.xs.length x1.lo.c)).far (p := ⟨g5, 2, none⟩) (by simp; omega) (.slice x1.lo.D x1.lo.ys.length x1.lo.d)
              have bz := set3h (G := g5) (i := 0) (j := 1) (k := 2) (a := .bool x1.lo.b) (b := .slice x1.lo.A x1.lo.xs.length x1.lo.c) (c := .slice x1.lo.D x1.lo.ys.length x1.lo.d) bw (by omega)
              clear a5 br bw
              generalize ((World.setCell (World.setCell (World.setCell _ ⟨g5, 0, none⟩ (.bool x1.lo.b)) ⟨g5, 1, none⟩ (.slice x1.lo.A x1.lo.xs.length x1.lo.c)) ⟨g5, 2, none⟩ (.slice x1.lo.D x1.lo.ys.length x1.lo.d))) = wm at *
              have a5 := b5
              have br := b3
              have bw := bz
              clear b5 b3 bz
              have el := El6.below EL0.out bw
              have ok1 := OK0.out.below bw
              go_region_held3 (fun w' => w'.cell? ⟨g5, 3, none⟩ = some (.bool cur.hi.b) ∧ w'.cell? ⟨g5, 4, none⟩ = some (.slice cur.hi.A cur.hi.xs.length cur.hi.c) ∧ w'.cell? ⟨g5, 5, none⟩ = some (.slice cur.hi.D cur.hi.ys.length cur.hi.d) ∧ w'.cell? ⟨(ad.add (k * 6)).block, (ad.add (k * 6)).off + 3, none⟩ = some (.bool x1.hi.b) ∧ w'.cell? ⟨(ad.add (k * 6)).block, (ad.add (k * 6)).off + 4, none⟩ = some (.slice x1.hi.A x1.hi.xs.length x1.hi.c) ∧ w'.cell? ⟨(ad.add (k * 6)).block, (ad.add (k * 6)).off + 5, none⟩ = some (.slice x1.hi.D x1.hi.ys.length x1.hi.d))
                (first | with_reducible exact ⟨(a5.below (by with_reducible first | exact Below.refl _ _ | exact (Below.refl _ _).drew)).c3, (a5.below (by with_reducible first | exact Below.refl _ _ | exact (Below.refl _ _).drew)).c4, (a5.below (by with_reducible first | exact Below.refl _ _ | exact (Below.refl _ _).drew)).c5, (El6.below el (by with_reducible first | exact Below.refl _ _ | exact (Below.refl _ _).drew)).2.2.2.2.1, (El6.below el (by with_reducible first | exact Below.refl _ _ | exact (Below.refl _ _).drew)).2.2.2.2.2.1, (El6.below el (by with_reducible first | exact Below.refl _ _ | exact (Below.refl _ _).drew)).2.2.2.2.2.2⟩ | go_keep)
                (first
                    | (go_at_call 53
                       with_reducible refine (rless_any _ cur.hi x1.hi false (a5.ok.hi.below (by with_reducible first | exact Below.refl _ _ | exact (Below.refl _ _).drew)) (ok1.hi.below (by with_reducible first | exact Below.refl _ _ | exact (Below.refl _ _).drew)) VH.out V1H.out fc.hi f1.hi HL2.out).mono ?_
                       rintro e wq ⟨rfl, bb⟩
                       repeat replace bb := below_undrew bb
                       replace a5 := a5.below bb
                       replace el := El6.below el bb
                       replace ok1 := ok1.below bb
                       replace br := br.below bb
                       replace bw := below_on bw bb bw.size
                       clear bb))
              go_upto_region 11 with fail
              generalize wq = wm at *
              go_wp2_with fail
              go_roundw
              case rel => exact ⟨k + 1, ⟨x1.lo, cur.hi⟩, by omega, by omega, by go_num, a5, V1L.out, VH.out, ⟨f1.lo.l, f1.lo.m, fc.hi.l, fc.hi.m⟩, HLO2.out.symm, HHI2.out.symm, br, bw⟩
              case measure => simp [intOf]; omega
          · by_cases h2 : cur.hi.q < x1.hi.q
            · skip
              have HLO2 : Hid (loP ((losL vs).take (k + 1)) = _) := Lib.hid (HLO.out.trans (if_neg h1))
              have HHI2 : Hid (hiP ((hisL vs).take (k + 1)) = _) := Lib.hid (HHI.out.trans (if_pos h2))
              have HL1 : Hid (decide (x1.lo.q < cur.lo.q) = false) := Lib.hid (decide_eq_false h1)
              have HL2 : Hid (decide (cur.hi.q < x1.hi.q) = true) := Lib.hid (decide_eq_true h2)
              clear h1 h2
              have hadl := el.1
              go_upto_region 12 with fail
              go_region_held3 (fun w' => w'.cell? ⟨g5, 0, none⟩ = some (.bool cur.lo.b) ∧ w'.cell? ⟨g5, 1, none⟩ = some (.slice cur.lo.A cur.lo.xs.length cur.lo.c) ∧ w'.cell? ⟨g5, 2, none⟩ = some (.slice cur.lo.D cur.lo.ys.length cur.lo.d) ∧ w'.cell? (ad.add (k * 6)) = some (.bool x1.lo.b) ∧ w'.cell? ⟨(ad.add (k * 6)).block, (ad.add (k * 6)).off + 1, none⟩ = some (.slice x1.lo.A x1.lo.xs.length x1.lo.c) ∧ w'.cell? ⟨(ad.add (k * 6)).block, (ad.add (k * 6)).off + 2, none⟩ = some (.slice x1.lo.D x1.lo.ys.length x1.lo.d))
                (first | with_reducible exact ⟨(a5.below (by with_reducible first | exact Below.refl _ _ | exact (Below.refl _ _).drew)).c0, (a5.below (by with_reducible first | exact Below.refl _ _ | exact (Below.refl _ _).drew)).c1, (a5.below (by with_reducible first | exact Below.refl _ _ | exact (Below.refl _ _).drew)).c2, (El6.below el (by with_reducible first | exact Below.refl _ _ | exact (Below.refl _ _).drew)).2.1, (El6.below el (by with_reducible first | exact Below.refl _ _ | exact (Below.refl _ _).drew)).2.2.1, (El6.below el (by with_reducible first | exact Below.refl _ _ | exact (Below.refl _ _).drew)).2.2.2.1⟩ | go_keep)
                (first
                    | (go_at_call 53
                       with_reducible refine (rless_any _ x1.lo cur.lo false (ok1.lo.below (by with_reducible first | exact Below.refl _ _ | exact (Below.refl _ _).drew)) (a5.ok.lo.below (by with_reducible first | exact Below.refl _ _ | exact (Below.refl _ _).drew)) V1L.out VL.out f1.lo fc.lo HL1.out).mono ?_
                       rintro e wq ⟨rfl, bb⟩
                       repeat replace bb := below_undrew bb
                       replace a5 := a5.below bb
                       replace el := El6.below el bb
                       replace ok1 := ok1.below bb
                       replace br := br.below bb
                       replace bw := below_on bw bb bw.size
                       clear bb))
              go_upto_region 14 with fail
              generalize wq = wm at *
              go_region_held3 (fun w' => w'.cell? ⟨g5, 3, none⟩ = some (.bool cur.hi.b) ∧ w'.cell? ⟨g5, 4, none⟩ = some (.slice cur.hi.A cur.hi.xs.length cur.hi.c) ∧ w'.cell? ⟨g5, 5, none⟩ = some (.slice cur.hi.D cur.hi.ys.length cur.hi.d) ∧ w'.cell? ⟨(ad.add (k * 6)).block, (ad.add (k * 6)).off + 3, none⟩ = some (.bool x1.hi.b) ∧ w'.cell? ⟨(ad.add (k * 6)).block, (ad.add (k * 6)).off + 4, none⟩ = some (.slice x1.hi.A x1.hi.xs.length x1.hi.c) ∧ w'.cell? ⟨(ad.add (k * 6)).block, (ad.add (k * 6)).off + 5, none⟩ = some (.slice x1.hi.D x1.hi.ys.length x1.hi.d))
                (first | with_reducible exact ⟨(a5.below (by with_reducible first | exact Below.refl _ _ | exact (Below.refl _ _).drew)).c3, (a5.below (by with_reducible first | exact Below.refl _ _ | exact (Below.refl _ _).drew)).c4, (a5.below (by with_reducible first | exact Below.refl _ _ | exact (Below.refl _ _).drew)).c5, (El6.below el (by with_reducible first | exact Below.refl _ _ | exact (Below.refl _ _).drew)).2.2.2.2.1, (El6.below el (by with_reducible first | exact Below.refl _ _ | exact (Below.refl _ _).drew)).2.2.2.2.2.1, (El6.below el (by with_reducible first | exact Below.refl _ _ | exact (Below.refl _ _).drew)).2.2.2.2.2.2⟩ | go_keep)
                (first
                    | (go_at_call 53
                       with_reducible refine (rless_any _ cur.hi x1.hi true (a5.ok.hi.below (by with_reducible first | exact Below.refl _ _ | exact (Below.refl _ _).drew)) (ok1.hi.below (by with_reducible first | exact Below.refl _ _ | exact (Below.refl _ _).drew)) VH.out V1H.out fc.hi f1.hi HL2.out).mono ?_
                       rintro e wq ⟨rfl, bb⟩
                       repeat replace bb := below_undrew bb
                       replace a5 := a5.below bb
                       replace el := El6.below el bb
                       replace ok1 := ok1.below bb
                       replace br := br.below bb
                       replace bw := below_on bw bb bw.size
                       clear bb))
              all_goals (try go_upto_region 15 with fail)
              have ci0 := a5.c0
              have ci1 := a5.c1
              have ci2 := a5.c2
              have ci3 := a5.c3
              have ci4 := a5.c4
              have ci5 := a5.c5
              have af0 := a5.unf 0
              have af1 := a5.unf 1
              have af2 := a5.unf 2
              have af3 := a5.unf 3
              have af4 := a5.unf 4
              have af5 := a5.unf 5
              obtain ⟨_, hc0, hc1, hc2, hc3, hc4, hc5⟩ := el
              go_upto_region 11 with fail
              clear ci0 ci1 ci2 ci3 ci4 ci5
              clear af0 af1 af2 af3 af4 af5 hc0 hc1 hc2 hc3 hc4 hc5
              have b5 := a5.putHi ok1.hi
              clear ok1
              have b3 := ((br.far (p := ⟨g5, 3, none⟩) (by simp; omega) (.bool x1.hi.b)).far (p := ⟨g5, 4, none⟩) (by simp; omega) (.slice x1.hi.A x1.hi.xs.length x1.hi.c)).far (p := ⟨g5, 5, none⟩) (by simp; omega) (.slice x1.hi.D x1.hi.ys.length x1.hi.d)
              have bz := set3h (G := g5) (i := 3) (j := 4) (k := 5) (a := .bool x1.hi.b) (b := .slice x1.hi.A x1.hi.xs.length x1.hi.c) (c := .slice x1.hi.D x1.hi.ys.length x1.hi.d) bw (by omega)
              clear a5 br bw
              generalize ((World.setCell (World.setCell (World.setCell _ ⟨g5, 3, none⟩ (.bool x1.hi.b)) ⟨g5, 4, none⟩ (.slice x1.hi.A x1.hi.xs.length x1.hi.c)) ⟨g5, 5, none⟩ (.slice x1.hi.D x1.hi.ys.length x1.hi.d))) = wm at *
              have a5 := b5
              have br := b3
              have bw := bz
              clear b5 b3 bz
              have el := El6.below EL0.out bw
              have ok1 := OK0.out.below bw
              go_wp2_with fail
              go_roundw
              case rel => exact ⟨k + 1, ⟨cur.lo, x1.hi⟩, by omega, by omega, by go_num, a5, VL.out, V1H.out, ⟨fc.lo.l, fc.lo.m, f1.hi.l, f1.hi.m⟩, HLO2.out.symm, HHI2.out.symm, br, bw⟩
              case measure => simp [intOf]; omega
            · skip
              have HLO2 : Hid (loP ((losL vs).take (k + 1)) = _) := Lib.hid (HLO.out.trans (if_neg h1))
              have HHI2 : Hid (hiP ((hisL vs).take (k + 1)) = _) := Lib.hid (HHI.out.trans (if_neg h2))
              have HL1 : Hid (decide (x1.lo.q < cur.lo.q) = false) := Lib.hid (decide_eq_false h1)
              have HL2 : Hid (decide (cur.hi.q < x1.hi.q) = false) := Lib.hid (decide_eq_false h2)
              clear h1 h2
              have hadl := el.1
              go_upto_region 12 with fail
              go_region_held3 (fun w' => w'.cell? ⟨g5, 0, none⟩ = some (.bool cur.lo.b) ∧ w'.cell? ⟨g5, 1, none⟩ = some (.slice cur.lo.A cur.lo.xs.length cur.lo.c) ∧ w'.cell? ⟨g5, 2, none⟩ = some (.slice cur.lo.D cur.lo.ys.length cur.lo.d) ∧ w'.cell? (ad.add (k * 6)) = some (.bool x1.lo.b) ∧ w'.cell? ⟨(ad.add (k * 6)).block, (ad.add (k * 6)).off + 1, none⟩ = some (.slice x1.lo.A x1.lo.xs.length x1.lo.c) ∧ w'.cell? ⟨(ad.add (k * 6)).block, (ad.add (k * 6)).off + 2, none⟩ = some (.slice x1.lo.D x1.lo.ys.length x1.lo.d))
                (first | with_reducible exact ⟨(a5.below (by with_reducible first | exact Below.refl _ _ | exact (Below.refl _ _).drew)).c0, (a5.below (by with_reducible first | exact Below.refl _ _ | exact (Below.refl _ _).drew)).c1, (a5.below (by with_reducible first | exact Below.refl _ _ | exact (Below.refl _ _).drew)).c2, (El6.below el (by with_reducible first | exact Below.refl _ _ | exact (Below.refl _ _).drew)).2.1, (El6.below el (by with_reducible first | exact Below.refl _ _ | exact (Below.refl _ _).drew)).2.2.1, (El6.below el (by with_reducible first | exact Below.refl _ _ | exact (Below.refl _ _).drew)).2.2.2.1⟩ | go_keep)
                (first
                    | (go_at_call 53
                       with_reducible refine (rless_any _ x1.lo cur.lo false (ok1.lo.below (by with_reducible first | exact Below.refl _ _ | exact (Below.refl _ _).drew)) (a5.ok.lo.below (by with_reducible first | exact Below.refl _ _ | exact (Below.refl _ _).drew)) V1L.out VL.out f1.lo fc.lo HL1.out).mono ?_
                       rintro e wq ⟨rfl, bb⟩
                       repeat replace bb := below_undrew bb
                       replace a5 := a5.below bb
                       replace el := El6.below el bb
                       replace ok1 := ok1.below bb
                       replace br := br.below bb
                       replace bw := below_on bw bb bw.size
                       clear bb))
              go_upto_region 14 with fail
              generalize wq = wm at *
              go_region_held3 (fun w' => w'.cell? ⟨g5, 3, none⟩ = some (.bool cur.hi.b) ∧ w'.cell? ⟨g5, 4, none⟩ = some (.slice cur.hi.A cur.hi.xs.length cur.hi.c) ∧ w'.cell? ⟨g5, 5, none⟩ = some (.slice cur.hi.D cur.hi.ys.length cur.hi.d) ∧ w'.cell? ⟨(ad.add (k * 6)).block, (ad.add (k * 6)).off + 3, none⟩ = some (.bool x1.hi.b) ∧ w'.cell? ⟨(ad.add (k * 6)).block, (ad.add (k * 6)).off + 4, none⟩ = some (.slice x1.hi.A x1.hi.xs.length x1.hi.c) ∧ w'.cell? ⟨(ad.add (k * 6)).block, (ad.add (k * 6)).off + 5, none⟩ = some (.slice x1.hi.D x1.hi.ys.length x1.hi.d))
                (first | with_reducible exact ⟨(a5.below (by with_reducible first | exact Below.refl _ _ | exact (Below.refl _ _).drew)).c3, (a5.below (by with_reducible first | exact Below.refl _ _ | exact (Below.refl _ _).drew)).c4, (a5.below (by with_reducible first | exact Below.refl _ _ | exact (Below.refl _ _).drew)).c5, (El6.below el (by with_reducible first | exact Below.refl _ _ | exact (Below.refl _ _).drew)).2.2.2.2.1, (El6.below el (by with_reducible first | exact Below.refl _ _ | exact (Below.refl _ _).drew)).2.2.2.2.2.1, (El6.below el (by with_reducible first | exact Below.refl _ _ | exact (Below.refl _ _).drew)).2.2.2.2.2.2⟩ | go_keep)
                (first
                    | (go_at_call 53
                       with_reducible refine (rless_any _ cur.hi x1.hi false (a5.ok.hi.below (by with_reducible first | exact Below.refl _ _ | exact (Below.refl _ _).drew)) (ok1.hi.below (by with_reducible first | exact Below.refl _ _ | exact (Below.refl _ _).drew)) VH.out V1H.out fc.hi f1.hi HL2.out).mono ?_
                       rintro e wq ⟨rfl, bb⟩
                       repeat replace bb := below_undrew bb
                       replace a5 := a5.below bb
                       replace el := El6.below el bb
                       replace ok1 := ok1.below bb
                       replace br := br.below bb
                       replace bw := below_on bw bb bw.size
                       clear bb))
              go_upto_region 11 with fail
              generalize wq = wm at *
              go_wp2_with fail
              go_roundw
              case rel => exact ⟨k + 1, ⟨cur.lo, cur.hi⟩, by omega, by omega, by go_num, a5, VL.out, VH.out, ⟨fc.lo.l, fc.lo.m, fc.hi.l, fc.hi.m⟩, HLO2.out.symm, HHI2.out.symm, br, bw⟩
              case measure => simp [intOf]; omega
        · have htl : (losL vs).take k = losL vs := List.take_of_length_le (by rw [losL, List.length_map]; have := HN.out; omega)
          have hth : (hisL vs).take k = hisL vs := List.take_of_length_le (by rw [hisL, List.length_map]; have := HN.out; omega)
          have e1 : redS cur.lo = okS (loP (losL vs)) := by rw [redS_okS VL.out, QL.out, htl]
          have e2 : redS cur.hi = okS (hiP (hisL vs)) := by rw [redS_okS VH.out, QH.out, hth]
          have E1 := Lib.hid e1
          have E2 := Lib.hid e2
          clear htl hth e1 e2
          have ci0 := a5.c0
          have ci1 := a5.c1
          have ci2 := a5.c2
          have ci3 := a5.c3
          have ci4 := a5.c4
          have ci5 := a5.c5
          go_wp2_with fail
          clear ci0 ci1 ci2 ci3 ci4 ci5
          refine (rilowest_any _ cur (okS (loP (losL vs))) (okS (hiP (hisL vs))) a5.ok fc E1.out E2.out).mono ?_
          rintro e wn ⟨a, rfl, h1, h2, oka, bb⟩
          try replace br := br.below bb
          try replace a5 := a5.below bb
          replace bw := below_on bw bb bw.size
          clear bb
          have r0 := br.cell 0
          have r1 := br.cell 1
          have r2 := br.cell 2
          have r3 := br.cell 3
          have r4 := br.cell 4
          have r5 := br.cell 5
          have rf0 := br.unf 0
          have rf1 := br.unf 1
          have rf2 := br.unf 2
          have rf3 := br.unf 3
          have rf4 := br.unf 4
          have rf5 := br.unf 5
          simp only [List.getElem?_toArray, List.getElem?_cons_succ, List.getElem?_cons_zero] at r0 r1 r2 r3 r4 r5
          go_wp2_with fail
          refine bodyPost_ret (v := .tuple #[(a : Ix).val, .int .i64 0]) (by simp [results, Try.results33, go_sem, r0, r1, r2, r3, r4, r5]) rfl ?_
          rw [← HS2.out]
          exact ⟨a, rfl, h1, h2, ⟨set6_ok oka.lo br noInt_z, set6_ok oka.hi br noInt_z⟩, set6_below bw (by omega)⟩
end Go.Proofs.Ytlcolmifmhdboaa
