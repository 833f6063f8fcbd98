/- The walks of interval.Mul, Scale, Meet. The walks of drydockref03.Mul, Scale. The walk of interval.Meet. -/
import Derived.Test.YtnmomigaedfdoaaIvF
import Derived.Test.YtnmomigaedfdoaaIvU
import Derived.Test.YtnmomigaedfdoaaRfI
namespace Go.Proofs.Ytnmomigaedfdoaa
set_option maxRecDepth 100000
open Go.RowKit

def mulI (a b : Ix) : IvS := if a.v ∧ b.v then mulsS (prodL [b.lo, b.hi] a.lo.q a.hi.q) else errI 1
def sclI (x : Fx) (a : Ix) : IvS := if x.v ∧ a.v then mulsS (prodL [x] a.lo.q a.hi.q) else errI 1
theorem okF2 {w : World} {x y : Fx} (hx : x.ok w) (hy : y.ok w) (fx : x.few) (fy : y.few) : OkF w [x, y] := fun v hv => by
  simp only [List.mem_cons, List.not_mem_nil, or_false] at hv
  rcases hv with rfl | rfl
  · exact ⟨hx, fx.l, fx.m⟩
  · exact ⟨hy, fy.l, fy.m⟩
theorem allv2 {x y : Fx} (hx : x.v) (hy : y.v) : ∀ v ∈ [x, y], v.v := fun v hv => by
  simp only [List.mem_cons, List.not_mem_nil, or_false] at hv
  rcases hv with rfl | rfl
  · exact hx
  · exact hy
end Go.Proofs.Ytnmomigaedfdoaa
namespace Go.Proofs.Ytnmomigaedfdoaa
set_option maxRecDepth 100000
open Go.RowKit

theorem rdf_lit (w : World) (vs : List Fx) : RdF (w.alloc (.cells (fcells vs).toArray 26)) (some ⟨w.heap.size, 0, none⟩) vs := fun _ => by
  refine ⟨_, rfl, by simp, fun k hk => ?_⟩
  obtain ⟨h0, h1, h2⟩ := fcells_get vs k hk
  have hb := Blk.cell (blk_alloc w (fcells vs).toArray 26)
  rw [add_mk]
  refine ⟨?_, ?_, ?_⟩
  · rw [hb]; simpa using h0
  · rw [hb]; simpa using h1
  · rw [hb]; simpa using h2
set_option maxHeartbeats 1600000 in
theorem riscale_any (w : World) (x1 : Fx) (x2 : Ix) (S : IvS) (ok1 : x1.ok w) (ok2 : x2.ok w) (f1 : x1.few) (f2 : x2.few) (hs : sclI x1 x2 = S) :
    Calls Try.prog 30 #[x1.val, x2.val] w (IvlRes w S) := by
  have HS := Lib.hid hs
  clear hs
  by_cases hv1 : x1.v
  · have HV1 := Lib.hid hv1
    by_cases hv2 : x2.v
    · have HV2 := Lib.hid hv2
      have HP : Hid (mulsS [x1.q * x2.lo.q, x1.q * x2.hi.q] = S) := Lib.hid (by rw [← HS.out, sclI, if_pos ⟨hv1, hv2⟩]; rfl)
      clear hv1 hv2
      go_enter Try.func30, Try.ntmps30
      go_upto_region 1 with fail
      have bw := Below.refl w.heap.size w
      have a1 := (fa_alloc ok1).1
      have bb := (fa_alloc ok1).2
      have sz1 := size_box w (.cells x1.cells 26)
      clear ok1
      generalize (w.alloc (.cells x1.cells 26)) = wA at a1 bb sz1 ⊢
      try replace ok1 := ok1.below bb
      try replace ok2 := ok2.below bb
      try replace a1 := a1.below bb
      replace bw := below_on bw bb bw.size
      clear bb
      have a2 := (ia_alloc ok2).1
      have bb := (ia_alloc ok2).2
      have sz2 := size_box wA (.cells x2.cells 35)
      rw [sz1] at a2 sz2
      clear ok2 sz1
      generalize (wA.alloc (.cells x2.cells 35)) = wB at a2 bb sz2 ⊢
      try replace ok1 := ok1.below bb
      try replace ok2 := ok2.below bb
      try replace a1 := a1.below bb
      try replace a2 := a2.below bb
      replace bw := below_on bw bb bw.size
      clear bb
      have br := (zr_alloc wB).1
      have bb := (zr_alloc wB).2
      rw [sz2] at br
      clear sz2
      generalize (wB.alloc (.cells zcells 35)) = wm at br bb ⊢
      try replace a1 := a1.below bb
      try replace a2 := a2.below bb
      replace bw := below_on bw bb bw.size
      clear bb
      have ci0 := a1.c0
      have ci1 := a1.c1
      have ci2 := a1.c2
      go_wp2_with fail
      clear ci0 ci1 ci2
      refine (rfvalid_any _ x1 true a1.ok f1.l f1.m (decide_eq_true HV1.out)).mono ?_
      rintro e wn ⟨rfl, bb⟩
      try replace br := br.below bb
      try replace a1 := a1.below bb
      try replace a2 := a2.below bb
      replace bw := below_on bw bb bw.size
      clear bb
      have ci0 := a2.c0
      have ci1 := a2.c1
      have ci2 := a2.c2
      have ci3 := a2.c3
      have ci4 := a2.c4
      have ci5 := a2.c5
      go_wp2_with fail
      clear ci0 ci1 ci2 ci3 ci4 ci5
      refine (rivalid_any _ x2 true a2.ok f2 (decide_eq_true HV2.out)).mono ?_
      rintro e wn ⟨rfl, bb⟩
      try replace br := br.below bb
      try replace a1 := a1.below bb
      try replace a2 := a2.below bb
      replace bw := below_on bw bb bw.size
      clear bb
      go_upto_region 3 with fail
      have hal1 := a1.lt
      have hal2 := a2.lt
      have ci0 := a2.c0
      have ci1 := a2.c1
      have ci2 := a2.c2
      have ci3 := a2.c3
      have ci4 := a2.c4
      have ci5 := a2.c5
      have cj0 := a1.c0
      have cj1 := a1.c1
      have cj2 := a1.c2
      go_wp2_with fail
      clear ci0 ci1 ci2 ci3 ci4 ci5
      clear cj0 cj1 cj2
      have hr := rdf_lit wn [x1, x1]
      have bb := (Below.refl wn.heap.size wn).alloc (Nat.le_refl _) (.cells (fcells [x1, x1]).toArray 26)
      have hzl := size_box wn (.cells (fcells [x1, x1]).toArray 26)
      simp only [fcells] at hr bb hzl
      generalize (wn.alloc (.cells [Value.bool x1.b, .slice x1.A x1.xs.length x1.c, .slice x1.D x1.ys.length x1.d, .bool x1.b, .slice x1.A x1.xs.length x1.c, .slice x1.D x1.ys.length x1.d].toArray 26)) = wk at hr bb hzl ⊢
      try replace br := br.below bb
      try replace a1 := a1.below bb
      try replace a2 := a2.below bb
      replace bw := below_on bw bb bw.size
      clear bb
      have hr2 := rdf_lit wk [x2.lo, x2.hi]
      have bb := (Below.refl wk.heap.size wk).alloc (Nat.le_refl _) (.cells (fcells [x2.lo, x2.hi]).toArray 26)
      simp only [fcells] at hr2 bb
      rw [hzl] at hr2
      generalize (wk.alloc (.cells [Value.bool x2.lo.b, .slice x2.lo.A x2.lo.xs.length x2.lo.c, .slice x2.lo.D x2.lo.ys.length x2.lo.d, .bool x2.hi.b, .slice x2.hi.A x2.hi.xs.length x2.hi.c, .slice x2.hi.D x2.hi.ys.length x2.hi.d].toArray 26)) = wl at hr2 bb ⊢
      replace hr := hr.below bb
      try replace br := br.below bb
      try replace a1 := a1.below bb
      try replace a2 := a2.below bb
      replace bw := below_on bw bb bw.size
      clear bb
      clear hzl hal1 hal2
      refine (rispan_any wl _ _ 2 2 2 [x1, x1] [x2.lo, x2.hi] _ S hr hr2 (okF2 a1.ok a1.ok f1 f1) (okF2 a2.ok.lo a2.ok.hi f2.lo f2.hi) (allv2 HV1.out HV1.out) (allv2 HV2.out.1 HV2.out.2.1) rfl rfl rfl (by omega) (by omega) ?_ HP.out).mono ?_
      · intro k hk _
        match k, hk with
        | 0, _ => rfl
        | 1, _ => rfl
      rintro e wn ⟨a, rfl, h1, h2, oka, bb⟩
      try replace br := br.below bb
      try replace a1 := a1.below bb
      try replace a2 := a2.below bb
      replace bw := below_on bw bb bw.size
      clear bb
      have r0 := br.cell 0
      have r1 := br.cell 1
      have r2 := br.cell 2
      have r3 := br.cell 3
      have r4 := br.cell 4
      have r5 := br.cell 5
      have rf0 := br.unf 0
      have rf1 := br.unf 1
      have rf2 := br.unf 2
      have rf3 := br.unf 3
      have rf4 := br.unf 4
      have rf5 := br.unf 5
      simp only [List.getElem?_toArray, List.getElem?_cons_succ, List.getElem?_cons_zero] at r0 r1 r2 r3 r4 r5
      go_wp2_with fail
      refine bodyPost_ret (v := .tuple #[(a : Ix).val, .int .i64 S.2.2]) (by simp [results, Try.results30, go_sem, r0, r1, r2, r3, r4, r5]) rfl ?_
      exact ⟨a, rfl, h1, h2, ⟨set6_ok oka.lo br noInt_z, set6_ok oka.hi br noInt_z⟩, set6_below bw (by omega)⟩
    · have HV2 : Hid (¬ (x1.v ∧ x2.v)) := fun h => hv2 h.2
      have HV3 : Hid (¬ x2.v) := hv2
      clear hv1 hv2
      go_enter Try.func30, Try.ntmps30
      go_upto_region 1 with fail
      have bw := Below.refl w.heap.size w
      have a1 := (fa_alloc ok1).1
      have bb := (fa_alloc ok1).2
      have sz1 := size_box w (.cells x1.cells 26)
      clear ok1
      generalize (w.alloc (.cells x1.cells 26)) = wA at a1 bb sz1 ⊢
      try replace ok1 := ok1.below bb
      try replace ok2 := ok2.below bb
      try replace br := br.below bb
      try replace a1 := a1.below bb
      try replace a2 := a2.below bb
      replace bw := below_on bw bb bw.size
      clear bb
      have a2 := (ia_alloc ok2).1
      have bb := (ia_alloc ok2).2
      have sz2 := size_box wA (.cells x2.cells 35)
      rw [sz1] at a2 sz2
      clear ok2 sz1
      generalize (wA.alloc (.cells x2.cells 35)) = wB at a2 bb sz2 ⊢
      try replace ok1 := ok1.below bb
      try replace ok2 := ok2.below bb
      try replace br := br.below bb
      try replace a1 := a1.below bb
      try replace a2 := a2.below bb
      replace bw := below_on bw bb bw.size
      clear bb
      have br := (zr_alloc wB).1
      have bb := (zr_alloc wB).2
      rw [sz2] at br
      clear sz2
      generalize (wB.alloc (.cells zcells 35)) = wm at br bb ⊢
      try replace a1 := a1.below bb
      try replace a2 := a2.below bb
      replace bw := below_on bw bb bw.size
      clear bb
      have ci0 := a1.c0
      have ci1 := a1.c1
      have ci2 := a1.c2
      go_wp2_with fail
      clear ci0 ci1 ci2
      refine (rfvalid_any _ x1 true a1.ok f1.l f1.m (decide_eq_true HV1.out)).mono ?_
      rintro e wn ⟨rfl, bb⟩
      try replace br := br.below bb
      try replace a1 := a1.below bb
      try replace a2 := a2.below bb
      replace bw := below_on bw bb bw.size
      clear bb
      have ci0 := a2.c0
      have ci1 := a2.c1
      have ci2 := a2.c2
      have ci3 := a2.c3
      have ci4 := a2.c4
      have ci5 := a2.c5
      go_wp2_with fail
      clear ci0 ci1 ci2 ci3 ci4 ci5
      refine (rivalid_any _ x2 false a2.ok f2 (decide_eq_false HV3.out)).mono ?_
      rintro e wn ⟨rfl, bb⟩
      try replace br := br.below bb
      try replace a1 := a1.below bb
      try replace a2 := a2.below bb
      replace bw := below_on bw bb bw.size
      clear bb
      have r0 := br.cell 0
      have r1 := br.cell 1
      have r2 := br.cell 2
      have r3 := br.cell 3
      have r4 := br.cell 4
      have r5 := br.cell 5
      have rf0 := br.unf 0
      have rf1 := br.unf 1
      have rf2 := br.unf 2
      have rf3 := br.unf 3
      have rf4 := br.unf 4
      have rf5 := br.unf 5
      simp only [List.getElem?_toArray, List.getElem?_cons_succ, List.getElem?_cons_zero] at r0 r1 r2 r3 r4 r5
      go_wp2_with fail
      refine bodyPost_ret (v := .tuple #[(Ix.nil : Ix).val, .int .i64 1]) (by simp [results, Try.results30, go_sem, r0, r1, r2, r3, r4, r5]) rfl ?_
      rw [← HS.out, (show sclI x1 x2 = errI 1 from if_neg HV2.out)]
      exact ⟨Ix.nil, rfl, ⟨rfl, rfl, rfl⟩, ⟨rfl, rfl, rfl⟩, Ix.nil_ok _, set6_below bw (by omega)⟩
  · have HV2 : Hid (¬ (x1.v ∧ x2.v)) := fun h => hv1 h.1
    have HV1 : Hid (¬ x1.v) := hv1
    clear hv1
    go_enter Try.func30, Try.ntmps30
    go_upto_region 1 with fail
    have bw := Below.refl w.heap.size w
    have a1 := (fa_alloc ok1).1
    have bb := (fa_alloc ok1).2
    have sz1 := size_box w (.cells x1.cells 26)
    clear ok1
    generalize (w.alloc (.cells x1.cells 26)) = wA at a1 bb sz1 ⊢
    try replace ok1 := ok1.below bb
    try replace ok2 := ok2.below bb
    try replace br := br.below bb
    try replace a1 := a1.below bb
    try replace a2 := a2.below bb
    replace bw := below_on bw bb bw.size
    clear bb
    have a2 := (ia_alloc ok2).1
    have bb := (ia_alloc ok2).2
    have sz2 := size_box wA (.cells x2.cells 35)
    rw [sz1] at a2 sz2
    clear ok2 sz1
    generalize (wA.alloc (.cells x2.cells 35)) = wB at a2 bb sz2 ⊢
    try replace ok1 := ok1.below bb
    try replace ok2 := ok2.below bb
    try replace br := br.below bb
    try replace a1 := a1.below bb
    try replace a2 := a2.below bb
    replace bw := below_on bw bb bw.size
    clear bb
    have br := (zr_alloc wB).1
    have bb := (zr_alloc wB).2
    rw [sz2] at br
    clear sz2
    generalize (wB.alloc (.cells zcells 35)) = wm at br bb ⊢
    try replace a1 := a1.below bb
    try replace a2 := a2.below bb
    replace bw := below_on bw bb bw.size
    clear bb
    have ci0 := a1.c0
    have ci1 := a1.c1
    have ci2 := a1.c2
    go_wp2_with fail
    clear ci0 ci1 ci2
    refine (rfvalid_any _ x1 false a1.ok f1.l f1.m (decide_eq_false HV1.out)).mono ?_
    rintro e wn ⟨rfl, bb⟩
    try replace br := br.below bb
    try replace a1 := a1.below bb
    try replace a2 := a2.below bb
    replace bw := below_on bw bb bw.size
    clear bb
    have r0 := br.cell 0
    have r1 := br.cell 1
    have r2 := br.cell 2
    have r3 := br.cell 3
    have r4 := br.cell 4
    have r5 := br.cell 5
    have rf0 := br.unf 0
    have rf1 := br.unf 1
    have rf2 := br.unf 2
    have rf3 := br.unf 3
    have rf4 := br.unf 4
    have rf5 := br.unf 5
    simp only [List.getElem?_toArray, List.getElem?_cons_succ, List.getElem?_cons_zero] at r0 r1 r2 r3 r4 r5
    go_wp2_with fail
    refine bodyPost_ret (v := .tuple #[(Ix.nil : Ix).val, .int .i64 1]) (by simp [results, Try.results30, go_sem, r0, r1, r2, r3, r4, r5]) rfl ?_
    rw [← HS.out, (show sclI x1 x2 = errI 1 from if_neg HV2.out)]
    exact ⟨Ix.nil, rfl, ⟨rfl, rfl, rfl⟩, ⟨rfl, rfl, rfl⟩, Ix.nil_ok _, set6_below bw (by omega)⟩
end Go.Proofs.Ytnmomigaedfdoaa
namespace Go.Proofs.Ytnmomigaedfdoaa
set_option maxRecDepth 100000
open Go.RowKit

def maxR (p q : Rat) : Rat := if p ≤ q then q else p
def minR (p q : Rat) : Rat := if q ≤ p then q else p
def nilF : FqS := errF 0
/-- what two intervals have in common -/
def meetS (a b : Ix) : FqS × FqS × Bool := if a.v ∧ b.v ∧ maxR a.lo.q b.lo.q ≤ minR a.hi.q b.hi.q then (okS (maxR a.lo.q b.lo.q), okS (minR a.hi.q b.hi.q), true) else (nilF, nilF, false)
end Go.Proofs.Ytnmomigaedfdoaa
