/- The walk of interval.products. -/
import Derived.Test.YtlcolmifmhdboaaIvE
import Derived.Test.YtlcolmifmhdboaaIvA
namespace Go.Proofs.Ytlcolmifmhdboaa
open Go.RowKit

/-- the least and the greatest of a list of numbers -/
def loL : List Rat → Rat → Rat
  | [], q => q
  | x :: vs, q => loL vs (if x ≤ q then x else q)
def hiL : List Rat → Rat → Rat
  | [], q => q
  | x :: vs, q => hiL vs (if q ≤ x then x else q)
def loP : List Rat → Rat
  | [] => 0
  | x :: vs => loL vs x
def hiP : List Rat → Rat
  | [] => 0
  | x :: vs => hiL vs x
set_option maxRecDepth 100000 in
theorem loQ_loL (vs : List Fx) (q : Rat) : loQ vs q = loL (vs.map Fx.q) q := by
  induction vs generalizing q with
  | nil => rfl
  | cons x vs ih => rw [loQ, ih]; rfl
set_option maxRecDepth 100000 in
theorem hiQ_hiL (vs : List Fx) (q : Rat) : hiQ vs q = hiL (vs.map Fx.q) q := by
  induction vs generalizing q with
  | nil => rfl
  | cons x vs ih => rw [hiQ, ih]; rfl
/-- the products with both ends -/
def prodL (vs : List Fx) (lo hi : Rat) : List Rat := vs.flatMap (fun x => [x.q * lo, x.q * hi])
set_option maxRecDepth 100000 in
theorem prodL_len (vs : List Fx) (lo hi : Rat) : (prodL vs lo hi).length = 2 * vs.length := by
  induction vs with
  | nil => rfl
  | cons x vs ih => rw [prodL, List.flatMap_cons, List.length_append, ← prodL, ih]; simp; omega
set_option maxRecDepth 100000 in
theorem prodL_at (vs : List Fx) (lo hi : Rat) : ∀ k (hk : k < vs.length), (prodL vs lo hi)[2 * k]? = some (vs[k].q * lo) ∧ (prodL vs lo hi)[2 * k + 1]? = some (vs[k].q * hi) := by
  induction vs with
  | nil => intro k hk; simp at hk
  | cons x vs ih =>
    intro k hk
    rw [prodL, List.flatMap_cons, ← prodL]
    cases k with
    | zero => exact ⟨rfl, rfl⟩
    | succ k =>
      have h := ih k (by simpa using hk)
      rw [show 2 * (k + 1) = 2 * k + 1 + 1 from by omega]
      simp only [List.cons_append, List.nil_append, List.getElem?_cons_succ, List.getElem_cons_succ]
      exact h
def anyBig (ps : List Rat) : Prop := ∃ p ∈ ps, bigQ p
instance (ps : List Rat) : Decidable (anyBig ps) := inferInstanceAs (Decidable (∃ p ∈ ps, bigQ p))
/-- what products reckons -/
def mulsS (ps : List Rat) : IvS := if anyBig ps then errI 2 else (okS (loP ps), okS (hiP ps), 0)
def NoBig (ps : List Rat) (n : Nat) : Prop := ∀ j, j < n → ∀ p, ps[j]? = some p → ¬ bigQ p
set_option maxRecDepth 100000 in
theorem NoBig.next {ps : List Rat} {n : Nat} {p : Rat} (h : NoBig ps n) (hp : ps[n]? = some p) (hb : ¬ bigQ p) : NoBig ps (n + 1) := by
  intro j hj p' hp'
  rcases Nat.lt_or_ge j n with h1 | h1
  · exact h j h1 p' hp'
  · obtain rfl : j = n := by omega
    rw [hp] at hp'
    injection hp' with hp'
    subst hp'
    exact hb
set_option maxRecDepth 100000 in
theorem NoBig.all {ps : List Rat} (h : NoBig ps ps.length) : ¬ anyBig ps := fun ⟨p, hp, hb⟩ => by
  obtain ⟨j, hj, rfl⟩ := List.getElem_of_mem hp
  exact h j hj _ (List.getElem?_eq_getElem hj) hb
set_option maxRecDepth 100000 in
theorem big_at {ps : List Rat} {n : Nat} {p : Rat} (hp : ps[n]? = some p) (hb : bigQ p) : mulsS ps = errI 2 := if_pos ⟨p, List.mem_of_getElem? hp, hb⟩
set_option maxRecDepth 100000 in
theorem take_next {ps : List Rat} {n : Nat} {p : Rat} {l : List Rat} (h : l = ps.take n) (hp : ps[n]? = some p) : l ++ [p] = ps.take (n + 1) := by
  rw [List.take_add_one, hp, h]; rfl
set_option maxRecDepth 100000 in
theorem mulF_q {x y : Fx} {p : Rat} (hx : x.v) (hy : y.v) (hp : x.q * y.q = p) (hb : ¬ bigQ p) : mulF x y = okS p := by
  rw [mulF, if_pos ⟨hx, hy⟩, hp, frS, if_neg hb]; rfl
set_option maxRecDepth 100000 in
theorem mulF_b {x y : Fx} {p : Rat} (hx : x.v) (hy : y.v) (hp : x.q * y.q = p) (hb : bigQ p) : mulF x y = errF 2 := by
  rw [mulF, if_pos ⟨hx, hy⟩, hp, frS, if_pos hb]; rfl
set_option maxHeartbeats 4000000 in
set_option maxRecDepth 100000 in
theorem iproducts_any (w : World) (x1 : Ix) (A : Option Addr) (n c : Nat) (vs : List Fx) (S : IvS) (ok1 : x1.ok w) (f1 : x1.few) (hv1 : x1.v) (hrd : RdF w A vs) (hok : OkF w vs) (hv : ∀ v ∈ vs, v.v) (hn : n = vs.length) (hn2 : 1 ≤ n) (hm : n ≤ 100) (hs : mulsS (prodL vs x1.lo.q x1.hi.q) = S) :
    Calls Try.prog 71 #[x1.val, .slice A n c] w (IvlRes w S) := by
  have HRD := Lib.hid hrd
  have HOK := Lib.hid hok
  have HV := Lib.hid hv
  have HV1 := Lib.hid hv1
  obtain ⟨ps, hps⟩ : ∃ ps, prodL vs x1.lo.q x1.hi.q = ps := ⟨_, rfl⟩
  have hlen := prodL_len vs x1.lo.q x1.hi.q
  have hat := prodL_at vs x1.lo.q x1.hi.q
  rw [hps] at hs hlen hat
  have HS := Lib.hid hs
  have HAT := Lib.hid hat
  have HLEN := Lib.hid hlen
  clear hs hrd hok hv hv1 hat hlen hps
  subst hn
  go_enter Try.func71, Try.ntmps71
  go_upto_region 1 with fail
  have bw := Below.refl w.heap.size w
  have a1 := (ia_alloc ok1).1
  have bb := (ia_alloc ok1).2
  have sz1 := size_box w (.cells x1.cells 41)
  clear ok1
  generalize (w.alloc (.cells x1.cells 41)) = wA at a1 bb sz1 ⊢
  try replace ok1 := ok1.below bb
  try replace ok2 := ok2.below bb
  try replace ok3 := ok3.below bb
  try replace a1 := a1.below bb
  replace bw := below_on bw bb bw.size
  clear bb
  have br := (zr_alloc wA).1
  have bb := (zr_alloc wA).2
  rw [sz1] at br
  clear sz1
  generalize (wA.alloc (.cells zcells 41)) = wm at br bb ⊢
  try replace a1 := a1.below bb
  replace bw := below_on bw bb bw.size
  clear bb
  have hB : w.heap.size + 2 ≤ wm.heap.size := br.lt
  have HA1 := Lib.hid a1
  have HBR := Lib.hid br
  clear a1 br
  go_wp2_with fail
  go_loopw [6, 15] (fun s i wr => ∃ (k : Nat) (out : List Fx) (A2 : Option Addr) (c2 : Nat), k ≤ vs.length ∧ i = .int .i64 k ∧ s = .slice A2 out.length c2 ∧ Fr wr wm.heap.size A2 c2 out ∧ NoI wr A2 ∧ OkF wr out ∧ out.map Fx.q = ps.take (2 * k) ∧ NoBig ps (2 * k) ∧ (∀ v ∈ out, v.v) ∧ Below wm.heap.size wm wr) (fun _ i _ => vs.length - (intOf i).toNat)
  case atStart => exact ⟨0, [], none, 0, by omega, rfl, rfl, fr_nil _ _, NoI.nil _, (fun v hv => nomatch hv), rfl, (fun j hj => by omega), (fun v hv => nomatch hv), Below.refl _ _⟩
  case round =>
    obtain ⟨k, out, A2, c2, hkl, rfl, rfl, fr, ni, oko, hmap, hnb, hvo, bz⟩ := hrel
    have HMAP := Lib.hid hmap
    have HNB := Lib.hid hnb
    have HVO := Lib.hid hvo
    have a1 := HA1.out.below bz
    have bwr := below_on bw bz bw.size
    have hszr := bz.size
    clear hmap hnb hvo
    by_cases hlt : k < vs.length
    · obtain ⟨ad, rfl, _, hcc⟩ := (HRD.out.below bwr) (by omega)
      obtain ⟨hc0, hc1, hc2⟩ := hcc k hlt
      obtain ⟨ok2, l2, m2⟩ := (HOK.out.below bwr) _ (List.getElem_mem hlt)
      have V2 := Lib.hid (HV.out _ (List.getElem_mem hlt))
      have hat := HAT.out k hlt
      obtain ⟨x2, hx2⟩ : ∃ x2, vs[k] = x2 := ⟨_, rfl⟩
      rw [hx2] at hc0 hc1 hc2 ok2 l2 m2 V2 hat
      have HAT2 := Lib.hid hat
      clear hcc hx2 hat
      go_upto_region 5 with fail
      clear hc0 hc1 hc2
      have f2 : x2.few := ⟨l2, m2⟩
      have hA2 : some wr.heap.size ≠ A2.map (·.block) := fun e => by have := (fr.lt _ e.symm).2; omega
      have a2 := (fa_alloc ok2).1
      have bb := (fa_alloc ok2).2
      clear ok2
      generalize (wr.alloc (.cells #[.bool x2.b, .slice x2.A x2.xs.length x2.c, .slice x2.D x2.ys.length x2.d] 25)) = wx at a2 bb ⊢
      replace fr := fr.below bb
      replace ni := ni.below bb
      replace oko := oko.below bb
      replace a1 := a1.below bb
      replace bz := below_on bz bb bz.size
      clear bb bwr
      generalize wr.heap.size = g8 at a2 hA2 hszr ⊢
      have ci0 := a1.c0
      have ci1 := a1.c1
      have ci2 := a1.c2
      have ci3 := a1.c3
      have ci4 := a1.c4
      have ci5 := a1.c5
      go_wp2_with fail
      clear ci0 ci1 ci2 ci3 ci4 ci5
      go_loopw [6, 24] (fun s i wy => ∃ (j : Nat) (out : List Fx) (A2 : Option Addr) (c2 : Nat), j ≤ 2 ∧ i = .int .i64 j ∧ s = .slice A2 out.length c2 ∧ Fr wy wm.heap.size A2 c2 out ∧ NoI wy A2 ∧ OkF wy out ∧ out.map Fx.q = ps.take (2 * k + j) ∧ NoBig ps (2 * k + j) ∧ (∀ v ∈ out, v.v) ∧ some g8 ≠ A2.map (·.block) ∧ Fa wy g8 x2 ∧ Below wm.heap.size wm wy) (fun _ i _ => 2 - (intOf i).toNat)
      case atStart => exact ⟨0, out, A2, c2, by omega, rfl, rfl, fr, ni, oko, HMAP.out, HNB.out, HVO.out, hA2, a2, bz⟩
      case round =>
        clear fr ni oko a2 bz hA2 HMAP HNB HVO a1
        obtain ⟨j, out, A3, c3, hj2, rfl, rfl, fr, ni, oko, hmap, hnb, hvo, hA3, a2, bz⟩ := hrel
        have HMAP := Lib.hid hmap
        have HNB := Lib.hid hnb
        have HVO := Lib.hid hvo
        clear hmap hnb hvo
        by_cases hlt2 : j < 2
        · have hix : ∃ x3 : Fx, (∀ w', (Instr.index 94 (.agg #[.bool x1.lo.b, .slice x1.lo.A x1.lo.xs.length x1.lo.c, .slice x1.lo.D x1.lo.ys.length x1.lo.d, .bool x1.hi.b, .slice x1.hi.A x1.hi.xs.length x1.hi.c, .slice x1.hi.D x1.hi.ys.length x1.hi.d]) (.int .i64 (j : Int))).run Try.prog w' = .ok x3.val w') ∧ x3.ok wm ∧ x3.v ∧ x3.few ∧ ps[2 * k + j]? = some (x2.q * x3.q) := by
            rcases (show j = 0 ∨ j = 1 by omega) with rfl | rfl
            · exact ⟨x1.lo, fun _ => by kernel_rfl, HA1.out.ok.lo, HV1.out.1, f1.lo, HAT2.out.1⟩
            · exact ⟨x1.hi, fun _ => by kernel_rfl, HA1.out.ok.hi, HV1.out.2.1, f1.hi, HAT2.out.2⟩
          obtain ⟨x3, hix, ok3, hv3, f3, hpj⟩ := hix
          replace ok3 := ok3.below bz
          have V3 := Lib.hid hv3
          have HPJ := Lib.hid hpj
          clear hv3 hpj
          go_upto_region 8 with fail
          have a3 := (fa_alloc ok3).1
          have bb := (fa_alloc ok3).2
          clear ok3 hix
          generalize (wr.alloc (.cells #[.bool x3.b, .slice x3.A x3.xs.length x3.c, .slice x3.D x3.ys.length x3.d] 25)) = wx at a3 bb ⊢
          replace fr := fr.below bb
          replace ni := ni.below bb
          replace oko := oko.below bb
          replace a2 := a2.below bb
          try replace a3 := a3.below bb
          replace bz := below_on bz bb bz.size
          clear bb
          generalize wr.heap.size = g10 at a3 ⊢
          obtain ⟨p, hp⟩ : ∃ p, x2.q * x3.q = p := ⟨_, rfl⟩
          by_cases hb : bigQ p
          · have HE := Lib.hid (mulF_b V2.out V3.out hp hb)
            have HS2 : Hid (mulsS ps = errI 2) := Lib.hid (big_at HPJ.out (by rw [hp]; exact hb))
            have e0 : (errF 2).2.2.2 = 2 := rfl
            clear hb hp
            have ci0 := a2.c0
            have ci1 := a2.c1
            have ci2 := a2.c2
            have cj0 := a3.c0
            have cj1 := a3.c1
            have cj2 := a3.c2
            go_wp2_with fail
            clear ci0 ci1 ci2 cj0 cj1 cj2
            refine (fmul_any _ x2 x3 (errF 2) a2.ok a3.ok f2.l f2.m f3.l f3.m HE.out).mono ?_
            rintro e wn ⟨x5, rfl, hs5, ok5, bb⟩
            have HS5 := Lib.hid hs5
            clear hs5
            replace fr := fr.below bb
            replace ni := ni.below bb
            replace oko := oko.below bb
            replace a2 := a2.below bb
            try replace a3 := a3.below bb
            replace bz := below_on bz bb bz.size
            clear bb
            go_upto_region 9 with fail
            have a5 := (fa_alloc ok5).1
            have bb := (fa_alloc ok5).2
            clear ok5
            generalize (wn.alloc (.cells #[.bool x5.b, .slice x5.A x5.xs.length x5.c, .slice x5.D x5.ys.length x5.d] 25)) = wx at a5 bb ⊢
            replace fr := fr.below bb
            replace ni := ni.below bb
            replace oko := oko.below bb
            replace a2 := a2.below bb
            try replace a3 := a3.below bb
            try replace a5 := a5.below bb
            replace bz := below_on bz bb bz.size
            clear bb
            generalize wn.heap.size = g11 at a5 ⊢
            have br := HBR.out.below bz
            have bw2 := below_on bw bz bw.size
            clear bw
            have bw := bw2
            clear bw2 bz
            have r0 := br.cell 0
            have r1 := br.cell 1
            have r2 := br.cell 2
            have r3 := br.cell 3
            have r4 := br.cell 4
            have r5 := br.cell 5
            have rf0 := br.unf 0
            have rf1 := br.unf 1
            have rf2 := br.unf 2
            have rf3 := br.unf 3
            have rf4 := br.unf 4
            have rf5 := br.unf 5
            simp only [List.getElem?_toArray, List.getElem?_cons_succ, List.getElem?_cons_zero] at r0 r1 r2 r3 r4 r5
            go_wp2_with fail
            refine bodyPost_ret (v := .tuple #[(Ix.nil : Ix).val, .int .i64 2]) (by simp [results, Try.results71, go_sem, r0, r1, r2, r3, r4, r5]) rfl ?_
            rw [← HS.out, HS2.out]
            exact ⟨Ix.nil, rfl, ⟨rfl, rfl, rfl⟩, ⟨rfl, rfl, rfl⟩, Ix.nil_ok _, set6_below bw (by omega)⟩
          · have HE := Lib.hid (mulF_q V2.out V3.out hp hb)
            have HPJ2 : Hid (ps[2 * k + j]? = some p) := Lib.hid (by rw [← hp]; exact HPJ.out)
            have HB : Hid (¬ bigQ p) := hb
            have e0 : (okS p).2.2.2 = 0 := rfl
            clear hb hp
            have ci0 := a2.c0
            have ci1 := a2.c1
            have ci2 := a2.c2
            have cj0 := a3.c0
            have cj1 := a3.c1
            have cj2 := a3.c2
            go_wp2_with fail
            clear ci0 ci1 ci2 cj0 cj1 cj2
            refine (fmul_any _ x2 x3 (okS p) a2.ok a3.ok f2.l f2.m f3.l f3.m HE.out).mono ?_
            rintro e wn ⟨x5, rfl, hs5, ok5, bb⟩
            have HS5 := Lib.hid hs5
            clear hs5
            replace fr := fr.below bb
            replace ni := ni.below bb
            replace oko := oko.below bb
            replace a2 := a2.below bb
            try replace a3 := a3.below bb
            try replace a5 := a5.below bb
            replace bz := below_on bz bb bz.size
            clear bb
            go_upto_region 9 with fail
            have a5 := (fa_alloc ok5).1
            have bb := (fa_alloc ok5).2
            clear ok5
            generalize (wn.alloc (.cells #[.bool x5.b, .slice x5.A x5.xs.length x5.c, .slice x5.D x5.ys.length x5.d] 25)) = wx at a5 bb ⊢
            replace fr := fr.below bb
            replace ni := ni.below bb
            replace oko := oko.below bb
            replace a2 := a2.below bb
            try replace a3 := a3.below bb
            try replace a5 := a5.below bb
            replace bz := below_on bz bb bz.size
            clear bb
            generalize wn.heap.size = g11 at a5 ⊢
            have R5 := Rp.of HS5.out
            have Z5 := Sz.of_big HB.out
            have l5 := R5.l1 Z5
            have m5 := R5.l2 Z5
            have V5 := Lib.hid (R5.v Z5)
            have Q5 := Lib.hid R5.q
            clear R5 Z5
            go_upto_region 11 with fail
            have ci0 := a5.c0
            have ci1 := a5.c1
            have ci2 := a5.c2
            have hcl := Lib.hid HVO.out
            have hlen5 : out.length ≤ 900 := by
              have h1 := congrArg List.length HMAP.out
              rw [List.length_map, List.length_take] at h1
              omega
            have a5' := a5.ok
            have bl := (Below.refl wm.heap.size wm)
            go_wp2_with (at_builtin; refine wpList_append_frac _ rfl _ _ rfl rfl (A := A3) (c := c3) (n := out.length) (xs := out) rfl rfl (fr.below ((Below.refl _ _).alloc (Nat.le_refl _) _)) (ni.below ((Below.refl _ _).alloc (Nat.le_refl _) _)) _ 1 1 [x5] rfl rfl (rdf1 _ x5) (by simp) (by omega) (by simp; have := bz.size; omega) ?_; intro A4 c4 wz fr4 ni4 bz4 gr4 hat4)
            clear ci0 ci1 ci2
            have blit := (Below.refl wx.heap.size wx).alloc (Nat.le_refl _) (.cells x5.cells 25)
            have hnl := ni.below blit
            have hg8 : g8 < wx.heap.size := a2.lt
            go_roundw
            case rel =>
              refine ⟨j + 1, out ++ [x5], A4, c4, by omega, by go_num, by simp, fr4, ni4, ?_, ?_, ?_, ?_, ?_, ((a2.below blit).grown hnl gr4 hA3), ?_⟩
              · intro v hv
                rcases List.mem_append.1 hv with h | h
                · exact ((oko.below blit).grown hnl gr4) v h
                · obtain rfl : v = x5 := by simpa using h
                  exact ⟨(a5.ok.below blit).grown hnl gr4, l5, m5⟩
              · rw [List.map_append, List.map_cons, List.map_nil, Q5.out]
                exact take_next HMAP.out HPJ2.out
              · exact HNB.out.next HPJ2.out HB.out
              · intro v hv
                rcases List.mem_append.1 hv with h | h
                · exact HVO.out v h
                · obtain rfl : v = x5 := by simpa using h
                  exact V5.out
              · rcases hat4 with h | h
                · rw [h]; exact hA3
                · rw [h]; intro e; injection e with e; rw [size_box] at e; omega
              · exact (bz.trans (blit.mono bz.size)).trans bz4
            case measure => simp [intOf]; omega
        · obtain rfl : j = 2 := by omega
          go_wp2_with fail
          go_roundw
          case rel => exact ⟨k + 1, out, A3, c3, by omega, by go_num, rfl, fr, ni, oko, by rw [show 2 * (k + 1) = 2 * k + 2 from by omega]; exact HMAP.out, by rw [show 2 * (k + 1) = 2 * k + 2 from by omega]; exact HNB.out, HVO.out, bz⟩
          case measure => simp [intOf]; omega
    · obtain rfl : k = vs.length := by omega
      have hmp : out.map Fx.q = ps := by rw [HMAP.out, List.take_of_length_le (by rw [HLEN.out]; omega)]
      have hnb : ¬ anyBig ps := NoBig.all (by rw [HLEN.out]; exact HNB.out)
      have hol : out.length = 2 * vs.length := by rw [← HLEN.out, ← hmp, List.length_map]
      have hcp := fr.caps
      obtain ⟨ad, rfl, _⟩ := fr.rd (by omega)
      have HRF := Lib.hid fr.rd
      cases out with
      | nil => simp at hol; omega
      | cons v0 out =>
        have hlo : okS (loQ out v0.q) = okS (loP ps) := by rw [← hmp, loQ_loL]; rfl
        have hhi : okS (hiQ out v0.q) = okS (hiP ps) := by rw [← hmp, hiQ_hiL]; rfl
        have HS2 : Hid ((okS (loP ps), okS (hiP ps), (0 : Int)) = S) := Lib.hid (by rw [← HS.out, mulsS, if_neg hnb])
        have HLO := Lib.hid hlo
        have HHI := Lib.hid hhi
        have HOL2 : Hid (out.length + 1 = 2 * vs.length) := Lib.hid (by simpa using hol)
        have HCP := Lib.hid hcp
        clear hlo hhi hmp hnb hol hcp HMAP
        have br := HBR.out.below bz
        have bw2 := below_on bw bz bw.size
        clear bw
        have bw := bw2
        clear bw2 bz
        go_wp2_with fail
        have hcl1 : out.length + 1 ≤ c2 := HCP.out.1
        refine (ispan_any wr ad (out.length + 1) c2 v0 out (okS (loP ps)) (okS (hiP ps)) HRF.out oko HVO.out rfl (by have := HOL2.out; omega) hcl1 (by have := HOL2.out; omega) HCP.out.2 HLO.out HHI.out).mono ?_
        rintro e wn ⟨a, rfl, h1, h2, oka, bb⟩
        try replace br := br.below bb
        try replace a1 := a1.below bb
        try replace a2 := a2.below bb
        try replace a3 := a3.below bb
        try replace a5 := a5.below bb
        replace bw := below_on bw bb bw.size
        clear bb
        have r0 := br.cell 0
        have r1 := br.cell 1
        have r2 := br.cell 2
        have r3 := br.cell 3
        have r4 := br.cell 4
        have r5 := br.cell 5
        have rf0 := br.unf 0
        have rf1 := br.unf 1
        have rf2 := br.unf 2
        have rf3 := br.unf 3
        have rf4 := br.unf 4
        have rf5 := br.unf 5
        simp only [List.getElem?_toArray, List.getElem?_cons_succ, List.getElem?_cons_zero] at r0 r1 r2 r3 r4 r5
        go_wp2_with fail
        refine bodyPost_ret (v := .tuple #[(a : Ix).val, .int .i64 0]) (by simp [results, Try.results71, go_sem, r0, r1, r2, r3, r4, r5]) rfl ?_
        rw [← HS2.out]
        exact ⟨a, rfl, h1, h2, ⟨set6_ok oka.lo br noInt_z, set6_ok oka.hi br noInt_z⟩, set6_below bw (by omega)⟩
end Go.Proofs.Ytlcolmifmhdboaa
