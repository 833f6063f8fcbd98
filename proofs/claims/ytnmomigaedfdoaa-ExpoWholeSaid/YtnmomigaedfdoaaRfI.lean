/- What the reference's span needs: stores into an interval's variable, the least of a list, fractions in lowest terms. The walk of interval.Hull. The reference of package interval: Less, Same, Valid, lowest, Point, Contains, Inside, pair, Width. The walks of drydockref02: Int, Power, floor, Floor, Ceil. The walks of drydockref02: Floor, Ceil, Power. -/
import Derived.Test.YtnmomigaedfdoaaIvF
import Derived.Test.YtnmomigaedfdoaaFrG
import Derived.Test.YtnmomigaedfdoaaLwD
import Derived.Test.YtnmomigaedfdoaaRefT
namespace Go.Proofs.Ytnmomigaedfdoaa
set_option maxRecDepth 100000
open Go.RowKit

theorem set3at_ok {w : World} {x : Fx} {G : Nat} {arr : Array Value} {i j k : Nat} {v0 v1 v2 : Value} (h : x.ok w) (bk : Blk w G arr) (hn : noInt arr) : x.ok (((w.setCell ⟨G, i, none⟩ v0).setCell ⟨G, j, none⟩ v1).setCell ⟨G, k, none⟩ v2) := by
  constructor
  · rcases Nat.eq_zero_or_pos x.xs.length with h0 | h0
    · exact h.num.nil_any h0 _
    · have hs := h.num.sepB bk hn h0
      exact nt_far (nt_far (nt_far h.num hs _) hs _) hs _
  · rcases Nat.eq_zero_or_pos x.ys.length with h0 | h0
    · exact h.den.nil_any h0 _
    · have hs := h.den.sepB bk hn h0
      exact nt_far (nt_far (nt_far h.den hs _) hs _) hs _
theorem Ia.putLo {w : World} {G : Nat} {a : Ix} {z : Fx} (h : Ia w G a) (hz : z.ok w) : Ia (((w.setCell ⟨G, 0, none⟩ (.bool z.b)).setCell ⟨G, 1, none⟩ (.slice z.A z.xs.length z.c)).setCell ⟨G, 2, none⟩ (.slice z.D z.ys.length z.d)) G ⟨z, a.hi⟩ :=
  ⟨((h.bk.set 0 _).set 1 _).set 2 _, ⟨set3at_ok hz h.bk (noInt_i a), set3at_ok h.ok.hi h.bk (noInt_i a)⟩⟩
theorem Ia.putHi {w : World} {G : Nat} {a : Ix} {z : Fx} (h : Ia w G a) (hz : z.ok w) : Ia (((w.setCell ⟨G, 3, none⟩ (.bool z.b)).setCell ⟨G, 4, none⟩ (.slice z.A z.xs.length z.c)).setCell ⟨G, 5, none⟩ (.slice z.D z.ys.length z.d)) G ⟨a.lo, z⟩ :=
  ⟨((h.bk.set 3 _).set 4 _).set 5 _, ⟨set3at_ok h.ok.lo h.bk (noInt_i a), set3at_ok hz h.bk (noInt_i a)⟩⟩
theorem Ia.unf {w : World} {G : Nat} {a : Ix} (h : Ia w G a) (k : Nat) : w.frozen? ⟨G, k, none⟩ = false := h.bk.unf k
theorem set3h {w wc : World} {B G i j k : Nat} {a b c : Value} (h : Below B w wc) (hG : B ≤ G) : Below B w (((wc.setCell ⟨G, i, none⟩ a).setCell ⟨G, j, none⟩ b).setCell ⟨G, k, none⟩ c) :=
  ((h.setCell (p := ⟨G, i, none⟩) hG _).setCell (p := ⟨G, j, none⟩) hG _).setCell (p := ⟨G, k, none⟩) hG _
theorem Fa.farB {w : World} {G H i j k : Nat} {x : Fx} {arr : Array Value} (h : Fa w G x) (bk : Blk w H arr) (hn : noInt arr) (hne : H ≠ G) {a b c : Value} : Fa (((w.setCell ⟨H, i, none⟩ a).setCell ⟨H, j, none⟩ b).setCell ⟨H, k, none⟩ c) G x := by
  refine ⟨?_, set3at_ok h.ok bk hn⟩
  have hg : (((w.setCell ⟨H, i, none⟩ a).setCell ⟨H, j, none⟩ b).setCell ⟨H, k, none⟩ c).heap[G]? = w.heap[G]? := by
    rw [heap_setCell_other _ _ _ _ (by exact fun e => hne e.symm), heap_setCell_other _ _ _ _ (by exact fun e => hne e.symm), heap_setCell_other _ _ _ _ (by exact fun e => hne e.symm)]
  have hc : ∀ o, (((w.setCell ⟨H, i, none⟩ a).setCell ⟨H, j, none⟩ b).setCell ⟨H, k, none⟩ c).cell? ⟨G, o, none⟩ = w.cell? ⟨G, o, none⟩ := fun o => by unfold World.cell?; rw [hg]
  have hf : ∀ o, (((w.setCell ⟨H, i, none⟩ a).setCell ⟨H, j, none⟩ b).setCell ⟨H, k, none⟩ c).frozen? ⟨G, o, none⟩ = w.frozen? ⟨G, o, none⟩ := fun o => by unfold World.frozen?; rw [hg]
  have b := h.bk
  exact ⟨(hc 0).trans b.c0, (hc 1).trans b.c1, (hc 2).trans b.c2, (hf 0).trans b.f0, (hf 1).trans b.f1, (hf 2).trans b.f2, by simp [World.setCell]; exact b.lt, by rw [hg]; exact b.blk⟩
theorem loL_snoc (l : List Rat) (q p : Rat) : loL (l ++ [p]) q = if p < loL l q then p else loL l q := by
  induction l generalizing q with
  | nil =>
    show (if p ≤ q then p else q) = if p < q then p else q
    by_cases h : p < q
    · rw [if_pos h, if_pos (Rat.le_of_lt h)]
    · rw [if_neg h]
      by_cases h2 : p ≤ q
      · rw [if_pos h2]; exact Rat.le_antisymm h2 (Rat.not_lt.1 h)
      · rw [if_neg h2]
  | cons x l ih => rw [List.cons_append, loL, ih, loL]
theorem hiL_snoc (l : List Rat) (q p : Rat) : hiL (l ++ [p]) q = if hiL l q < p then p else hiL l q := by
  induction l generalizing q with
  | nil =>
    show (if q ≤ p then p else q) = if q < p then p else q
    by_cases h : q < p
    · rw [if_pos h, if_pos (Rat.le_of_lt h)]
    · rw [if_neg h]
      by_cases h2 : q ≤ p
      · rw [if_pos h2]; exact (Rat.le_antisymm h2 (Rat.not_lt.1 h)).symm
      · rw [if_neg h2]
  | cons x l ih => rw [List.cons_append, hiL, ih, hiL]
theorem loP_take {ps : List Rat} {k : Nat} {p : Rat} (hk : 0 < k) (hp : ps[k]? = some p) : loP (ps.take (k + 1)) = if p < loP (ps.take k) then p else loP (ps.take k) := by
  rw [← take_next rfl hp]
  cases h : ps.take k with
  | nil =>
    have := congrArg List.length h
    have hl := (List.getElem?_eq_some_iff.1 hp).1
    rw [List.length_take, List.length_nil] at this
    omega
  | cons x l => exact loL_snoc l x p
theorem hiP_take {ps : List Rat} {k : Nat} {p : Rat} (hk : 0 < k) (hp : ps[k]? = some p) : hiP (ps.take (k + 1)) = if hiP (ps.take k) < p then p else hiP (ps.take k) := by
  rw [← take_next rfl hp]
  cases h : ps.take k with
  | nil =>
    have := congrArg List.length h
    have hl := (List.getElem?_eq_some_iff.1 hp).1
    rw [List.length_take, List.length_nil] at this
    omega
  | cons x l => exact hiL_snoc l x p
theorem loP_one {ps : List Rat} {p : Rat} (hp : ps[0]? = some p) : loP (ps.take 1) = p := by
  cases ps with
  | nil => cases hp
  | cons x l => simp at hp; rw [← hp]; rfl
theorem hiP_one {ps : List Rat} {p : Rat} (hp : ps[0]? = some p) : hiP (ps.take 1) = p := by
  cases ps with
  | nil => cases hp
  | cons x l => simp at hp; rw [← hp]; rfl
/-- a fraction in lowest terms, of that value -/
structure IsP (x : Fx) (q : Rat) : Prop where
  rp : Rp x q
  v : x.v
  f : x.few
theorem IsP.of {x : Fx} {p : Rat} (h : x.b = (okS p).1 ∧ x.xs = (okS p).2.1 ∧ x.ys = (okS p).2.2.1) (hb : ¬ bigQ p) : IsP x p :=
  ⟨Rp.of h, (Rp.of h).v (Sz.of_big hb), ⟨(Rp.of h).l1 (Sz.of_big hb), (Rp.of h).l2 (Sz.of_big hb)⟩⟩
theorem IsP.is {x : Fx} {p : Rat} (h : IsP x p) : x.is (okS p) := ⟨h.rp.b, h.rp.n, h.rp.d⟩
theorem Ia.far {w : World} {G H : Nat} {x : Ix} {y : Fx} (h : Ia w G x) (k : Fa w H y) (hne : H ≠ G) {a b c : Value} : Ia (((w.setCell ⟨H, 0, none⟩ a).setCell ⟨H, 1, none⟩ b).setCell ⟨H, 2, none⟩ c) G x :=
  ⟨((h.bk.far (p := ⟨H, 0, none⟩) (by exact hne) a).far (p := ⟨H, 1, none⟩) (by exact hne) b).far (p := ⟨H, 2, none⟩) (by exact hne) c, ⟨set3_ok h.ok.lo k.bk rfl rfl rfl, set3_ok h.ok.hi k.bk rfl rfl rfl⟩⟩
end Go.Proofs.Ytnmomigaedfdoaa
namespace Go.Proofs.Ytnmomigaedfdoaa
set_option maxRecDepth 100000
open Go.RowKit

/-- a slice that reads as intervals -/
def RdI (w : World) (A : Option Addr) (vs : List Ix) : Prop := 0 < vs.length → ∃ ad, A = some ad ∧ ad.block < w.heap.size ∧
  ∀ k (hk : k < vs.length), w.cell? (ad.add (k * 6)) = some (.bool vs[k].lo.b) ∧ w.cell? ⟨(ad.add (k * 6)).block, (ad.add (k * 6)).off + 1, none⟩ = some (.slice vs[k].lo.A vs[k].lo.xs.length vs[k].lo.c) ∧ w.cell? ⟨(ad.add (k * 6)).block, (ad.add (k * 6)).off + 2, none⟩ = some (.slice vs[k].lo.D vs[k].lo.ys.length vs[k].lo.d) ∧ w.cell? ⟨(ad.add (k * 6)).block, (ad.add (k * 6)).off + 3, none⟩ = some (.bool vs[k].hi.b) ∧ w.cell? ⟨(ad.add (k * 6)).block, (ad.add (k * 6)).off + 4, none⟩ = some (.slice vs[k].hi.A vs[k].hi.xs.length vs[k].hi.c) ∧ w.cell? ⟨(ad.add (k * 6)).block, (ad.add (k * 6)).off + 5, none⟩ = some (.slice vs[k].hi.D vs[k].hi.ys.length vs[k].hi.d)
theorem RdI.below {w w' : World} {A : Option Addr} {vs : List Ix} (h : RdI w A vs) (hb : Below w.heap.size w w') : RdI w' A vs := fun hn => by
  obtain ⟨ad, e, hl, hc⟩ := h hn
  refine ⟨ad, e, Nat.lt_of_lt_of_le hl hb.size, fun k hk => ?_⟩
  obtain ⟨h0, h1, h2, h3, h4, h5⟩ := hc k hk
  have e2 : (ad.add (k * 6)).block = ad.block := block_of_add _ _
  have hx : ∀ o, w'.cell? ⟨(ad.add (k * 6)).block, o, none⟩ = w.cell? ⟨(ad.add (k * 6)).block, o, none⟩ := fun o => hb.cell (p := ⟨(ad.add (k * 6)).block, o, none⟩) (by show (ad.add (k * 6)).block < _; rw [e2]; exact hl)
  exact ⟨(hb.cell (p := ad.add (k * 6)) (by rw [e2]; exact hl)).trans h0, (hx _).trans h1, (hx _).trans h2, (hx _).trans h3, (hx _).trans h4, (hx _).trans h5⟩
def OkI (w : World) (vs : List Ix) : Prop := ∀ v ∈ vs, v.ok w ∧ v.few
theorem OkI.below {w w' : World} {vs : List Ix} (h : OkI w vs) (hb : Below w.heap.size w w') : OkI w' vs := fun v hv => ⟨(h v hv).1.below hb, (h v hv).2⟩
def endsL (vs : List Ix) : List Fx := vs.flatMap (fun a => [a.lo, a.hi])
def allV (vs : List Ix) : Prop := ∀ a ∈ vs, a.v
instance (vs : List Ix) : Decidable (allV vs) := inferInstanceAs (Decidable (∀ a ∈ vs, a.v))
/-- the least interval that holds them all -/
def hullS (vs : List Ix) : IvS := if vs ≠ [] ∧ allV vs then (okS (loP ((endsL vs).map Fx.q)), okS (hiP ((endsL vs).map Fx.q)), 0) else errI 1
end Go.Proofs.Ytnmomigaedfdoaa
namespace Go.Proofs.Ytnmomigaedfdoaa
set_option maxRecDepth 100000
open Go.RowKit

theorem cmpQ_ngy (p q : Rat) : decide (cmpQ p q < 0) = decide (p < q) := by
  rcases cmpQ_cases p q with ⟨h, e⟩ | ⟨h, e⟩ | ⟨h, e⟩ <;> rw [e]
  · rw [decide_eq_true h]; rfl
  · rw [h, decide_eq_false Rat.lt_irrefl]; rfl
  · rw [decide_eq_false (Rat.not_lt.2 (Rat.le_of_lt h))]; rfl
theorem cmpQ_zero (p q : Rat) : decide (cmpQ p q = 0) = decide (p = q) := by
  rcases cmpQ_cases p q with ⟨h, e⟩ | ⟨h, e⟩ | ⟨h, e⟩ <;> rw [e]
  · rw [decide_eq_false (Rat.ne_of_lt h)]; rfl
  · rw [decide_eq_true h]; rfl
  · rw [decide_eq_false (Rat.ne_of_gt h)]; rfl
set_option maxHeartbeats 800000 in
theorem rless_any (w : World) (x1 x2 : Fx) (b : Bool) (ok1 : x1.ok w) (ok2 : x2.ok w) (v1 : x1.v) (v2 : x2.v) (f1 : x1.few) (f2 : x2.few) (hb : decide (x1.q < x2.q) = b) :
    Calls Try.prog 15 #[x1.val, x2.val] w fun e w' => e = .returned (.bool b) ∧ Below w.heap.size w w' := by
  obtain ⟨z, hz⟩ : ∃ z, cmpQ x1.q x2.q = z := ⟨_, rfl⟩
  rw [← cmpQ_ngy, hz] at hb
  have HB := Lib.hid hb
  have HZ := Lib.hid hz
  have V1 := Lib.hid v1
  have V2 := Lib.hid v2
  clear hb hz v1 v2
  go_enter Try.func15, Try.ntmps15
  go_upto_region 1 with fail
  have bw := Below.refl w.heap.size w
  have a1 := (fa_alloc ok1).1
  have bb := (fa_alloc ok1).2
  have sz1 := size_box w (.cells x1.cells 26)
  clear ok1
  generalize (w.alloc (.cells x1.cells 26)) = wA at a1 bb sz1 ⊢
  try replace ok1 := ok1.below bb
  try replace ok2 := ok2.below bb
  try replace a1 := a1.below bb
  replace bw := below_on bw bb bw.size
  clear bb
  have a2 := (fa_alloc ok2).1
  have bb := (fa_alloc ok2).2
  have sz2 := size_box wA (.cells x2.cells 26)
  rw [sz1] at a2 sz2
  clear ok2 sz1
  generalize (wA.alloc (.cells x2.cells 26)) = wm at a2 bb sz2 ⊢
  try replace ok1 := ok1.below bb
  try replace ok2 := ok2.below bb
  try replace a1 := a1.below bb
  try replace a2 := a2.below bb
  replace bw := below_on bw bb bw.size
  clear bb
  clear sz2
  have ci0 := a1.c0
  have ci1 := a1.c1
  have ci2 := a1.c2
  have cj0 := a2.c0
  have cj1 := a2.c1
  have cj2 := a2.c2
  go_wp2_with fail
  clear ci0 ci1 ci2 cj0 cj1 cj2
  refine (rforder_any _ x1 x2 z a1.ok a2.ok V1.out V2.out f1.l f1.m f2.l f2.m HZ.out).mono ?_
  rintro e wn ⟨rfl, bb⟩
  try replace a1 := a1.below bb
  try replace a2 := a2.below bb
  replace bw := below_on bw bb bw.size
  clear bb
  go_wp2_with fail
  go_ret
  exact ⟨ret_bool HB.out, bw⟩
set_option maxHeartbeats 800000 in
theorem rsame_any (w : World) (x1 x2 : Fx) (b : Bool) (ok1 : x1.ok w) (ok2 : x2.ok w) (v1 : x1.v) (v2 : x2.v) (f1 : x1.few) (f2 : x2.few) (hb : decide (x1.q = x2.q) = b) :
    Calls Try.prog 33 #[x1.val, x2.val] w fun e w' => e = .returned (.bool b) ∧ Below w.heap.size w w' := by
  obtain ⟨z, hz⟩ : ∃ z, cmpQ x1.q x2.q = z := ⟨_, rfl⟩
  rw [← cmpQ_zero, hz] at hb
  have HB : Hid ((z == 0) = b) := Lib.hid (by rw [← hb]; exact Bool.beq_eq_decide_eq z 0)
  have HZ := Lib.hid hz
  have V1 := Lib.hid v1
  have V2 := Lib.hid v2
  clear hb hz v1 v2
  go_enter Try.func33, Try.ntmps33
  go_upto_region 1 with fail
  have bw := Below.refl w.heap.size w
  have a1 := (fa_alloc ok1).1
  have bb := (fa_alloc ok1).2
  have sz1 := size_box w (.cells x1.cells 26)
  clear ok1
  generalize (w.alloc (.cells x1.cells 26)) = wA at a1 bb sz1 ⊢
  try replace ok1 := ok1.below bb
  try replace ok2 := ok2.below bb
  try replace a1 := a1.below bb
  replace bw := below_on bw bb bw.size
  clear bb
  have a2 := (fa_alloc ok2).1
  have bb := (fa_alloc ok2).2
  have sz2 := size_box wA (.cells x2.cells 26)
  rw [sz1] at a2 sz2
  clear ok2 sz1
  generalize (wA.alloc (.cells x2.cells 26)) = wm at a2 bb sz2 ⊢
  try replace ok1 := ok1.below bb
  try replace ok2 := ok2.below bb
  try replace a1 := a1.below bb
  try replace a2 := a2.below bb
  replace bw := below_on bw bb bw.size
  clear bb
  clear sz2
  have ci0 := a1.c0
  have ci1 := a1.c1
  have ci2 := a1.c2
  have cj0 := a2.c0
  have cj1 := a2.c1
  have cj2 := a2.c2
  go_wp2_with fail
  clear ci0 ci1 ci2 cj0 cj1 cj2
  refine (rforder_any _ x1 x2 z a1.ok a2.ok V1.out V2.out f1.l f1.m f2.l f2.m HZ.out).mono ?_
  rintro e wn ⟨rfl, bb⟩
  try replace a1 := a1.below bb
  try replace a2 := a2.below bb
  replace bw := below_on bw bb bw.size
  clear bb
  go_wp2_with fail
  go_ret
  exact ⟨ret_bool HB.out, bw⟩
set_option maxHeartbeats 1600000 in
theorem rivalid_any (w : World) (x1 : Ix) (b : Bool) (ok1 : x1.ok w) (f1 : x1.few) (hb : decide x1.v = b) :
    Calls Try.prog 49 #[x1.val] w fun e w' => e = .returned (.bool b) ∧ Below w.heap.size w w' := by
  by_cases h1 : x1.lo.v
  · have V1 := Lib.hid h1
    by_cases h2 : x1.hi.v
    · have V2 := Lib.hid h2
      obtain ⟨z, hz⟩ : ∃ z, cmpQ x1.lo.q x1.hi.q = z := ⟨_, rfl⟩
      have HZ := Lib.hid hz
      have HB : Hid (decide (z ≤ 0) = b) := Lib.hid (by
        rw [← hb, ← hz, cmpQ_le, decide_eq_decide, Ix.v, leF]
        exact ⟨fun h => ⟨h1, h2, h⟩, fun h => h.2.2⟩)
      clear h1 h2 hb hz
      go_enter Try.func49, Try.ntmps49
      go_upto_region 1 with fail
      have bw := Below.refl w.heap.size w
      have a1 := (ia_alloc ok1).1
      have bb := (ia_alloc ok1).2
      have sz1 := size_box w (.cells x1.cells 35)
      clear ok1
      generalize (w.alloc (.cells x1.cells 35)) = wm at a1 bb sz1 ⊢
      try replace ok1 := ok1.below bb
      try replace a1 := a1.below bb
      replace bw := below_on bw bb bw.size
      clear bb
      clear sz1
      have ci0 := a1.c0
      have ci1 := a1.c1
      have ci2 := a1.c2
      have ci3 := a1.c3
      have ci4 := a1.c4
      have ci5 := a1.c5
      go_wp2_with fail
      clear ci0 ci1 ci2 ci3 ci4 ci5
      refine (rfvalid_any _ x1.lo true a1.ok.lo f1.lo.l f1.lo.m (decide_eq_true V1.out)).mono ?_
      rintro e wn ⟨rfl, bb⟩
      try replace a1 := a1.below bb
      replace bw := below_on bw bb bw.size
      clear bb
      have ci0 := a1.c0
      have ci1 := a1.c1
      have ci2 := a1.c2
      have ci3 := a1.c3
      have ci4 := a1.c4
      have ci5 := a1.c5
      go_wp2_with fail
      clear ci0 ci1 ci2 ci3 ci4 ci5
      refine (rfvalid_any _ x1.hi true a1.ok.hi f1.hi.l f1.hi.m (decide_eq_true V2.out)).mono ?_
      rintro e wn ⟨rfl, bb⟩
      try replace a1 := a1.below bb
      replace bw := below_on bw bb bw.size
      clear bb
      have ci0 := a1.c0
      have ci1 := a1.c1
      have ci2 := a1.c2
      have ci3 := a1.c3
      have ci4 := a1.c4
      have ci5 := a1.c5
      go_wp2_with fail
      clear ci0 ci1 ci2 ci3 ci4 ci5
      refine (rforder_any _ x1.lo x1.hi z a1.ok.lo a1.ok.hi V1.out V2.out f1.lo.l f1.lo.m f1.hi.l f1.hi.m HZ.out).mono ?_
      rintro e wn ⟨rfl, bb⟩
      try replace a1 := a1.below bb
      replace bw := below_on bw bb bw.size
      clear bb
      go_wp2_with fail
      go_ret
      exact ⟨ret_bool HB.out, bw⟩
    · have V2 : Hid (¬ x1.hi.v) := h2
      have HB : Hid (false = b) := Lib.hid (by rw [← hb, decide_eq_false]; exact fun h => h2 h.2.1)
      clear h1 h2 hb
      go_enter Try.func49, Try.ntmps49
      go_upto_region 1 with fail
      have bw := Below.refl w.heap.size w
      have a1 := (ia_alloc ok1).1
      have bb := (ia_alloc ok1).2
      have sz1 := size_box w (.cells x1.cells 35)
      clear ok1
      generalize (w.alloc (.cells x1.cells 35)) = wm at a1 bb sz1 ⊢
      try replace ok1 := ok1.below bb
      try replace a1 := a1.below bb
      replace bw := below_on bw bb bw.size
      clear bb
      clear sz1
      have ci0 := a1.c0
      have ci1 := a1.c1
      have ci2 := a1.c2
      have ci3 := a1.c3
      have ci4 := a1.c4
      have ci5 := a1.c5
      go_wp2_with fail
      clear ci0 ci1 ci2 ci3 ci4 ci5
      refine (rfvalid_any _ x1.lo true a1.ok.lo f1.lo.l f1.lo.m (decide_eq_true V1.out)).mono ?_
      rintro e wn ⟨rfl, bb⟩
      try replace a1 := a1.below bb
      replace bw := below_on bw bb bw.size
      clear bb
      have ci0 := a1.c0
      have ci1 := a1.c1
      have ci2 := a1.c2
      have ci3 := a1.c3
      have ci4 := a1.c4
      have ci5 := a1.c5
      go_wp2_with fail
      clear ci0 ci1 ci2 ci3 ci4 ci5
      refine (rfvalid_any _ x1.hi false a1.ok.hi f1.hi.l f1.hi.m (decide_eq_false V2.out)).mono ?_
      rintro e wn ⟨rfl, bb⟩
      try replace a1 := a1.below bb
      replace bw := below_on bw bb bw.size
      clear bb
      go_wp2_with fail
      go_ret
      exact ⟨ret_bool HB.out, bw⟩
  · have V1 : Hid (¬ x1.lo.v) := h1
    have HB : Hid (false = b) := Lib.hid (by rw [← hb, decide_eq_false]; exact fun h => h1 h.1)
    clear h1 hb
    go_enter Try.func49, Try.ntmps49
    go_upto_region 1 with fail
    have bw := Below.refl w.heap.size w
    have a1 := (ia_alloc ok1).1
    have bb := (ia_alloc ok1).2
    have sz1 := size_box w (.cells x1.cells 35)
    clear ok1
    generalize (w.alloc (.cells x1.cells 35)) = wm at a1 bb sz1 ⊢
    try replace ok1 := ok1.below bb
    try replace a1 := a1.below bb
    replace bw := below_on bw bb bw.size
    clear bb
    clear sz1
    have ci0 := a1.c0
    have ci1 := a1.c1
    have ci2 := a1.c2
    have ci3 := a1.c3
    have ci4 := a1.c4
    have ci5 := a1.c5
    go_wp2_with fail
    clear ci0 ci1 ci2 ci3 ci4 ci5
    refine (rfvalid_any _ x1.lo false a1.ok.lo f1.lo.l f1.lo.m (decide_eq_false V1.out)).mono ?_
    rintro e wn ⟨rfl, bb⟩
    try replace a1 := a1.below bb
    replace bw := below_on bw bb bw.size
    clear bb
    go_wp2_with fail
    go_ret
    exact ⟨ret_bool HB.out, bw⟩
set_option maxHeartbeats 1600000 in
theorem rilowest_any (w : World) (x1 : Ix) (S T : FqS) (ok1 : x1.ok w) (f1 : x1.few) (hs : redS x1.lo = S) (ht : redS x1.hi = T) :
    Calls Try.prog 51 #[x1.val] w (IvlNew w S T) := by
  have HS := Lib.hid hs
  have HT := Lib.hid ht
  clear hs ht
  go_enter Try.func51, Try.ntmps51
  go_upto_region 1 with fail
  have bw := Below.refl w.heap.size w
  have a1 := (ia_alloc ok1).1
  have bb := (ia_alloc ok1).2
  have sz1 := size_box w (.cells x1.cells 35)
  clear ok1
  generalize (w.alloc (.cells x1.cells 35)) = wA at a1 bb sz1 ⊢
  try replace ok1 := ok1.below bb
  try replace ok3 := ok3.below bb
  try replace ok4 := ok4.below bb
  try replace a1 := a1.below bb
  replace bw := below_on bw bb bw.size
  clear bb
  have br := (zr_alloc wA).1
  have bb := (zr_alloc wA).2
  rw [sz1] at br
  clear sz1
  generalize (wA.alloc (.cells zcells 35)) = wm at br bb ⊢
  try replace a1 := a1.below bb
  replace bw := below_on bw bb bw.size
  clear bb
  have ci0 := a1.c0
  have ci1 := a1.c1
  have ci2 := a1.c2
  have ci3 := a1.c3
  have ci4 := a1.c4
  have ci5 := a1.c5
  go_wp2_with fail
  clear ci0 ci1 ci2 ci3 ci4 ci5
  refine (rfreduce_any _ x1.lo S a1.ok.lo f1.l1 f1.m1 HS.out).mono ?_
  rintro e wn ⟨x3, rfl, hs3, ok3, bb⟩
  have HS3 := Lib.hid hs3
  clear hs3
  try replace br := br.below bb
  try replace a1 := a1.below bb
  replace bw := below_on bw bb bw.size
  clear bb
  go_upto_region 2 with fail
  have a3 := (fa_alloc ok3).1
  have bb := (fa_alloc ok3).2
  clear ok3
  generalize (wn.alloc (.cells #[.bool x3.b, .slice x3.A x3.xs.length x3.c, .slice x3.D x3.ys.length x3.d] 26)) = wm at a3 bb ⊢
  try replace br := br.below bb
  try replace a1 := a1.below bb
  try replace a3 := a3.below bb
  replace bw := below_on bw bb bw.size
  clear bb
  generalize wn.heap.size = g3 at a3 ⊢
  have ci0 := a1.c0
  have ci1 := a1.c1
  have ci2 := a1.c2
  have ci3 := a1.c3
  have ci4 := a1.c4
  have ci5 := a1.c5
  go_wp2_with fail
  clear ci0 ci1 ci2 ci3 ci4 ci5
  refine (rfreduce_any _ x1.hi T a1.ok.hi f1.l2 f1.m2 HT.out).mono ?_
  rintro e wn ⟨x4, rfl, hs4, ok4, bb⟩
  have HS4 := Lib.hid hs4
  clear hs4
  try replace br := br.below bb
  try replace a1 := a1.below bb
  try replace a3 := a3.below bb
  replace bw := below_on bw bb bw.size
  clear bb
  go_upto_region 3 with fail
  have a4 := (fa_alloc ok4).1
  have bb := (fa_alloc ok4).2
  clear ok4
  generalize (wn.alloc (.cells #[.bool x4.b, .slice x4.A x4.xs.length x4.c, .slice x4.D x4.ys.length x4.d] 26)) = wm at a4 bb ⊢
  try replace br := br.below bb
  try replace a1 := a1.below bb
  try replace a3 := a3.below bb
  try replace a4 := a4.below bb
  replace bw := below_on bw bb bw.size
  clear bb
  generalize wn.heap.size = g4 at a4 ⊢
  have ci0 := a3.c0
  have ci1 := a3.c1
  have ci2 := a3.c2
  have cj0 := a4.c0
  have cj1 := a4.c1
  have cj2 := a4.c2
  have r0 := br.cell 0
  have r1 := br.cell 1
  have r2 := br.cell 2
  have r3 := br.cell 3
  have r4 := br.cell 4
  have r5 := br.cell 5
  have rf0 := br.unf 0
  have rf1 := br.unf 1
  have rf2 := br.unf 2
  have rf3 := br.unf 3
  have rf4 := br.unf 4
  have rf5 := br.unf 5
  simp only [List.getElem?_toArray, List.getElem?_cons_succ, List.getElem?_cons_zero] at r0 r1 r2 r3 r4 r5
  go_wp2_with fail
  refine bodyPost_ret (v := (⟨x3, x4⟩ : Ix).val) (by simp [results, Try.results51, go_sem, r0, r1, r2, r3, r4, r5]) rfl ?_
  exact ⟨⟨x3, x4⟩, rfl, HS3.out, HS4.out, ⟨set6_ok a3.ok br noInt_z, set6_ok a4.ok br noInt_z⟩, set6_below bw (by omega)⟩
end Go.Proofs.Ytnmomigaedfdoaa
namespace Go.Proofs.Ytnmomigaedfdoaa
set_option maxRecDepth 100000
open Go.RowKit

/-- a slice of one number in memory of its own -/
theorem lit_one (w : World) (v : Nat) (hv : v < 4294967296) : Nt (w.alloc (.cells #[.int .u32 v] 82)) (some ⟨w.heap.size, 0, none⟩) 1 [v] ∧ Below w.heap.size w (w.alloc (.cells #[.int .u32 v] 82)) := by
  have hg := Gr.lit (mk := lmv) (e := 82) (B := w.heap.size) w [v] #[.int .u32 v] rfl (by simp [maxLen]) (Nat.le_refl _)
  exact ⟨hg.nt (U32.one hv), (Below.refl _ _).alloc (Nat.le_refl _) _⟩
theorem lit_1 (w : World) : Nt (w.alloc (.cells #[.int .u32 1] 82)) (some ⟨w.heap.size, 0, none⟩) 1 [1] ∧ Below w.heap.size w (w.alloc (.cells #[.int .u32 1] 82)) := lit_one w 1 (by omega)
theorem nv_1 : nv [1] = 1 := rfl
end Go.Proofs.Ytnmomigaedfdoaa
namespace Go.Proofs.Ytnmomigaedfdoaa
set_option maxRecDepth 100000
open Go.RowKit

set_option maxHeartbeats 4000000 in
theorem rfpower_any (w : World) (k : Int) (L : List Nat) (hk2 : 0 ≤ k) (hk3 : k ≤ 256) (hL : lim (2 ^ k.toNat) = L) : Calls Try.prog 34 #[.int .i64 k] w (FracNew w (false, [1], L)) := by
  have hsh : shiftS (nv [1]) k = (L, 0) := by
    rw [nv_1, shiftS_f (lim_len2 (by omega)) (by omega) hk2 hk3, Nat.one_mul, hL]
  have HSH := Lib.hid hsh
  clear hL
  clear hsh
  go_enter Try.func34, Try.ntmps34
  go_upto_region 1 with fail
  have bw := (Below.refl w.heap.size w).alloc (Nat.le_refl _) (.cells #[.bool false, .slice none 0 0, .slice none 0 0] 26)
  have bk := bk3_new w
  generalize (w.alloc (.cells #[.bool false, .slice none 0 0, .slice none 0 0] 26)) = wn at bw bk ⊢
  go_wp2_with fail
  obtain ⟨no, bb⟩ := lit_1 wn
  generalize (wn.alloc (.cells #[.int .u32 1] 82)) = w2 at no bb ⊢
  try replace bx := bx.below bb
  try replace by_ := by_.below bb
  try replace bk := bk.below bb
  try replace okx := okx.below bb
  try replace oky := oky.below bb
  try replace na := na.below bb
  try replace nb := nb.below bb
  try replace nc := nc.below bb
  try replace nd := nd.below bb
  try replace ne := ne.below bb
  replace bw := below_on bw bb bw.size
  clear bb
  generalize wn.heap.size = gl at no ⊢
  refine (rshift_any w2 (some ⟨gl, 0, none⟩) 1 1 k [1] L 0 no rfl (by simp) HSH.out).mono ?_
  rintro e wn ⟨AP, cP, rfl, np, bb⟩
  try replace bx := bx.below bb
  try replace by_ := by_.below bb
  try replace bk := bk.below bb
  try replace okx := okx.below bb
  try replace oky := oky.below bb
  try replace na := na.below bb
  try replace nb := nb.below bb
  try replace nc := nc.below bb
  try replace nd := nd.below bb
  try replace ne := ne.below bb
  replace bw := below_on bw bb bw.size
  clear bb
  clear HSH no
  go_upto_region 2 with fail
  obtain ⟨no, bb⟩ := lit_1 wn
  have bk2 := bk.below bb
  have np2 := np.below bb
  have bw2 := below_on bw bb bw.size
  have tk := bk
  obtain ⟨k0, k1, k2, kf0, kf1, kf2, klt, kb⟩ := tk
  clear kb
  go_wp2_with fail
  refine bodyPost_ret (v := (⟨false, some ⟨wn.heap.size, 0, none⟩, 1, [1], AP, cP, L⟩ : Fx).val) (by simp [results, Try.results34, go_sem, k0, k1, k2, klt]) rfl ?_
  have e : ((((wn.setCell ⟨w.heap.size, 0, none⟩ (.bool false)).setCell ⟨w.heap.size, 1, none⟩ (.slice (some ⟨wn.heap.size, 0, none⟩) 1 1)).setCell ⟨w.heap.size, 2, none⟩ (.slice AP L.length cP)).alloc (.cells #[.int .u32 1] 82)) =
      ((((wn.alloc (.cells #[.int .u32 1] 82)).setCell ⟨w.heap.size, 0, none⟩ (.bool false)).setCell ⟨w.heap.size, 1, none⟩ (.slice (some ⟨wn.heap.size, 0, none⟩) 1 1)).setCell ⟨w.heap.size, 2, none⟩ (.slice AP L.length cP)) := by
    simp [go_sem, klt]
  rw [e]
  exact ⟨⟨false, some ⟨wn.heap.size, 0, none⟩, 1, [1], AP, cP, L⟩, rfl, ⟨rfl, rfl, rfl⟩, set3_ok (x := ⟨false, some ⟨wn.heap.size, 0, none⟩, 1, [1], AP, cP, L⟩) ⟨no, np2⟩ bk2 rfl rfl rfl, set3g bw2 (Nat.le_refl _)⟩
end Go.Proofs.Ytnmomigaedfdoaa
