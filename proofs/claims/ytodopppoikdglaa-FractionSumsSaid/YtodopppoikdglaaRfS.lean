/- The walk of drydockref02.Sum. -/
import Derived.Test.YtodopppoikdglaaFrS
import Derived.Test.YtodopppoikdglaaRfD
namespace Go.Proofs.Ytodopppoikdglaa
open Go.RowKit

theorem Fx.ok.alloc {x : Fx} {w : World} (h : x.ok w) (o : Obj) : x.ok (w.alloc o) := h.below ((Below.refl w.heap.size w).alloc (Nat.le_refl _) o)
theorem below_unalloc {w w' : World} {o : Obj} (h : Below (w.alloc o).heap.size (w.alloc o) w') : Below w.heap.size w w' := below_on ((Below.refl w.heap.size w).alloc (Nat.le_refl _) o) h (by simp)
theorem El.below {w w' : World} {ad : Addr} {j : Nat} {v0 v1 v2 : Value} (h : ad.block < w.heap.size ∧ w.cell? (ad.add j) = some v0 ∧ w.cell? ⟨(ad.add j).block, (ad.add j).off + 1, none⟩ = some v1 ∧ w.cell? ⟨(ad.add j).block, (ad.add j).off + 2, none⟩ = some v2) (hb : Below w.heap.size w w') :
    ad.block < w'.heap.size ∧ w'.cell? (ad.add j) = some v0 ∧ w'.cell? ⟨(ad.add j).block, (ad.add j).off + 1, none⟩ = some v1 ∧ w'.cell? ⟨(ad.add j).block, (ad.add j).off + 2, none⟩ = some v2 := by
  obtain ⟨hl, h0, h1, h2⟩ := h
  have e2 : (ad.add j).block = ad.block := block_of_add _ _
  exact ⟨Nat.lt_of_lt_of_le hl hb.size, (hb.cell (p := ad.add j) (by rw [e2]; exact hl)).trans h0, (hb.cell (p := ⟨(ad.add j).block, (ad.add j).off + 1, none⟩) (by show (ad.add j).block < _; rw [e2]; exact hl)).trans h1, (hb.cell (p := ⟨(ad.add j).block, (ad.add j).off + 2, none⟩) (by show (ad.add j).block < _; rw [e2]; exact hl)).trans h2⟩
theorem El.far {w : World} {ad : Addr} {j G : Nat} {v0 v1 v2 a b c : Value} (h : ad.block < w.heap.size ∧ w.cell? (ad.add j) = some v0 ∧ w.cell? ⟨(ad.add j).block, (ad.add j).off + 1, none⟩ = some v1 ∧ w.cell? ⟨(ad.add j).block, (ad.add j).off + 2, none⟩ = some v2) (hne : ad.block ≠ G) :
    (((w.setCell ⟨G, 0, none⟩ a).setCell ⟨G, 1, none⟩ b).setCell ⟨G, 2, none⟩ c).cell? (ad.add j) = some v0 ∧ (((w.setCell ⟨G, 0, none⟩ a).setCell ⟨G, 1, none⟩ b).setCell ⟨G, 2, none⟩ c).cell? ⟨(ad.add j).block, (ad.add j).off + 1, none⟩ = some v1 ∧ (((w.setCell ⟨G, 0, none⟩ a).setCell ⟨G, 1, none⟩ b).setCell ⟨G, 2, none⟩ c).cell? ⟨(ad.add j).block, (ad.add j).off + 2, none⟩ = some v2 := by
  obtain ⟨hl, h0, h1, h2⟩ := h
  have e2 : (ad.add j).block = ad.block := block_of_add _ _
  have ne : ∀ n m, (⟨G, n, none⟩ : Addr).block ≠ (⟨(ad.add j).block, m, none⟩ : Addr).block := fun n m => by show G ≠ (ad.add j).block; rw [e2]; exact fun e => hne e.symm
  have ne0 : ∀ n, (⟨G, n, none⟩ : Addr).block ≠ (ad.add j).block := fun n => by rw [e2]; exact fun e => hne e.symm
  refine ⟨?_, ?_, ?_⟩
  · rw [World.cell?_setCell_far _ _ _ _ (ne0 2), World.cell?_setCell_far _ _ _ _ (ne0 1), World.cell?_setCell_far _ _ _ _ (ne0 0)]; exact h0
  · rw [World.cell?_setCell_far _ _ _ _ (ne 2 _), World.cell?_setCell_far _ _ _ _ (ne 1 _), World.cell?_setCell_far _ _ _ _ (ne 0 _)]; exact h1
  · rw [World.cell?_setCell_far _ _ _ _ (ne 2 _), World.cell?_setCell_far _ _ _ _ (ne 1 _), World.cell?_setCell_far _ _ _ _ (ne 0 _)]; exact h2
set_option maxRecDepth 100000 in
set_option maxHeartbeats 4000000 in
theorem rfsum_any (w : World) (A : Option Addr) (n c : Nat) (vs : List Fx) (S : Bool × List Nat × List Nat × Int) (hrd : RdF w A vs) (hok : OkF w vs) (hn : n = vs.length) (hc : vs.length ≤ 1000) (hs : sumS vs 0 = S) :
    Calls Try.prog 19 #[.slice A n c] w (FracRes w S) := by
  have HS : Hid (sumS (vs.drop 0) 0 = S) := Lib.hid hs
  have HRD : Hid (RdF w A vs) := hrd
  have HOK : Hid (OkF w vs) := hok
  clear hs hrd hok
  subst hn
  go_enter Try.func19, Try.ntmps19
  go_upto_region 1 with fail
  have bw := (Below.refl w.heap.size w).alloc (Nat.le_refl _) (.cells #[.bool false, .slice none 0 0, .slice none 0 0] 25)
  have bk := bk3_new w
  generalize (w.alloc (.cells #[.bool false, .slice none 0 0, .slice none 0 0] 25)) = wn at bw bk ⊢
  go_wp2_with fail
  refine (rfint_zero wn).mono ?_
  rintro e wn ⟨y, rfl, R0, oky, bb⟩
  try replace bx := bx.below bb
  try replace by_ := by_.below bb
  try replace bk := bk.below bb
  try replace okx := okx.below bb
  try replace oky := oky.below bb
  try replace ok1 := ok1.below bb
  try replace ok2 := ok2.below bb
  try replace ok3 := ok3.below bb
  try replace na := na.below bb
  try replace nb := nb.below bb
  try replace nc := nc.below bb
  try replace nd := nd.below bb
  try replace ne := ne.below bb
  replace bw := below_on bw bb bw.size
  clear bb
  go_upto_region 2 with fail
  have g4l := bk.lt
  have a4 := (fa_alloc oky).1
  have bb := (fa_alloc oky).2
  clear oky
  have z0 : ¬ bigQ (0 : Rat) := by
    have h1 : (lim (0 : Rat).num.natAbs).length ≤ 128 := sz_zero.1
    have h2 : (lim (0 : Rat).den).length ≤ 128 := sz_zero.2
    rw [bigQ]; omega
  generalize (wn.alloc (.cells #[.bool y.b, .slice y.A y.xs.length y.c, .slice y.D y.ys.length y.d] 25)) = wm at a4 bb ⊢
  try replace bx := bx.below bb
  try replace by_ := by_.below bb
  try replace bk := bk.below bb
  try replace okx := okx.below bb
  try replace oky := oky.below bb
  try replace ok1 := ok1.below bb
  try replace ok2 := ok2.below bb
  try replace ok3 := ok3.below bb
  try replace na := na.below bb
  try replace nb := nb.below bb
  try replace nc := nc.below bb
  try replace nd := nd.below bb
  try replace ne := ne.below bb
  replace bw := below_on bw bb bw.size
  clear bb
  generalize wn.heap.size = g4 at a4 g4l ⊢
  go_wp2_with fail
  go_loopw [5] (fun i wr => ∃ (k : Nat) (q : Rat) (y : Fx), k ≤ vs.length ∧ i = .int .i64 k ∧ Rp y q ∧ ¬ bigQ q ∧ sumS (vs.drop k) q = S ∧ Fa wr g4 y ∧ Bk3 wr w.heap.size (.bool false) (.slice none 0 0) (.slice none 0 0) ∧ Below w.heap.size w wr) (fun i _ => vs.length - (intOf i).toNat)
  case atStart => exact ⟨0, 0, y, by omega, rfl, R0, z0, HS.out, a4, bk, bw⟩
  case round =>
    clear a4 bk bw R0 z0 HS
    obtain ⟨k, q, x1, hkl, rfl, R1, zq, hS, a1, bk, bw⟩ := hrel
    have HS := Lib.hid hS
    have HZ := Lib.hid zq
    have Z1 := Lib.hid (Sz.of_big zq)
    have l1 := R1.l1 Z1.out
    have m1 := R1.l2 Z1.out
    have V1 := Lib.hid (R1.v Z1.out)
    clear hS zq
    by_cases hlt : k < vs.length
    · have h' := HRD.out.below bw
      have hk' := HOK.out.below bw
      obtain ⟨ad, rfl, hadl, hcc⟩ := h' (by omega)
      have el := hcc k hlt
      obtain ⟨ok2, l2, m2⟩ := hk' _ (List.getElem_mem hlt)
      have hst := sumS_step hlt q
      rw [HS.out] at hst
      obtain ⟨x2, hx2⟩ : ∃ x2, vs[k] = x2 := ⟨_, rfl⟩
      rw [hx2] at el ok2 l2 m2 hst
      replace el := And.intro hadl el
      have HST := Lib.hid hst
      clear hcc h' hk' hst hx2 hadl
      go_upto_region 5 with fail
      by_cases hv : x2.v
      · by_cases hb : bigQ (q + x2.q)
        · have HE := Lib.hid (addF_big V1.out hv R1.q hb)
          have HS2 : Hid (S = errF 2) := Lib.hid (by rw [HST.out, if_pos hv, if_pos hb])
          have e0 : (errF 2).2.2.2 = 2 := rfl
          clear hv hb
          skip
          go_region_held3 (fun w' => w'.cell? ⟨g4, 0, none⟩ = some (.bool x1.b) ∧ w'.cell? ⟨g4, 1, none⟩ = some (.slice x1.A x1.xs.length x1.c) ∧ w'.cell? ⟨g4, 2, none⟩ = some (.slice x1.D x1.ys.length x1.d) ∧ w'.cell? (ad.add (k * 3)) = some (.bool x2.b) ∧ w'.cell? ⟨(ad.add (k * 3)).block, (ad.add (k * 3)).off + 1, none⟩ = some (.slice x2.A x2.xs.length x2.c) ∧ w'.cell? ⟨(ad.add (k * 3)).block, (ad.add (k * 3)).off + 2, none⟩ = some (.slice x2.D x2.ys.length x2.d))
            (first | with_reducible exact ⟨(a1.below (by with_reducible first | exact Below.refl _ _ | exact (Below.refl _ _).drew | exact (Below.refl _ _).alloc (Nat.le_refl _) _ | exact ((Below.refl _ _).alloc (Nat.le_refl _) _).drew | exact ((Below.refl _ _).drew).alloc (Nat.le_refl _) _)).c0, (a1.below (by with_reducible first | exact Below.refl _ _ | exact (Below.refl _ _).drew | exact (Below.refl _ _).alloc (Nat.le_refl _) _ | exact ((Below.refl _ _).alloc (Nat.le_refl _) _).drew | exact ((Below.refl _ _).drew).alloc (Nat.le_refl _) _)).c1, (a1.below (by with_reducible first | exact Below.refl _ _ | exact (Below.refl _ _).drew | exact (Below.refl _ _).alloc (Nat.le_refl _) _ | exact ((Below.refl _ _).alloc (Nat.le_refl _) _).drew | exact ((Below.refl _ _).drew).alloc (Nat.le_refl _) _)).c2, (El.below el (by with_reducible first | exact Below.refl _ _ | exact (Below.refl _ _).drew | exact (Below.refl _ _).alloc (Nat.le_refl _) _ | exact ((Below.refl _ _).alloc (Nat.le_refl _) _).drew | exact ((Below.refl _ _).drew).alloc (Nat.le_refl _) _)).2.1, (El.below el (by with_reducible first | exact Below.refl _ _ | exact (Below.refl _ _).drew | exact (Below.refl _ _).alloc (Nat.le_refl _) _ | exact ((Below.refl _ _).alloc (Nat.le_refl _) _).drew | exact ((Below.refl _ _).drew).alloc (Nat.le_refl _) _)).2.2.1, (El.below el (by with_reducible first | exact Below.refl _ _ | exact (Below.refl _ _).drew | exact (Below.refl _ _).alloc (Nat.le_refl _) _ | exact ((Below.refl _ _).alloc (Nat.le_refl _) _).drew | exact ((Below.refl _ _).drew).alloc (Nat.le_refl _) _)).2.2.2⟩ | with_reducible exact ⟨cell_set3 a1.c0 (by omega), cell_set3 a1.c1 (by omega), cell_set3 a1.c2 (by omega), (El.far el (by omega)).1, (El.far el (by omega)).2.1, (El.far el (by omega)).2.2⟩ | go_keep)
            (first
                | (go_at_call 23
                   have o1 := a1.lt
                   have o2 := el.1
                   have o3 := bk.lt
                   with_reducible refine (rfadd_any _ x1 x2 (errF 2) (a1.ok.below (by with_reducible first | exact Below.refl _ _ | exact (Below.refl _ _).drew | exact (Below.refl _ _).alloc (Nat.le_refl _) _ | exact ((Below.refl _ _).alloc (Nat.le_refl _) _).drew | exact ((Below.refl _ _).drew).alloc (Nat.le_refl _) _)) (ok2.below (by with_reducible first | exact Below.refl _ _ | exact (Below.refl _ _).drew | exact (Below.refl _ _).alloc (Nat.le_refl _) _ | exact ((Below.refl _ _).alloc (Nat.le_refl _) _).drew | exact ((Below.refl _ _).drew).alloc (Nat.le_refl _) _)) l1 m1 l2 m2 HE.out).mono ?_
                   rintro e wq ⟨x3, rfl, hs3, ok3, bb⟩
                   have HS3 := Lib.hid hs3
                   clear hs3
                   repeat replace bb := below_undrew bb
                   try have nk := (bk3_new _).below bb
                   repeat (first | replace bb := below_unalloc bb | replace bb := below_undrew bb)
                   replace a1 := a1.below bb
                   replace el := El.below el bb
                   replace bk := bk.below bb
                   replace bw := below_on bw bb bw.size
                   clear bb
                   try (have tk := nk; obtain ⟨k0, k1, k2, kf0, kf1, kf2, klt, _⟩ := tk)))
          all_goals (try go_upto_region 6 with fail)
          all_goals first
            | (have hk : Fa wq wr.heap.size Fx.nil := ⟨nk, Fx.nil_ok _⟩
               have a3 := hk.put ok3
               have b1 := a1.far hk (a := .bool x3.b) (b := .slice x3.A x3.xs.length x3.c) (c := .slice x3.D x3.ys.length x3.d) (by omega)
               have b2 := bk.far (H := wr.heap.size) (a := .bool x3.b) (b := .slice x3.A x3.xs.length x3.c) (c := .slice x3.D x3.ys.length x3.d) (by omega)
               have bz := set3g (G := wr.heap.size) (a := .bool x3.b) (b := .slice x3.A x3.xs.length x3.c) (c := .slice x3.D x3.ys.length x3.d) bw (by omega)
               clear a1 el bw k0 k1 k2 kf0 kf1 kf2 ok2 ok3
               generalize (((wq.setCell ⟨wr.heap.size, 0, none⟩ (.bool x3.b)).setCell ⟨wr.heap.size, 1, none⟩ (.slice x3.A x3.xs.length x3.c)).setCell ⟨wr.heap.size, 2, none⟩ (.slice x3.D x3.ys.length x3.d)) = wm at *
               have a1 := b1
               replace bk := b2
               have bw := bz
               clear b1 b2 bz hk nk
               generalize wr.heap.size = g3 at *)
            | (have a3 := (fa_alloc ok3).1
               have bb := (fa_alloc ok3).2
               clear ok3 ok2 el
               generalize (wq.alloc (.cells #[.bool x3.b, .slice x3.A x3.xs.length x3.c, .slice x3.D x3.ys.length x3.d] 25)) = wm at a3 bb ⊢
               replace bk := bk.below bb
               try replace a1 := a1.below bb
               try replace a2 := a2.below bb
               try replace a3 := a3.below bb
               try replace a4 := a4.below bb
               try replace a5 := a5.below bb
               try replace a6 := a6.below bb
               try replace a7 := a7.below bb
               try replace a8 := a8.below bb
               try replace a9 := a9.below bb
               try replace a10 := a10.below bb
               try replace a11 := a11.below bb
               try replace a12 := a12.below bb
               try replace a13 := a13.below bb
               try replace a14 := a14.below bb
               try replace a15 := a15.below bb
               try replace a16 := a16.below bb
               try replace a17 := a17.below bb
               try replace a18 := a18.below bb
               try replace a19 := a19.below bb
               try replace a20 := a20.below bb
               replace bw := below_on bw bb bw.size
               clear bb
               generalize wq.heap.size = g3 at a3 ⊢)
          all_goals
            have tk := bk
            obtain ⟨k0, k1, k2, kf0, kf1, kf2, klt, kb⟩ := tk
            clear kb
            go_wp2_with fail
            refine bodyPost_ret (v := .tuple #[(Fx.nil : Fx).val, .int .i64 2]) (by simp [results, Try.results19, go_sem, k0, k1, k2]) rfl ?_
            rw [HS2.out]
            exact ⟨Fx.nil, rfl, ⟨rfl, rfl, rfl⟩, Fx.nil_ok _, set3g bw (by omega)⟩
        · have Z3 := Lib.hid (Sz.of_big hb)
          have HE : Hid (addF x1 x2 = okS (q + x2.q)) := Lib.hid (addF_ok V1.out hv R1.q rfl Z3.out)
          have HS2 : Hid (S = sumS (vs.drop (k + 1)) (q + x2.q)) := Lib.hid (by rw [HST.out, if_pos hv, if_neg hb])
          have HB : Hid (¬ bigQ (q + x2.q)) := hb
          have e0 : (okS (q + x2.q)).2.2.2 = 0 := rfl
          clear hv hb
          skip
          go_region_held3 (fun w' => w'.cell? ⟨g4, 0, none⟩ = some (.bool x1.b) ∧ w'.cell? ⟨g4, 1, none⟩ = some (.slice x1.A x1.xs.length x1.c) ∧ w'.cell? ⟨g4, 2, none⟩ = some (.slice x1.D x1.ys.length x1.d) ∧ w'.cell? (ad.add (k * 3)) = some (.bool x2.b) ∧ w'.cell? ⟨(ad.add (k * 3)).block, (ad.add (k * 3)).off + 1, none⟩ = some (.slice x2.A x2.xs.length x2.c) ∧ w'.cell? ⟨(ad.add (k * 3)).block, (ad.add (k * 3)).off + 2, none⟩ = some (.slice x2.D x2.ys.length x2.d))
            (first | with_reducible exact ⟨(a1.below (by with_reducible first | exact Below.refl _ _ | exact (Below.refl _ _).drew | exact (Below.refl _ _).alloc (Nat.le_refl _) _ | exact ((Below.refl _ _).alloc (Nat.le_refl _) _).drew | exact ((Below.refl _ _).drew).alloc (Nat.le_refl _) _)).c0, (a1.below (by with_reducible first | exact Below.refl _ _ | exact (Below.refl _ _).drew | exact (Below.refl _ _).alloc (Nat.le_refl _) _ | exact ((Below.refl _ _).alloc (Nat.le_refl _) _).drew | exact ((Below.refl _ _).drew).alloc (Nat.le_refl _) _)).c1, (a1.below (by with_reducible first | exact Below.refl _ _ | exact (Below.refl _ _).drew | exact (Below.refl _ _).alloc (Nat.le_refl _) _ | exact ((Below.refl _ _).alloc (Nat.le_refl _) _).drew | exact ((Below.refl _ _).drew).alloc (Nat.le_refl _) _)).c2, (El.below el (by with_reducible first | exact Below.refl _ _ | exact (Below.refl _ _).drew | exact (Below.refl _ _).alloc (Nat.le_refl _) _ | exact ((Below.refl _ _).alloc (Nat.le_refl _) _).drew | exact ((Below.refl _ _).drew).alloc (Nat.le_refl _) _)).2.1, (El.below el (by with_reducible first | exact Below.refl _ _ | exact (Below.refl _ _).drew | exact (Below.refl _ _).alloc (Nat.le_refl _) _ | exact ((Below.refl _ _).alloc (Nat.le_refl _) _).drew | exact ((Below.refl _ _).drew).alloc (Nat.le_refl _) _)).2.2.1, (El.below el (by with_reducible first | exact Below.refl _ _ | exact (Below.refl _ _).drew | exact (Below.refl _ _).alloc (Nat.le_refl _) _ | exact ((Below.refl _ _).alloc (Nat.le_refl _) _).drew | exact ((Below.refl _ _).drew).alloc (Nat.le_refl _) _)).2.2.2⟩ | with_reducible exact ⟨cell_set3 a1.c0 (by omega), cell_set3 a1.c1 (by omega), cell_set3 a1.c2 (by omega), (El.far el (by omega)).1, (El.far el (by omega)).2.1, (El.far el (by omega)).2.2⟩ | go_keep)
            (first
                | (go_at_call 23
                   have o1 := a1.lt
                   have o2 := el.1
                   have o3 := bk.lt
                   with_reducible refine (rfadd_any _ x1 x2 (okS (q + x2.q)) (a1.ok.below (by with_reducible first | exact Below.refl _ _ | exact (Below.refl _ _).drew | exact (Below.refl _ _).alloc (Nat.le_refl _) _ | exact ((Below.refl _ _).alloc (Nat.le_refl _) _).drew | exact ((Below.refl _ _).drew).alloc (Nat.le_refl _) _)) (ok2.below (by with_reducible first | exact Below.refl _ _ | exact (Below.refl _ _).drew | exact (Below.refl _ _).alloc (Nat.le_refl _) _ | exact ((Below.refl _ _).alloc (Nat.le_refl _) _).drew | exact ((Below.refl _ _).drew).alloc (Nat.le_refl _) _)) l1 m1 l2 m2 HE.out).mono ?_
                   rintro e wq ⟨x3, rfl, hs3, ok3, bb⟩
                   have HS3 := Lib.hid hs3
                   clear hs3
                   repeat replace bb := below_undrew bb
                   try have nk := (bk3_new _).below bb
                   repeat (first | replace bb := below_unalloc bb | replace bb := below_undrew bb)
                   replace a1 := a1.below bb
                   replace el := El.below el bb
                   replace bk := bk.below bb
                   replace bw := below_on bw bb bw.size
                   clear bb
                   try (have tk := nk; obtain ⟨k0, k1, k2, kf0, kf1, kf2, klt, _⟩ := tk)))
          all_goals (try go_upto_region 6 with fail)
          all_goals first
            | (have hk : Fa wq wr.heap.size Fx.nil := ⟨nk, Fx.nil_ok _⟩
               have a3 := hk.put ok3
               have b1 := a1.far hk (a := .bool x3.b) (b := .slice x3.A x3.xs.length x3.c) (c := .slice x3.D x3.ys.length x3.d) (by omega)
               have b2 := bk.far (H := wr.heap.size) (a := .bool x3.b) (b := .slice x3.A x3.xs.length x3.c) (c := .slice x3.D x3.ys.length x3.d) (by omega)
               have bz := set3g (G := wr.heap.size) (a := .bool x3.b) (b := .slice x3.A x3.xs.length x3.c) (c := .slice x3.D x3.ys.length x3.d) bw (by omega)
               clear a1 el bw k0 k1 k2 kf0 kf1 kf2 ok2 ok3
               generalize (((wq.setCell ⟨wr.heap.size, 0, none⟩ (.bool x3.b)).setCell ⟨wr.heap.size, 1, none⟩ (.slice x3.A x3.xs.length x3.c)).setCell ⟨wr.heap.size, 2, none⟩ (.slice x3.D x3.ys.length x3.d)) = wm at *
               have a1 := b1
               replace bk := b2
               have bw := bz
               clear b1 b2 bz hk nk
               generalize wr.heap.size = g3 at *)
            | (have a3 := (fa_alloc ok3).1
               have bb := (fa_alloc ok3).2
               clear ok3 ok2 el
               generalize (wq.alloc (.cells #[.bool x3.b, .slice x3.A x3.xs.length x3.c, .slice x3.D x3.ys.length x3.d] 25)) = wm at a3 bb ⊢
               replace bk := bk.below bb
               try replace a1 := a1.below bb
               try replace a2 := a2.below bb
               try replace a3 := a3.below bb
               try replace a4 := a4.below bb
               try replace a5 := a5.below bb
               try replace a6 := a6.below bb
               try replace a7 := a7.below bb
               try replace a8 := a8.below bb
               try replace a9 := a9.below bb
               try replace a10 := a10.below bb
               try replace a11 := a11.below bb
               try replace a12 := a12.below bb
               try replace a13 := a13.below bb
               try replace a14 := a14.below bb
               try replace a15 := a15.below bb
               try replace a16 := a16.below bb
               try replace a17 := a17.below bb
               try replace a18 := a18.below bb
               try replace a19 := a19.below bb
               try replace a20 := a20.below bb
               replace bw := below_on bw bb bw.size
               clear bb
               generalize wq.heap.size = g3 at a3 ⊢)
          all_goals
            have R3 := Rp.of HS3.out
            go_upto_region 8 with fail
            have ci0 := a3.c0
            have ci1 := a3.c1
            have ci2 := a3.c2
            have tk := a1.bk
            obtain ⟨k0, k1, k2, kf0, kf1, kf2, klt, kb⟩ := tk
            clear kb
            go_wp2_with fail
            go_roundw
            case rel => exact ⟨k + 1, q + x2.q, x3, by omega, by go_num, R3, HB.out, HS2.out.symm, a1.put a3.ok, bk.far (by omega), set3g bw (by omega)⟩
            case measure => simp [intOf]; omega
      · have HE := Lib.hid (addF_err V1.out R1.q hv)
        have HS2 : Hid (S = errF 1) := Lib.hid (by rw [HST.out, if_neg hv])
        have e0 : (errF 1).2.2.2 = 1 := rfl
        clear hv
        skip
        go_region_held3 (fun w' => w'.cell? ⟨g4, 0, none⟩ = some (.bool x1.b) ∧ w'.cell? ⟨g4, 1, none⟩ = some (.slice x1.A x1.xs.length x1.c) ∧ w'.cell? ⟨g4, 2, none⟩ = some (.slice x1.D x1.ys.length x1.d) ∧ w'.cell? (ad.add (k * 3)) = some (.bool x2.b) ∧ w'.cell? ⟨(ad.add (k * 3)).block, (ad.add (k * 3)).off + 1, none⟩ = some (.slice x2.A x2.xs.length x2.c) ∧ w'.cell? ⟨(ad.add (k * 3)).block, (ad.add (k * 3)).off + 2, none⟩ = some (.slice x2.D x2.ys.length x2.d))
          (first | with_reducible exact ⟨(a1.below (by with_reducible first | exact Below.refl _ _ | exact (Below.refl _ _).drew | exact (Below.refl _ _).alloc (Nat.le_refl _) _ | exact ((Below.refl _ _).alloc (Nat.le_refl _) _).drew | exact ((Below.refl _ _).drew).alloc (Nat.le_refl _) _)).c0, (a1.below (by with_reducible first | exact Below.refl _ _ | exact (Below.refl _ _).drew | exact (Below.refl _ _).alloc (Nat.le_refl _) _ | exact ((Below.refl _ _).alloc (Nat.le_refl _) _).drew | exact ((Below.refl _ _).drew).alloc (Nat.le_refl _) _)).c1, (a1.below (by with_reducible first | exact Below.refl _ _ | exact (Below.refl _ _).drew | exact (Below.refl _ _).alloc (Nat.le_refl _) _ | exact ((Below.refl _ _).alloc (Nat.le_refl _) _).drew | exact ((Below.refl _ _).drew).alloc (Nat.le_refl _) _)).c2, (El.below el (by with_reducible first | exact Below.refl _ _ | exact (Below.refl _ _).drew | exact (Below.refl _ _).alloc (Nat.le_refl _) _ | exact ((Below.refl _ _).alloc (Nat.le_refl _) _).drew | exact ((Below.refl _ _).drew).alloc (Nat.le_refl _) _)).2.1, (El.below el (by with_reducible first | exact Below.refl _ _ | exact (Below.refl _ _).drew | exact (Below.refl _ _).alloc (Nat.le_refl _) _ | exact ((Below.refl _ _).alloc (Nat.le_refl _) _).drew | exact ((Below.refl _ _).drew).alloc (Nat.le_refl _) _)).2.2.1, (El.below el (by with_reducible first | exact Below.refl _ _ | exact (Below.refl _ _).drew | exact (Below.refl _ _).alloc (Nat.le_refl _) _ | exact ((Below.refl _ _).alloc (Nat.le_refl _) _).drew | exact ((Below.refl _ _).drew).alloc (Nat.le_refl _) _)).2.2.2⟩ | with_reducible exact ⟨cell_set3 a1.c0 (by omega), cell_set3 a1.c1 (by omega), cell_set3 a1.c2 (by omega), (El.far el (by omega)).1, (El.far el (by omega)).2.1, (El.far el (by omega)).2.2⟩ | go_keep)
          (first
              | (go_at_call 23
                 have o1 := a1.lt
                 have o2 := el.1
                 have o3 := bk.lt
                 with_reducible refine (rfadd_any _ x1 x2 (errF 1) (a1.ok.below (by with_reducible first | exact Below.refl _ _ | exact (Below.refl _ _).drew | exact (Below.refl _ _).alloc (Nat.le_refl _) _ | exact ((Below.refl _ _).alloc (Nat.le_refl _) _).drew | exact ((Below.refl _ _).drew).alloc (Nat.le_refl _) _)) (ok2.below (by with_reducible first | exact Below.refl _ _ | exact (Below.refl _ _).drew | exact (Below.refl _ _).alloc (Nat.le_refl _) _ | exact ((Below.refl _ _).alloc (Nat.le_refl _) _).drew | exact ((Below.refl _ _).drew).alloc (Nat.le_refl _) _)) l1 m1 l2 m2 HE.out).mono ?_
                 rintro e wq ⟨x3, rfl, hs3, ok3, bb⟩
                 have HS3 := Lib.hid hs3
                 clear hs3
                 repeat replace bb := below_undrew bb
                 try have nk := (bk3_new _).below bb
                 repeat (first | replace bb := below_unalloc bb | replace bb := below_undrew bb)
                 replace a1 := a1.below bb
                 replace el := El.below el bb
                 replace bk := bk.below bb
                 replace bw := below_on bw bb bw.size
                 clear bb
                 try (have tk := nk; obtain ⟨k0, k1, k2, kf0, kf1, kf2, klt, _⟩ := tk)))
        all_goals (try go_upto_region 6 with fail)
        all_goals first
          | (have hk : Fa wq wr.heap.size Fx.nil := ⟨nk, Fx.nil_ok _⟩
             have a3 := hk.put ok3
             have b1 := a1.far hk (a := .bool x3.b) (b := .slice x3.A x3.xs.length x3.c) (c := .slice x3.D x3.ys.length x3.d) (by omega)
             have b2 := bk.far (H := wr.heap.size) (a := .bool x3.b) (b := .slice x3.A x3.xs.length x3.c) (c := .slice x3.D x3.ys.length x3.d) (by omega)
             have bz := set3g (G := wr.heap.size) (a := .bool x3.b) (b := .slice x3.A x3.xs.length x3.c) (c := .slice x3.D x3.ys.length x3.d) bw (by omega)
             clear a1 el bw k0 k1 k2 kf0 kf1 kf2 ok2 ok3
             generalize (((wq.setCell ⟨wr.heap.size, 0, none⟩ (.bool x3.b)).setCell ⟨wr.heap.size, 1, none⟩ (.slice x3.A x3.xs.length x3.c)).setCell ⟨wr.heap.size, 2, none⟩ (.slice x3.D x3.ys.length x3.d)) = wm at *
             have a1 := b1
             replace bk := b2
             have bw := bz
             clear b1 b2 bz hk nk
             generalize wr.heap.size = g3 at *)
          | (have a3 := (fa_alloc ok3).1
             have bb := (fa_alloc ok3).2
             clear ok3 ok2 el
             generalize (wq.alloc (.cells #[.bool x3.b, .slice x3.A x3.xs.length x3.c, .slice x3.D x3.ys.length x3.d] 25)) = wm at a3 bb ⊢
             replace bk := bk.below bb
             try replace a1 := a1.below bb
             try replace a2 := a2.below bb
             try replace a3 := a3.below bb
             try replace a4 := a4.below bb
             try replace a5 := a5.below bb
             try replace a6 := a6.below bb
             try replace a7 := a7.below bb
             try replace a8 := a8.below bb
             try replace a9 := a9.below bb
             try replace a10 := a10.below bb
             try replace a11 := a11.below bb
             try replace a12 := a12.below bb
             try replace a13 := a13.below bb
             try replace a14 := a14.below bb
             try replace a15 := a15.below bb
             try replace a16 := a16.below bb
             try replace a17 := a17.below bb
             try replace a18 := a18.below bb
             try replace a19 := a19.below bb
             try replace a20 := a20.below bb
             replace bw := below_on bw bb bw.size
             clear bb
             generalize wq.heap.size = g3 at a3 ⊢)
        all_goals
          have tk := bk
          obtain ⟨k0, k1, k2, kf0, kf1, kf2, klt, kb⟩ := tk
          clear kb
          go_wp2_with fail
          refine bodyPost_ret (v := .tuple #[(Fx.nil : Fx).val, .int .i64 1]) (by simp [results, Try.results19, go_sem, k0, k1, k2]) rfl ?_
          rw [HS2.out]
          exact ⟨Fx.nil, rfl, ⟨rfl, rfl, rfl⟩, Fx.nil_ok _, set3g bw (by omega)⟩
    · have hS2 : S = okS q := by rw [← HS.out, List.drop_of_length_le (by omega), sumS]
      have HS2 := Lib.hid hS2
      clear hS2
      have ci0 := a1.c0
      have ci1 := a1.c1
      have ci2 := a1.c2
      have tk := bk
      obtain ⟨k0, k1, k2, kf0, kf1, kf2, klt, kb⟩ := tk
      clear kb
      go_wp2_with fail
      refine bodyPost_ret (v := .tuple #[(x1 : Fx).val, .int .i64 0]) (by simp [results, Try.results19, go_sem, k0, k1, k2]) rfl ?_
      rw [HS2.out]
      exact ⟨x1, rfl, ⟨R1.b, R1.n, R1.d⟩, set3_ok a1.ok bk rfl rfl rfl, set3g bw (by omega)⟩
end Go.Proofs.Ytodopppoikdglaa
