/- The walk of fraction.Sum. Appending fractions onto a row of the call's own. -/
import Derived.Test.YthdfflbhogfejaaLwD
import Derived.Maps.AppendAt
namespace Go.Proofs.Ythdfflbhogfejaa
open Go.RowKit

/-- what Sum reckons from the sum q on -/
def sumS : List Fx → Rat → Bool × List Nat × List Nat × Int
  | [], q => okS q
  | x :: vs, q => if x.v then (if bigQ (q + x.q) then errF 2 else sumS vs (q + x.q)) else errF 1
set_option maxRecDepth 100000 in
theorem RdF.below {w w' : World} {A : Option Addr} {vs : List Fx} (h : RdF w A vs) (hb : Below w.heap.size w w') : RdF w' A vs := fun hn => by
  obtain ⟨ad, e, hl, hc⟩ := h hn
  refine ⟨ad, e, Nat.lt_of_lt_of_le hl hb.size, fun k hk => ?_⟩
  obtain ⟨h0, h1, h2⟩ := hc k hk
  have e2 : (ad.add (k * 3)).block = ad.block := block_of_add _ _
  exact ⟨(hb.cell (p := ad.add (k * 3)) (by rw [e2]; exact hl)).trans h0, (hb.cell (p := ⟨(ad.add (k * 3)).block, (ad.add (k * 3)).off + 1, none⟩) (by show (ad.add (k * 3)).block < _; rw [e2]; exact hl)).trans h1, (hb.cell (p := ⟨(ad.add (k * 3)).block, (ad.add (k * 3)).off + 2, none⟩) (by show (ad.add (k * 3)).block < _; rw [e2]; exact hl)).trans h2⟩
/-- the elements hold numbers -/
def OkF (w : World) (vs : List Fx) : Prop := ∀ v ∈ vs, v.ok w ∧ v.xs.length ≤ 10000 ∧ v.ys.length ≤ 10000
set_option maxRecDepth 100000 in
theorem OkF.below {w w' : World} {vs : List Fx} (h : OkF w vs) (hb : Below w.heap.size w w') : OkF w' vs := fun v hv => ⟨(h v hv).1.below hb, (h v hv).2⟩
set_option maxRecDepth 100000 in
theorem sumS_step {vs : List Fx} {k : Nat} (h : k < vs.length) (q : Rat) : sumS (vs.drop k) q = if vs[k].v then (if bigQ (q + vs[k].q) then errF 2 else sumS (vs.drop (k + 1)) (q + vs[k].q)) else errF 1 := by
  rw [List.drop_eq_getElem_cons h, sumS]
set_option maxRecDepth 100000 in
theorem addF_err {x y : Fx} {q : Rat} (_hx : x.v) (_ex : x.q = q) (h : ¬ y.v) : addF x y = errF 1 := by rw [addF, if_neg (fun e => h e.2)]
set_option maxRecDepth 100000 in
theorem addF_big {x y : Fx} {q : Rat} (hx : x.v) (hy : y.v) (ex : x.q = q) (h : bigQ (q + y.q)) : addF x y = errF 2 := by
  rw [addF, if_pos ⟨hx, hy⟩, ex, frS, if_pos h]; rfl
set_option maxRecDepth 100000 in
theorem Sz.of_big {q : Rat} (h : ¬ bigQ q) : Sz q 128 128 := by
  rw [bigQ] at h
  constructor <;> omega
set_option maxRecDepth 100000 in
theorem fa_build' {w : World} {b : Bool} {A D : Option Addr} {c d n m : Nat} {xs ys : List Nat} (hA : Nt w A c xs) (hD : Nt w D d ys) (hn : n = xs.length) (hm : m = ys.length) : ∃ x : Fx, (x.b = b ∧ x.xs = xs ∧ x.ys = ys) ∧ Fa (w.alloc (.cells #[.bool b, .slice A n c, .slice D m d] 41)) w.heap.size x ∧ Below w.heap.size w (w.alloc (.cells #[.bool b, .slice A n c, .slice D m d] 41)) := by
  subst hn hm
  have h : (⟨b, A, c, xs, D, d, ys⟩ : Fx).ok w := ⟨hA, hD⟩
  exact ⟨⟨b, A, c, xs, D, d, ys⟩, ⟨rfl, rfl, rfl⟩, (fa_alloc h).1, (fa_alloc h).2⟩
set_option maxRecDepth 100000 in
set_option maxHeartbeats 4000000 in
theorem fsum_any (w : World) (A : Option Addr) (n c : Nat) (vs : List Fx) (S : Bool × List Nat × List Nat × Int) (hrd : RdF w A vs) (hok : OkF w vs) (hn : n = vs.length) (hc : vs.length ≤ 1000) (hs : sumS vs 0 = S) :
    Calls Try.prog 67 #[.slice A n c] w (FracRes w S) := by
  have HS : Hid (sumS (vs.drop 0) 0 = S) := Lib.hid hs
  have HRD : Hid (RdF w A vs) := hrd
  have HOK : Hid (OkF w vs) := hok
  clear hs hrd hok
  subst hn
  go_enter Try.func67, Try.ntmps67
  go_upto_region 1 with fail
  have bw := (Below.refl w.heap.size w).alloc (Nat.le_refl _) (.cells #[.bool false, .slice none 0 0, .slice none 0 0] 41)
  have bk := bk3_new w
  generalize (w.alloc (.cells #[.bool false, .slice none 0 0, .slice none 0 0] 41)) = wn at bw bk ⊢
  go_wp2_with fail
  refine (make_one wn).mono ?_
  rintro e wn ⟨A1, c1, rfl, no, bb⟩
  try replace bx := bx.below bb
  try replace by_ := by_.below bb
  try replace bk := bk.below bb
  try replace okx := okx.below bb
  try replace oky := oky.below bb
  try replace ok2 := ok2.below bb
  try replace ok3 := ok3.below bb
  try replace na := na.below bb
  try replace nb := nb.below bb
  try replace nc := nc.below bb
  try replace nd := nd.below bb
  try replace ne := ne.below bb
  replace bw := below_on bw bb bw.size
  clear bb
  go_upto_region 2 with fail
  have g4l := bk.lt
  obtain ⟨y, hy, a4, bb⟩ := fa_build' (b := false) (Nt.nil wn none 0 (by show 0 ≤ _; omega)) no (n := 0) (m := (lim 1).length) rfl rfl
  have R0 : Rp y 0 := ⟨hy.1, by rw [hy.2.1]; exact lim_zero.symm, by rw [hy.2.2]; rfl⟩
  have z0 : ¬ bigQ (0 : Rat) := by
    have h1 : (lim (0 : Rat).num.natAbs).length ≤ 128 := sz_zero.1
    have h2 : (lim (0 : Rat).den).length ≤ 128 := sz_zero.2
    rw [bigQ]; omega
  clear hy no
  generalize (wn.alloc (.cells #[.bool false, .slice none 0 0, .slice A1 (lim 1).length c1] 41)) = wm at a4 bb ⊢
  try replace bx := bx.below bb
  try replace by_ := by_.below bb
  try replace bk := bk.below bb
  try replace okx := okx.below bb
  try replace oky := oky.below bb
  try replace ok2 := ok2.below bb
  try replace ok3 := ok3.below bb
  try replace na := na.below bb
  try replace nb := nb.below bb
  try replace nc := nc.below bb
  try replace nd := nd.below bb
  try replace ne := ne.below bb
  replace bw := below_on bw bb bw.size
  clear bb
  generalize wn.heap.size = g4 at a4 g4l ⊢
  go_wp2_with fail
  go_loopw [13] (fun i wr => ∃ (k : Nat) (q : Rat) (y : Fx), k ≤ vs.length ∧ i = .int .i64 k ∧ Rp y q ∧ ¬ bigQ q ∧ sumS (vs.drop k) q = S ∧ Fa wr g4 y ∧ Bk3 wr w.heap.size (.bool false) (.slice none 0 0) (.slice none 0 0) ∧ Below w.heap.size w wr) (fun i _ => vs.length - (intOf i).toNat)
  case atStart => exact ⟨0, 0, y, by omega, rfl, R0, z0, HS.out, a4, bk, bw⟩
  case round =>
    clear a4 bk bw R0 z0 HS
    obtain ⟨k, q, x1, hkl, rfl, R1, zq, hS, a1, bk, bw⟩ := hrel
    have HS := Lib.hid hS
    have HZ := Lib.hid zq
    have Z1 := Lib.hid (Sz.of_big zq)
    have l1 := R1.l1 Z1.out
    have m1 := R1.l2 Z1.out
    have V1 := Lib.hid (R1.v Z1.out)
    clear hS zq
    by_cases hlt : k < vs.length
    · have h' := HRD.out.below bw
      have hk' := HOK.out.below bw
      obtain ⟨ad, rfl, _, hcc⟩ := h' (by omega)
      obtain ⟨hc0, hc1, hc2⟩ := hcc k hlt
      obtain ⟨ok2, l2, m2⟩ := hk' _ (List.getElem_mem hlt)
      have hst := sumS_step hlt q
      rw [HS.out] at hst
      obtain ⟨x2, hx2⟩ : ∃ x2, vs[k] = x2 := ⟨_, rfl⟩
      rw [hx2] at hc0 hc1 hc2 ok2 l2 m2 hst
      have HST := Lib.hid hst
      clear hcc h' hk' hst hx2
      go_upto_region 5 with fail
      clear hc0 hc1 hc2
      have a2 := (fa_alloc ok2).1
      have bb := (fa_alloc ok2).2
      clear ok2
      generalize (wr.alloc (.cells #[.bool x2.b, .slice x2.A x2.xs.length x2.c, .slice x2.D x2.ys.length x2.d] 41)) = wm at a2 bb ⊢
      replace bk := bk.below bb
      try replace a1 := a1.below bb
      try replace a2 := a2.below bb
      try replace a4 := a4.below bb
      replace bw := below_on bw bb bw.size
      clear bb
      generalize wr.heap.size = g2 at a2 ⊢
      by_cases hv : x2.v
      · by_cases hb : bigQ (q + x2.q)
        · have HE := Lib.hid (addF_big V1.out hv R1.q hb)
          have HS2 : Hid (S = errF 2) := Lib.hid (by rw [HST.out, if_pos hv, if_pos hb])
          have e0 : (errF 2).2.2.2 = 2 := rfl
          clear hv hb
          skip
          have ci0 := a1.c0
          have ci1 := a1.c1
          have ci2 := a1.c2
          have cj0 := a2.c0
          have cj1 := a2.c1
          have cj2 := a2.c2
          go_wp2_with fail
          clear ci0 ci1 ci2 cj0 cj1 cj2
          refine (fadd_any _ x1 x2 (errF 2) a1.ok a2.ok l1 m1 l2 m2 HE.out).mono ?_
          rintro e wn ⟨x3, rfl, hs3, ok3, bb⟩
          have HS3 := Lib.hid hs3
          clear hs3
          replace bk := bk.below bb
          try replace a1 := a1.below bb
          try replace a2 := a2.below bb
          try replace a4 := a4.below bb
          replace bw := below_on bw bb bw.size
          clear bb
          go_upto_region 6 with fail
          have a3 := (fa_alloc ok3).1
          have bb := (fa_alloc ok3).2
          clear ok3
          generalize (wn.alloc (.cells #[.bool x3.b, .slice x3.A x3.xs.length x3.c, .slice x3.D x3.ys.length x3.d] 41)) = wm at a3 bb ⊢
          replace bk := bk.below bb
          try replace a1 := a1.below bb
          try replace a2 := a2.below bb
          try replace a3 := a3.below bb
          try replace a4 := a4.below bb
          replace bw := below_on bw bb bw.size
          clear bb
          generalize wn.heap.size = g3 at a3 ⊢
          have tk := bk
          obtain ⟨k0, k1, k2, kf0, kf1, kf2, klt, kb⟩ := tk
          clear kb
          go_wp2_with fail
          refine bodyPost_ret (v := .tuple #[(Fx.nil : Fx).val, .int .i64 2]) (by simp [results, Try.results67, go_sem, k0, k1, k2]) rfl ?_
          rw [HS2.out]
          exact ⟨Fx.nil, rfl, ⟨rfl, rfl, rfl⟩, Fx.nil_ok _, set3g bw (by omega)⟩
        · have Z3 := Lib.hid (Sz.of_big hb)
          have HE : Hid (addF x1 x2 = okS (q + x2.q)) := Lib.hid (addF_ok V1.out hv R1.q rfl Z3.out)
          have HS2 : Hid (S = sumS (vs.drop (k + 1)) (q + x2.q)) := Lib.hid (by rw [HST.out, if_pos hv, if_neg hb])
          have HB : Hid (¬ bigQ (q + x2.q)) := hb
          have e0 : (okS (q + x2.q)).2.2.2 = 0 := rfl
          clear hv hb
          skip
          have ci0 := a1.c0
          have ci1 := a1.c1
          have ci2 := a1.c2
          have cj0 := a2.c0
          have cj1 := a2.c1
          have cj2 := a2.c2
          go_wp2_with fail
          clear ci0 ci1 ci2 cj0 cj1 cj2
          refine (fadd_any _ x1 x2 (okS (q + x2.q)) a1.ok a2.ok l1 m1 l2 m2 HE.out).mono ?_
          rintro e wn ⟨x3, rfl, hs3, ok3, bb⟩
          have HS3 := Lib.hid hs3
          clear hs3
          replace bk := bk.below bb
          try replace a1 := a1.below bb
          try replace a2 := a2.below bb
          try replace a3 := a3.below bb
          try replace a4 := a4.below bb
          replace bw := below_on bw bb bw.size
          clear bb
          go_upto_region 6 with fail
          have a3 := (fa_alloc ok3).1
          have bb := (fa_alloc ok3).2
          clear ok3
          generalize (wn.alloc (.cells #[.bool x3.b, .slice x3.A x3.xs.length x3.c, .slice x3.D x3.ys.length x3.d] 41)) = wm at a3 bb ⊢
          replace bk := bk.below bb
          try replace a1 := a1.below bb
          try replace a2 := a2.below bb
          try replace a3 := a3.below bb
          try replace a4 := a4.below bb
          replace bw := below_on bw bb bw.size
          clear bb
          generalize wn.heap.size = g3 at a3 ⊢
          have R3 := Rp.of HS3.out
          go_upto_region 8 with fail
          have ci0 := a3.c0
          have ci1 := a3.c1
          have ci2 := a3.c2
          have tk := a1.bk
          obtain ⟨k0, k1, k2, kf0, kf1, kf2, klt, kb⟩ := tk
          clear kb
          go_wp2_with fail
          go_roundw
          case rel => exact ⟨k + 1, q + x2.q, x3, by omega, by go_num, R3, HB.out, HS2.out.symm, a1.put a3.ok, bk.far (by omega), set3g bw (by omega)⟩
          case measure => simp [intOf]; omega
      · have HE := Lib.hid (addF_err V1.out R1.q hv)
        have HS2 : Hid (S = errF 1) := Lib.hid (by rw [HST.out, if_neg hv])
        have e0 : (errF 1).2.2.2 = 1 := rfl
        clear hv
        skip
        have ci0 := a1.c0
        have ci1 := a1.c1
        have ci2 := a1.c2
        have cj0 := a2.c0
        have cj1 := a2.c1
        have cj2 := a2.c2
        go_wp2_with fail
        clear ci0 ci1 ci2 cj0 cj1 cj2
        refine (fadd_any _ x1 x2 (errF 1) a1.ok a2.ok l1 m1 l2 m2 HE.out).mono ?_
        rintro e wn ⟨x3, rfl, hs3, ok3, bb⟩
        have HS3 := Lib.hid hs3
        clear hs3
        replace bk := bk.below bb
        try replace a1 := a1.below bb
        try replace a2 := a2.below bb
        try replace a3 := a3.below bb
        try replace a4 := a4.below bb
        replace bw := below_on bw bb bw.size
        clear bb
        go_upto_region 6 with fail
        have a3 := (fa_alloc ok3).1
        have bb := (fa_alloc ok3).2
        clear ok3
        generalize (wn.alloc (.cells #[.bool x3.b, .slice x3.A x3.xs.length x3.c, .slice x3.D x3.ys.length x3.d] 41)) = wm at a3 bb ⊢
        replace bk := bk.below bb
        try replace a1 := a1.below bb
        try replace a2 := a2.below bb
        try replace a3 := a3.below bb
        try replace a4 := a4.below bb
        replace bw := below_on bw bb bw.size
        clear bb
        generalize wn.heap.size = g3 at a3 ⊢
        have tk := bk
        obtain ⟨k0, k1, k2, kf0, kf1, kf2, klt, kb⟩ := tk
        clear kb
        go_wp2_with fail
        refine bodyPost_ret (v := .tuple #[(Fx.nil : Fx).val, .int .i64 1]) (by simp [results, Try.results67, go_sem, k0, k1, k2]) rfl ?_
        rw [HS2.out]
        exact ⟨Fx.nil, rfl, ⟨rfl, rfl, rfl⟩, Fx.nil_ok _, set3g bw (by omega)⟩
    · have hS2 : S = okS q := by rw [← HS.out, List.drop_of_length_le (by omega), sumS]
      have HS2 := Lib.hid hS2
      clear hS2
      have ci0 := a1.c0
      have ci1 := a1.c1
      have ci2 := a1.c2
      have tk := bk
      obtain ⟨k0, k1, k2, kf0, kf1, kf2, klt, kb⟩ := tk
      clear kb
      go_wp2_with fail
      refine bodyPost_ret (v := .tuple #[(x1 : Fx).val, .int .i64 0]) (by simp [results, Try.results67, go_sem, k0, k1, k2]) rfl ?_
      rw [HS2.out]
      exact ⟨x1, rfl, ⟨R1.b, R1.n, R1.d⟩, set3_ok a1.ok bk rfl rfl rfl, set3g bw (by omega)⟩
end Go.Proofs.Ythdfflbhogfejaa
namespace Go.Proofs.Ythdfflbhogfejaa
open Go.RowKit

def fcells : List Fx → List Value
  | [] => []
  | v :: vs => .bool v.b :: .slice v.A v.xs.length v.c :: .slice v.D v.ys.length v.d :: fcells vs
set_option maxRecDepth 100000 in
theorem fcells_len (vs : List Fx) : (fcells vs).length = vs.length * 3 := by
  induction vs with
  | nil => rfl
  | cons v vs ih => rw [fcells]; simp only [List.length_cons, ih]; omega
set_option maxRecDepth 100000 in
theorem fcells_append (a b : List Fx) : fcells (a ++ b) = fcells a ++ fcells b := by
  induction a with
  | nil => rfl
  | cons v a ih => rw [List.cons_append, fcells, fcells, ih]; rfl
set_option maxRecDepth 100000 in
theorem fcells_get (vs : List Fx) : ∀ k (hk : k < vs.length), (fcells vs)[k * 3]? = some (.bool vs[k].b) ∧ (fcells vs)[k * 3 + 1]? = some (.slice vs[k].A vs[k].xs.length vs[k].c) ∧ (fcells vs)[k * 3 + 2]? = some (.slice vs[k].D vs[k].ys.length vs[k].d) := by
  induction vs with
  | nil => intro k hk; simp at hk
  | cons v vs ih =>
    intro k hk
    cases k with
    | zero => exact ⟨rfl, rfl, rfl⟩
    | succ k =>
      have h := ih k (by simpa using hk)
      have e : (k + 1) * 3 = k * 3 + 1 + 1 + 1 := by omega
      rw [fcells, e]
      simp only [List.getElem?_cons_succ, List.getElem_cons_succ]
      exact h
set_option maxRecDepth 100000 in
/-- where a cell of such a row lies -/
theorem fcells_at (vs : List Fx) (j : Nat) (u : Value) (h : (fcells vs)[j]? = some u) : ∃ k, ∃ hk : k < vs.length, (j = k * 3 ∧ u = .bool vs[k].b) ∨ (j = k * 3 + 1 ∧ u = .slice vs[k].A vs[k].xs.length vs[k].c) ∨ (j = k * 3 + 2 ∧ u = .slice vs[k].D vs[k].ys.length vs[k].d) := by
  have hj : j < vs.length * 3 := by
    rcases Nat.lt_or_ge j (vs.length * 3) with h1 | h1
    · exact h1
    · rw [List.getElem?_eq_none (by rw [fcells_len]; exact h1)] at h; cases h
  have hk : j / 3 < vs.length := by omega
  obtain ⟨h0, h1, h2⟩ := fcells_get vs (j / 3) hk
  refine ⟨j / 3, hk, ?_⟩
  have hm : j % 3 = 0 ∨ j % 3 = 1 ∨ j % 3 = 2 := by omega
  rcases hm with e | e | e
  · left
    have ej : j = j / 3 * 3 := by omega
    rw [ej] at h
    exact ⟨ej, Option.some.inj (h.symm.trans h0)⟩
  · right; left
    have ej : j = j / 3 * 3 + 1 := by omega
    rw [ej] at h
    exact ⟨ej, Option.some.inj (h.symm.trans h1)⟩
  · right; right
    have ej : j = j / 3 * 3 + 2 := by omega
    rw [ej] at h
    exact ⟨ej, Option.some.inj (h.symm.trans h2)⟩
set_option maxRecDepth 100000 in
theorem fcells_one (vs : List Fx) : ∀ u ∈ fcells vs, u.oneCell' = true := by
  induction vs with
  | nil => intro u hu; cases hu
  | cons v vs ih =>
    intro u hu
    rw [fcells] at hu
    simp only [List.mem_cons] at hu
    rcases hu with rfl | rfl | rfl | hu
    · rfl
    · rfl
    · rfl
    · exact ih u hu
/-- a row of fractions of the call's own -/
def Fr (w : World) (B : Nat) (A : Option Addr) (c : Nat) (vs : List Fx) : Prop := World.ownsRow w B 41 3 (.slice A vs.length c) vs.length (fcells vs)
set_option maxRecDepth 100000 in
theorem add_mk (g j : Nat) : (⟨g, 0, none⟩ : Addr).add j = ⟨g, j, none⟩ := by
  unfold Addr.add
  split
  · rename_i h; rw [h]
  · simp
set_option maxRecDepth 100000 in
theorem Fr.rd {w : World} {B : Nat} {A : Option Addr} {c : Nat} {vs : List Fx} (h : Fr w B A c vs) : RdF w A vs := fun hn => by
  have h' := h
  rcases h.2 with ⟨_, h0⟩ | ⟨g, cap, cur, hv, _, hg, _⟩
  · omega
  · simp only [Value.slice.injEq] at hv
    obtain ⟨rfl, _, rfl⟩ := hv
    refine ⟨_, rfl, ?_, fun k hk => ?_⟩
    · exact (Array.getElem?_eq_some_iff.1 hg).1
    · obtain ⟨h0, h1, h2⟩ := fcells_get vs k hk
      have hc := fun j hj => World.ownsRow.cellAt h' j hj
      rw [add_mk]
      exact ⟨(hc (k * 3) (by omega)).trans h0, (hc (k * 3 + 1) (by omega)).trans h1, (hc (k * 3 + 2) (by omega)).trans h2⟩
set_option maxRecDepth 100000 in
theorem Fr.below {w w' : World} {B : Nat} {A : Option Addr} {c : Nat} {vs : List Fx} (h : Fr w B A c vs) (hb : Below w.heap.size w w') : Fr w' B A c vs :=
  World.ownsRow.kept h (w' := w') (row := none) ⟨hb.os, hb.tape, hb.output, hb.size, fun k hk _ => hb.block k hk⟩ (by
    cases A with
    | none => exact .inl rfl
    | some ad => exact .inr (by simp [Value.ownBlock]))
set_option maxRecDepth 100000 in
theorem fr_lit (w : World) (B : Nat) (hB : B ≤ w.heap.size) : Fr (w.alloc (.cells #[] 41)) B (some ⟨w.heap.size, 0, none⟩) 0 [] :=
  World.ownsRow_lit (e := 41) (size := 3) (base := B) w #[] 0 hB (by simp [maxLen]) rfl
set_option maxRecDepth 100000 in
theorem frac_info : ∃ i z, Try.prog.info? 41 = some i ∧ i.zero = some z ∧ i.size = 3 ∧ z.cells.size = 3 ∧ i.bytes ≤ 1000 := by
  have h : (Try.prog.info? 41).any (fun i => i.zero.any (fun z => decide (z.cells.size = 3)) && decide (i.size = 3) && decide (i.bytes ≤ 1000)) = true := by kernel_rfl
  cases hi : Try.prog.info? 41 with
  | none => rw [hi] at h; cases h
  | some i =>
    rw [hi] at h
    cases hz : i.zero with
    | none => simp [hz] at h
    | some z =>
      simp [hz] at h
      exact ⟨i, z, rfl, hz, h.1.2, h.1.1, h.2⟩
set_option maxRecDepth 100000 in
theorem run_append_frac (w : World) {B c : Nat} {A : Option Addr} {xs : List Fx} (hown : Fr w B A c xs) (A2 : Option Addr) (c2 : Nat) (ys : List Fx) (hr : RdF w A2 ys) (hmax : xs.length + ys.length ≤ 1000) (hbase : B ≤ w.heap.size) :
    ∃ A' c' w', (Builtin.append_ #[29, 29] 29 #[.slice A xs.length c, .slice A2 ys.length c2]).run Try.prog w = .ok (.slice A' (xs.length + ys.length) c') w' ∧ Fr w' B A' c' (xs ++ ys) ∧ Below B w w' ∧ w.grownBy w' (A.map (·.block)) ∧ (A'.map (·.block) = A.map (·.block) ∨ A'.map (·.block) = some w.heap.size) := by
  obtain ⟨i, z, hi, hz, hsize, hzs, hby⟩ := frac_info
  have hAb : ∀ k, A.map (·.block) = some k → B ≤ k := by
    intro k hk
    rcases hown.2 with ⟨hv, _⟩ | ⟨g, cap, cur, hv, hb, _⟩
    · simp only [Value.slice.injEq] at hv
      obtain ⟨rfl, _, _⟩ := hv
      cases hk
    · simp only [Value.slice.injEq] at hv
      obtain ⟨rfl, _, rfl⟩ := hv
      simp at hk; omega
  have hob : (Value.slice A xs.length c).ownBlock = A.map (·.block) := by cases A <;> rfl
  cases A2 with
  | none =>
    have hy : ys = [] := by
      rcases Nat.eq_zero_or_pos ys.length with h0 | h0
      · exact List.eq_nil_of_length_eq_zero h0
      · obtain ⟨ad, h, _⟩ := hr h0; cases h
    subst hy
    refine ⟨A, c, w, ?_, by rw [List.append_nil]; exact hown, Below.refl _ _, World.grownBy.refl _ _, .inl rfl⟩
    rcases hown.2 with ⟨h', hn⟩ | ⟨g, cap, cur, h', _, _, hnc, _⟩
    · simp only [Value.slice.injEq] at h'
      obtain ⟨rfl, _, rfl⟩ := h'
      simp [Builtin.append_, run_underlying Try.underlying29, sizeOf, typeInfo, hi, Builtin.lenOf, Builtin.firstCells, hn]
    · simp only [Value.slice.injEq] at h'
      obtain ⟨rfl, _, rfl⟩ := h'
      simp [Builtin.append_, run_underlying Try.underlying29, sizeOf, typeInfo, hi, Builtin.lenOf, Builtin.firstCells, hnc, storeCells]
  | some ad =>
    have hnews : ∀ j u, (fcells ys)[j]? = some u → w.cell? (ad.add j) = some u := by
      intro j u hu
      obtain ⟨k, hk, hcase⟩ := fcells_at ys j u hu
      obtain ⟨ad', e', _, hc⟩ := hr (by omega)
      injection e' with e'
      subst e'
      obtain ⟨h0, h1, h2⟩ := hc k hk
      have hoff : (ad.add (k * 3)).off = ad.off + k * 3 := by
        unfold Addr.add
        split
        · rename_i h0; rw [h0]; rfl
        · rfl
      rcases hcase with ⟨rfl, rfl⟩ | ⟨rfl, rfl⟩ | ⟨rfl, rfl⟩
      · exact h0
      · rw [show ad.add (k * 3 + 1) = ⟨(ad.add (k * 3)).block, (ad.add (k * 3)).off + 1, none⟩ from by rw [block_of_add, hoff]; exact if_neg (by omega)]
        exact h1
      · rw [show ad.add (k * 3 + 2) = ⟨(ad.add (k * 3)).block, (ad.add (k * 3)).off + 2, none⟩ from by rw [block_of_add, hoff]; exact if_neg (by omega)]
        exact h2
    obtain ⟨v', w', hrun, hown', hg, _, hat⟩ := run_append_own_at (P := Try.prog) w B 29 29 41 i z 3 i.bytes Try.underlying29 hi hz hsize rfl hzs (by omega) (.slice A xs.length c) xs.length (fcells xs) hown ad ys.length c2 (fcells ys) (fcells_len ys) hnews
      (fcells_one ys) (by simp only [maxLen]; omega) (by have := Nat.mul_le_mul hmax hby; omega) hbase
    have hform : ∃ A' c', v' = .slice A' (xs.length + ys.length) c' := by
      rcases hown'.2 with ⟨rfl, hn⟩ | ⟨g, cap, cur, rfl, _⟩
      · exact ⟨none, 0, by rw [hn]⟩
      · exact ⟨_, _, rfl⟩
    obtain ⟨A', c', rfl⟩ := hform
    have hob' : (Value.slice A' (xs.length + ys.length) c').ownBlock = A'.map (·.block) := by cases A' <;> rfl
    rw [hob, hob'] at hat
    rw [hob] at hg
    refine ⟨A', c', w', hrun, ?_, (Below.refl _ _).grown hg hbase hAb, hg, hat⟩
    unfold Fr
    rw [List.length_append, fcells_append]
    exact hown'
set_option maxRecDepth 100000 in
/-- append at a step of a region that draws its order -/
theorem step_append_frac (w : World) {ops : Array Oper} {o : Oper} {a : Act} {K : Act → World → Prop} {Q : Exit → Act → World → Prop} {X : Prop} (hgd : o.guard = none) (s x : Operand)
    (ho : o.op = .call { callee := .builtin .append, args := #[s, x], argTypes := #[29, 29] }) (hty : o.type = 29)
    {B c n : Nat} {A : Option Addr} {xs : List Fx} (hs : a.eval s = .slice A n c) (hn : n = xs.length) (hown : Fr w B A c xs)
    (A2 : Option Addr) (m c2 : Nat) (ys : List Fx) (hx : a.eval x = .slice A2 m c2) (hm : m = ys.length) (hr : RdF w A2 ys) (hmax : n + m ≤ 1000) (hbase : B ≤ w.heap.size)
    (h : ∀ A' c' w', Fr w' B A' c' (xs ++ ys) → Below B w w' → w.grownBy w' (A.map (·.block)) → (A'.map (·.block) = A.map (·.block) ∨ A'.map (·.block) = some w.heap.size) → K (a.put o.dst (.slice A' (n + m) c')) w') :
    if Region.wanted o (yielded ops a.tmps) = true then Oper.wp Try.prog o a w K Q else X := by
  have hw : Region.wanted o (yielded ops a.tmps) = true := by simp [Region.wanted, hgd]
  rw [if_pos hw]
  subst hn hm
  obtain ⟨A', c', w', hrun, h1, h3, h4, h5⟩ := run_append_frac w hown A2 c2 ys hr hmax hbase
  unfold Oper.wp execOp
  simp only [ho, hty, resolve, invoke, builtin, Sem.run_bind, Sem.run_pure, Result.andThen_ok, List.map_toArray, List.map_cons, List.map_nil, hs, hx, hrun]
  exact h A' c' w' h1 h3 h4 h5
set_option maxRecDepth 100000 in
theorem Bk3.grown {w w' : World} {G : Nat} {v0 v1 v2 : Value} {row : Option Nat} (h : Bk3 w G v0 v1 v2) (hg : w.grownBy w' row) (hne : some G ≠ row) : Bk3 w' G v0 v1 v2 := by
  have hb : w'.heap[G]? = w.heap[G]? := hg.block G h.lt hne
  refine ⟨hg.cell h.c0 hne, hg.cell h.c1 hne, hg.cell h.c2 hne, ?_, ?_, ?_, Nat.lt_of_lt_of_le h.lt hg.size, by rw [hb]; exact h.blk⟩
  · rw [← h.f0]; unfold World.frozen?; rw [hb]
  · rw [← h.f1]; unfold World.frozen?; rw [hb]
  · rw [← h.f2]; unfold World.frozen?; rw [hb]
set_option maxRecDepth 100000 in
theorem Fr.lt {w : World} {B : Nat} {A : Option Addr} {c : Nat} {vs : List Fx} (h : Fr w B A c vs) : ∀ k, A.map (·.block) = some k → B ≤ k ∧ k < w.heap.size := by
  intro k hk
  rcases h.2 with ⟨hv, _⟩ | ⟨g, cap, cur, hv, hb, hg, _⟩
  · simp only [Value.slice.injEq] at hv
    obtain ⟨rfl, _, _⟩ := hv
    cases hk
  · simp only [Value.slice.injEq] at hv
    obtain ⟨rfl, _, rfl⟩ := hv
    simp at hk
    subst hk
    exact ⟨hb, (Array.getElem?_eq_some_iff.1 hg).1⟩
set_option maxRecDepth 100000 in
theorem add_add3 (ad : Addr) (k i : Nat) : (ad.add (k * 3)).add (i * 3) = ad.add ((k + i) * 3) ∨ i = 0 := by
  rcases Nat.eq_zero_or_pos i with h | h
  · exact .inr h
  · left
    have ho : (ad.add (k * 3)).off = ad.off + k * 3 := by
      unfold Addr.add
      split
      · rename_i h0; rw [h0]; rfl
      · rfl
    rw [show ad.add ((k + i) * 3) = ⟨ad.block, ad.off + (k + i) * 3, none⟩ from if_neg (by omega),
      show (ad.add (k * 3)).add (i * 3) = ⟨(ad.add (k * 3)).block, (ad.add (k * 3)).off + i * 3, none⟩ from if_neg (by omega), block_of_add, ho, Nat.add_assoc, Nat.add_mul]
set_option maxRecDepth 100000 in
theorem RdF.take {w : World} {A : Option Addr} {vs : List Fx} (h : RdF w A vs) (k : Nat) : RdF w A (vs.take k) := fun hn => by
  obtain ⟨ad, e, hl, hc⟩ := h (by simp at hn; omega)
  refine ⟨ad, e, hl, fun i hi => ?_⟩
  rw [List.getElem_take]
  exact hc i (by simp at hi; omega)
set_option maxRecDepth 100000 in
theorem RdF.drop {w : World} {ad : Addr} {vs : List Fx} (h : RdF w (some ad) vs) (k : Nat) : RdF w (some (ad.add (k * 3))) (vs.drop k) := fun hn => by
  have hk : k < vs.length := by simp at hn; omega
  obtain ⟨ad', e, hl, hc⟩ := h (by omega)
  injection e with e
  subst e
  refine ⟨_, rfl, by rw [block_of_add]; exact hl, fun i hi => ?_⟩
  have hki : k + i < vs.length := by simp at hi; omega
  have h1 := hc (k + i) hki
  rw [List.getElem_drop]
  rcases add_add3 ad k i with e | rfl
  · rw [e]; exact h1
  · rw [show (ad.add (k * 3)).add (0 * 3) = ad.add (k * 3) from by rw [Nat.zero_mul]; exact if_pos rfl]; exact h1
end Go.Proofs.Ythdfflbhogfejaa
