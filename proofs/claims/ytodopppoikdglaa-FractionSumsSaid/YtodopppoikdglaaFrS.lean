/- The walk of fraction.Sum. -/
import Derived.Test.YtodopppoikdglaaLwD
namespace Go.Proofs.Ytodopppoikdglaa
open Go.RowKit

/-- what Sum reckons from the partial sum q on -/
def sumS : List Fx → Rat → Bool × List Nat × List Nat × Int
  | [], q => okS q
  | x :: vs, q => if x.v then (if bigQ (q + x.q) then errF 2 else sumS vs (q + x.q)) else errF 1
theorem RdF.below {w w' : World} {A : Option Addr} {vs : List Fx} (h : RdF w A vs) (hb : Below w.heap.size w w') : RdF w' A vs := fun hn => by
  obtain ⟨ad, e, hl, hc⟩ := h hn
  refine ⟨ad, e, Nat.lt_of_lt_of_le hl hb.size, fun k hk => ?_⟩
  obtain ⟨h0, h1, h2⟩ := hc k hk
  have e2 : (ad.add (k * 3)).block = ad.block := block_of_add _ _
  exact ⟨(hb.cell (p := ad.add (k * 3)) (by rw [e2]; exact hl)).trans h0, (hb.cell (p := ⟨(ad.add (k * 3)).block, (ad.add (k * 3)).off + 1, none⟩) (by show (ad.add (k * 3)).block < _; rw [e2]; exact hl)).trans h1, (hb.cell (p := ⟨(ad.add (k * 3)).block, (ad.add (k * 3)).off + 2, none⟩) (by show (ad.add (k * 3)).block < _; rw [e2]; exact hl)).trans h2⟩
/-- the elements hold numbers -/
def OkF (w : World) (vs : List Fx) : Prop := ∀ v ∈ vs, v.ok w ∧ v.xs.length ≤ 10000 ∧ v.ys.length ≤ 10000
theorem OkF.below {w w' : World} {vs : List Fx} (h : OkF w vs) (hb : Below w.heap.size w w') : OkF w' vs := fun v hv => ⟨(h v hv).1.below hb, (h v hv).2⟩
theorem sumS_step {vs : List Fx} {k : Nat} (h : k < vs.length) (q : Rat) : sumS (vs.drop k) q = if vs[k].v then (if bigQ (q + vs[k].q) then errF 2 else sumS (vs.drop (k + 1)) (q + vs[k].q)) else errF 1 := by
  rw [List.drop_eq_getElem_cons h, sumS]
theorem addF_err {x y : Fx} {q : Rat} (hx : x.v) (ex : x.q = q) (h : ¬ y.v) : addF x y = errF 1 := by rw [addF, if_neg (fun e => h e.2)]
theorem addF_big {x y : Fx} {q : Rat} (hx : x.v) (hy : y.v) (ex : x.q = q) (h : bigQ (q + y.q)) : addF x y = errF 2 := by
  rw [addF, if_pos ⟨hx, hy⟩, ex, frS, if_pos h]; rfl
theorem Sz.of_big {q : Rat} (h : ¬ bigQ q) : Sz q 128 128 := by
  rw [bigQ] at h
  constructor <;> omega
theorem fa_build' {w : World} {b : Bool} {A D : Option Addr} {c d n m : Nat} {xs ys : List Nat} (hA : Nt w A c xs) (hD : Nt w D d ys) (hn : n = xs.length) (hm : m = ys.length) : ∃ x : Fx, (x.b = b ∧ x.xs = xs ∧ x.ys = ys) ∧ Fa (w.alloc (.cells #[.bool b, .slice A n c, .slice D m d] 25)) w.heap.size x ∧ Below w.heap.size w (w.alloc (.cells #[.bool b, .slice A n c, .slice D m d] 25)) := by
  subst hn hm
  have h : (⟨b, A, c, xs, D, d, ys⟩ : Fx).ok w := ⟨hA, hD⟩
  exact ⟨⟨b, A, c, xs, D, d, ys⟩, ⟨rfl, rfl, rfl⟩, (fa_alloc h).1, (fa_alloc h).2⟩
set_option maxRecDepth 100000 in
set_option maxHeartbeats 4000000 in
theorem fsum_any (w : World) (A : Option Addr) (n c : Nat) (vs : List Fx) (S : Bool × List Nat × List Nat × Int) (hrd : RdF w A vs) (hok : OkF w vs) (hn : n = vs.length) (hc : vs.length ≤ 1000) (hs : sumS vs 0 = S) :
    Calls Try.prog 18 #[.slice A n c] w (FracRes w S) := by
  have HS : Hid (sumS (vs.drop 0) 0 = S) := Lib.hid hs
  have HRD : Hid (RdF w A vs) := hrd
  have HOK : Hid (OkF w vs) := hok
  clear hs hrd hok
  subst hn
  go_enter Try.func18, Try.ntmps18
  go_upto_region 1 with fail
  have bw := (Below.refl w.heap.size w).alloc (Nat.le_refl _) (.cells #[.bool false, .slice none 0 0, .slice none 0 0] 25)
  have bk := bk3_new w
  generalize (w.alloc (.cells #[.bool false, .slice none 0 0, .slice none 0 0] 25)) = wn at bw bk ⊢
  go_wp2_with fail
  refine (make_one wn).mono ?_
  rintro e wn ⟨A1, c1, rfl, no, bb⟩
  try replace bx := bx.below bb
  try replace by_ := by_.below bb
  try replace bk := bk.below bb
  try replace okx := okx.below bb
  try replace oky := oky.below bb
  try replace ok1 := ok1.below bb
  try replace ok2 := ok2.below bb
  try replace ok3 := ok3.below bb
  try replace na := na.below bb
  try replace nb := nb.below bb
  try replace nc := nc.below bb
  try replace nd := nd.below bb
  try replace ne := ne.below bb
  replace bw := below_on bw bb bw.size
  clear bb
  go_upto_region 2 with fail
  have g4l := bk.lt
  obtain ⟨y, hy, a4, bb⟩ := fa_build' (b := false) (Nt.nil wn none 0 (by show 0 ≤ _; omega)) no (n := 0) (m := (lim 1).length) rfl rfl
  have R0 : Rp y 0 := ⟨hy.1, by rw [hy.2.1]; exact lim_zero.symm, by rw [hy.2.2]; rfl⟩
  have z0 : ¬ bigQ (0 : Rat) := by
    have h1 : (lim (0 : Rat).num.natAbs).length ≤ 128 := sz_zero.1
    have h2 : (lim (0 : Rat).den).length ≤ 128 := sz_zero.2
    rw [bigQ]; omega
  clear hy no
  generalize (wn.alloc (.cells #[.bool false, .slice none 0 0, .slice A1 (lim 1).length c1] 25)) = wm at a4 bb ⊢
  try replace bx := bx.below bb
  try replace by_ := by_.below bb
  try replace bk := bk.below bb
  try replace okx := okx.below bb
  try replace oky := oky.below bb
  try replace ok1 := ok1.below bb
  try replace ok2 := ok2.below bb
  try replace ok3 := ok3.below bb
  try replace na := na.below bb
  try replace nb := nb.below bb
  try replace nc := nc.below bb
  try replace nd := nd.below bb
  try replace ne := ne.below bb
  replace bw := below_on bw bb bw.size
  clear bb
  generalize wn.heap.size = g4 at a4 g4l ⊢
  go_wp2_with fail
  go_loopw [13] (fun i wr => ∃ (k : Nat) (q : Rat) (y : Fx), k ≤ vs.length ∧ i = .int .i64 k ∧ Rp y q ∧ ¬ bigQ q ∧ sumS (vs.drop k) q = S ∧ Fa wr g4 y ∧ Bk3 wr w.heap.size (.bool false) (.slice none 0 0) (.slice none 0 0) ∧ Below w.heap.size w wr) (fun i _ => vs.length - (intOf i).toNat)
  case atStart => exact ⟨0, 0, y, by omega, rfl, R0, z0, HS.out, a4, bk, bw⟩
  case round =>
    clear a4 bk bw R0 z0 HS
    obtain ⟨k, q, x1, hkl, rfl, R1, zq, hS, a1, bk, bw⟩ := hrel
    have HS := Lib.hid hS
    have HZ := Lib.hid zq
    have Z1 := Lib.hid (Sz.of_big zq)
    have l1 := R1.l1 Z1.out
    have m1 := R1.l2 Z1.out
    have V1 := Lib.hid (R1.v Z1.out)
    clear hS zq
    by_cases hlt : k < vs.length
    · have h' := HRD.out.below bw
      have hk' := HOK.out.below bw
      obtain ⟨ad, rfl, _, hcc⟩ := h' (by omega)
      obtain ⟨hc0, hc1, hc2⟩ := hcc k hlt
      obtain ⟨ok2, l2, m2⟩ := hk' _ (List.getElem_mem hlt)
      have hst := sumS_step hlt q
      rw [HS.out] at hst
      obtain ⟨x2, hx2⟩ : ∃ x2, vs[k] = x2 := ⟨_, rfl⟩
      rw [hx2] at hc0 hc1 hc2 ok2 l2 m2 hst
      have HST := Lib.hid hst
      clear hcc h' hk' hst hx2
      go_upto_region 5 with fail
      clear hc0 hc1 hc2
      have a2 := (fa_alloc ok2).1
      have bb := (fa_alloc ok2).2
      clear ok2
      generalize (wr.alloc (.cells #[.bool x2.b, .slice x2.A x2.xs.length x2.c, .slice x2.D x2.ys.length x2.d] 25)) = wm at a2 bb ⊢
      replace bk := bk.below bb
      try replace a1 := a1.below bb
      try replace a2 := a2.below bb
      try replace a3 := a3.below bb
      try replace a4 := a4.below bb
      try replace a5 := a5.below bb
      try replace a6 := a6.below bb
      try replace a7 := a7.below bb
      try replace a8 := a8.below bb
      try replace a9 := a9.below bb
      try replace a10 := a10.below bb
      try replace a11 := a11.below bb
      try replace a12 := a12.below bb
      try replace a13 := a13.below bb
      try replace a14 := a14.below bb
      try replace a15 := a15.below bb
      try replace a16 := a16.below bb
      try replace a17 := a17.below bb
      try replace a18 := a18.below bb
      try replace a19 := a19.below bb
      try replace a20 := a20.below bb
      replace bw := below_on bw bb bw.size
      clear bb
      generalize wr.heap.size = g2 at a2 ⊢
      by_cases hv : x2.v
      · by_cases hb : bigQ (q + x2.q)
        · have HE := Lib.hid (addF_big V1.out hv R1.q hb)
          have HS2 : Hid (S = errF 2) := Lib.hid (by rw [HST.out, if_pos hv, if_pos hb])
          have e0 : (errF 2).2.2.2 = 2 := rfl
          clear hv hb
          skip
          have ci0 := a1.c0
          have ci1 := a1.c1
          have ci2 := a1.c2
          have cj0 := a2.c0
          have cj1 := a2.c1
          have cj2 := a2.c2
          go_wp2_with fail
          clear ci0 ci1 ci2 cj0 cj1 cj2
          refine (fadd_any _ x1 x2 (errF 2) a1.ok a2.ok l1 m1 l2 m2 HE.out).mono ?_
          rintro e wn ⟨x3, rfl, hs3, ok3, bb⟩
          have HS3 := Lib.hid hs3
          clear hs3
          replace bk := bk.below bb
          try replace a1 := a1.below bb
          try replace a2 := a2.below bb
          try replace a3 := a3.below bb
          try replace a4 := a4.below bb
          try replace a5 := a5.below bb
          try replace a6 := a6.below bb
          try replace a7 := a7.below bb
          try replace a8 := a8.below bb
          try replace a9 := a9.below bb
          try replace a10 := a10.below bb
          try replace a11 := a11.below bb
          try replace a12 := a12.below bb
          try replace a13 := a13.below bb
          try replace a14 := a14.below bb
          try replace a15 := a15.below bb
          try replace a16 := a16.below bb
          try replace a17 := a17.below bb
          try replace a18 := a18.below bb
          try replace a19 := a19.below bb
          try replace a20 := a20.below bb
          replace bw := below_on bw bb bw.size
          clear bb
          go_upto_region 6 with fail
          have a3 := (fa_alloc ok3).1
          have bb := (fa_alloc ok3).2
          clear ok3
          generalize (wn.alloc (.cells #[.bool x3.b, .slice x3.A x3.xs.length x3.c, .slice x3.D x3.ys.length x3.d] 25)) = wm at a3 bb ⊢
          replace bk := bk.below bb
          try replace a1 := a1.below bb
          try replace a2 := a2.below bb
          try replace a3 := a3.below bb
          try replace a4 := a4.below bb
          try replace a5 := a5.below bb
          try replace a6 := a6.below bb
          try replace a7 := a7.below bb
          try replace a8 := a8.below bb
          try replace a9 := a9.below bb
          try replace a10 := a10.below bb
          try replace a11 := a11.below bb
          try replace a12 := a12.below bb
          try replace a13 := a13.below bb
          try replace a14 := a14.below bb
          try replace a15 := a15.below bb
          try replace a16 := a16.below bb
          try replace a17 := a17.below bb
          try replace a18 := a18.below bb
          try replace a19 := a19.below bb
          try replace a20 := a20.below bb
          replace bw := below_on bw bb bw.size
          clear bb
          generalize wn.heap.size = g3 at a3 ⊢
          have tk := bk
          obtain ⟨k0, k1, k2, kf0, kf1, kf2, klt, kb⟩ := tk
          clear kb
          go_wp2_with fail
          refine bodyPost_ret (v := .tuple #[(Fx.nil : Fx).val, .int .i64 2]) (by simp [results, Try.results18, go_sem, k0, k1, k2]) rfl ?_
          rw [HS2.out]
          exact ⟨Fx.nil, rfl, ⟨rfl, rfl, rfl⟩, Fx.nil_ok _, set3g bw (by omega)⟩
        · have Z3 := Lib.hid (Sz.of_big hb)
          have HE : Hid (addF x1 x2 = okS (q + x2.q)) := Lib.hid (addF_ok V1.out hv R1.q rfl Z3.out)
          have HS2 : Hid (S = sumS (vs.drop (k + 1)) (q + x2.q)) := Lib.hid (by rw [HST.out, if_pos hv, if_neg hb])
          have HB : Hid (¬ bigQ (q + x2.q)) := hb
          have e0 : (okS (q + x2.q)).2.2.2 = 0 := rfl
          clear hv hb
          skip
          have ci0 := a1.c0
          have ci1 := a1.c1
          have ci2 := a1.c2
          have cj0 := a2.c0
          have cj1 := a2.c1
          have cj2 := a2.c2
          go_wp2_with fail
          clear ci0 ci1 ci2 cj0 cj1 cj2
          refine (fadd_any _ x1 x2 (okS (q + x2.q)) a1.ok a2.ok l1 m1 l2 m2 HE.out).mono ?_
          rintro e wn ⟨x3, rfl, hs3, ok3, bb⟩
          have HS3 := Lib.hid hs3
          clear hs3
          replace bk := bk.below bb
          try replace a1 := a1.below bb
          try replace a2 := a2.below bb
          try replace a3 := a3.below bb
          try replace a4 := a4.below bb
          try replace a5 := a5.below bb
          try replace a6 := a6.below bb
          try replace a7 := a7.below bb
          try replace a8 := a8.below bb
          try replace a9 := a9.below bb
          try replace a10 := a10.below bb
          try replace a11 := a11.below bb
          try replace a12 := a12.below bb
          try replace a13 := a13.below bb
          try replace a14 := a14.below bb
          try replace a15 := a15.below bb
          try replace a16 := a16.below bb
          try replace a17 := a17.below bb
          try replace a18 := a18.below bb
          try replace a19 := a19.below bb
          try replace a20 := a20.below bb
          replace bw := below_on bw bb bw.size
          clear bb
          go_upto_region 6 with fail
          have a3 := (fa_alloc ok3).1
          have bb := (fa_alloc ok3).2
          clear ok3
          generalize (wn.alloc (.cells #[.bool x3.b, .slice x3.A x3.xs.length x3.c, .slice x3.D x3.ys.length x3.d] 25)) = wm at a3 bb ⊢
          replace bk := bk.below bb
          try replace a1 := a1.below bb
          try replace a2 := a2.below bb
          try replace a3 := a3.below bb
          try replace a4 := a4.below bb
          try replace a5 := a5.below bb
          try replace a6 := a6.below bb
          try replace a7 := a7.below bb
          try replace a8 := a8.below bb
          try replace a9 := a9.below bb
          try replace a10 := a10.below bb
          try replace a11 := a11.below bb
          try replace a12 := a12.below bb
          try replace a13 := a13.below bb
          try replace a14 := a14.below bb
          try replace a15 := a15.below bb
          try replace a16 := a16.below bb
          try replace a17 := a17.below bb
          try replace a18 := a18.below bb
          try replace a19 := a19.below bb
          try replace a20 := a20.below bb
          replace bw := below_on bw bb bw.size
          clear bb
          generalize wn.heap.size = g3 at a3 ⊢
          have R3 := Rp.of HS3.out
          go_upto_region 8 with fail
          have ci0 := a3.c0
          have ci1 := a3.c1
          have ci2 := a3.c2
          have tk := a1.bk
          obtain ⟨k0, k1, k2, kf0, kf1, kf2, klt, kb⟩ := tk
          clear kb
          go_wp2_with fail
          go_roundw
          case rel => exact ⟨k + 1, q + x2.q, x3, by omega, by go_num, R3, HB.out, HS2.out.symm, a1.put a3.ok, bk.far (by omega), set3g bw (by omega)⟩
          case measure => simp [intOf]; omega
      · have HE := Lib.hid (addF_err V1.out R1.q hv)
        have HS2 : Hid (S = errF 1) := Lib.hid (by rw [HST.out, if_neg hv])
        have e0 : (errF 1).2.2.2 = 1 := rfl
        clear hv
        skip
        have ci0 := a1.c0
        have ci1 := a1.c1
        have ci2 := a1.c2
        have cj0 := a2.c0
        have cj1 := a2.c1
        have cj2 := a2.c2
        go_wp2_with fail
        clear ci0 ci1 ci2 cj0 cj1 cj2
        refine (fadd_any _ x1 x2 (errF 1) a1.ok a2.ok l1 m1 l2 m2 HE.out).mono ?_
        rintro e wn ⟨x3, rfl, hs3, ok3, bb⟩
        have HS3 := Lib.hid hs3
        clear hs3
        replace bk := bk.below bb
        try replace a1 := a1.below bb
        try replace a2 := a2.below bb
        try replace a3 := a3.below bb
        try replace a4 := a4.below bb
        try replace a5 := a5.below bb
        try replace a6 := a6.below bb
        try replace a7 := a7.below bb
        try replace a8 := a8.below bb
        try replace a9 := a9.below bb
        try replace a10 := a10.below bb
        try replace a11 := a11.below bb
        try replace a12 := a12.below bb
        try replace a13 := a13.below bb
        try replace a14 := a14.below bb
        try replace a15 := a15.below bb
        try replace a16 := a16.below bb
        try replace a17 := a17.below bb
        try replace a18 := a18.below bb
        try replace a19 := a19.below bb
        try replace a20 := a20.below bb
        replace bw := below_on bw bb bw.size
        clear bb
        go_upto_region 6 with fail
        have a3 := (fa_alloc ok3).1
        have bb := (fa_alloc ok3).2
        clear ok3
        generalize (wn.alloc (.cells #[.bool x3.b, .slice x3.A x3.xs.length x3.c, .slice x3.D x3.ys.length x3.d] 25)) = wm at a3 bb ⊢
        replace bk := bk.below bb
        try replace a1 := a1.below bb
        try replace a2 := a2.below bb
        try replace a3 := a3.below bb
        try replace a4 := a4.below bb
        try replace a5 := a5.below bb
        try replace a6 := a6.below bb
        try replace a7 := a7.below bb
        try replace a8 := a8.below bb
        try replace a9 := a9.below bb
        try replace a10 := a10.below bb
        try replace a11 := a11.below bb
        try replace a12 := a12.below bb
        try replace a13 := a13.below bb
        try replace a14 := a14.below bb
        try replace a15 := a15.below bb
        try replace a16 := a16.below bb
        try replace a17 := a17.below bb
        try replace a18 := a18.below bb
        try replace a19 := a19.below bb
        try replace a20 := a20.below bb
        replace bw := below_on bw bb bw.size
        clear bb
        generalize wn.heap.size = g3 at a3 ⊢
        have tk := bk
        obtain ⟨k0, k1, k2, kf0, kf1, kf2, klt, kb⟩ := tk
        clear kb
        go_wp2_with fail
        refine bodyPost_ret (v := .tuple #[(Fx.nil : Fx).val, .int .i64 1]) (by simp [results, Try.results18, go_sem, k0, k1, k2]) rfl ?_
        rw [HS2.out]
        exact ⟨Fx.nil, rfl, ⟨rfl, rfl, rfl⟩, Fx.nil_ok _, set3g bw (by omega)⟩
    · have hS2 : S = okS q := by rw [← HS.out, List.drop_of_length_le (by omega), sumS]
      have HS2 := Lib.hid hS2
      clear hS2
      have ci0 := a1.c0
      have ci1 := a1.c1
      have ci2 := a1.c2
      have tk := bk
      obtain ⟨k0, k1, k2, kf0, kf1, kf2, klt, kb⟩ := tk
      clear kb
      go_wp2_with fail
      refine bodyPost_ret (v := .tuple #[(x1 : Fx).val, .int .i64 0]) (by simp [results, Try.results18, go_sem, k0, k1, k2]) rfl ?_
      rw [HS2.out]
      exact ⟨x1, rfl, ⟨R1.b, R1.n, R1.d⟩, set3_ok a1.ok bk rfl rfl rfl, set3g bw (by omega)⟩
end Go.Proofs.Ytodopppoikdglaa
