/- The walks of drydockref02: Valid, Large, times, lowest, fits, Reduce, Opposite. -/
import Derived.Test.YtnmomigaedfdoaaFrG
import Derived.Test.YtnmomigaedfdoaaRefJ
import Derived.Test.YtnmomigaedfdoaaRefA
namespace Go.Proofs.Ytnmomigaedfdoaa
set_option maxRecDepth 100000
open Go.RowKit

set_option maxHeartbeats 400000 in
theorem rftimes_ok (w : World) (A D : Option Addr) (c d n m : Nat) (xs ys : List Nat) (h : Nt w A c xs) (k : Nt w D d ys) (hn : n = xs.length) (hm : m = ys.length) (l1 : xs.length ≤ 10000) (l2 : ys.length ≤ 10000) (h1 : (lim (nv xs)).length ≤ 128) (h2 : (lim (nv ys)).length ≤ 128) :
    Calls Try.prog 41 #[.slice A n c, .slice D m d] w fun e w' => ∃ A' c', e = .returned (.slice A' (lim (nv xs * nv ys)).length c') ∧ Nt w' A' c' (lim (nv xs * nv ys)) ∧ Below w.heap.size w w' := by
  have HR := Lib.hid (mulS_f h1 h2)
  subst hn hm
  go_enter Try.func41, Try.ntmps41
  go_wp2_with fail
  refine (rmul_any w A D c d _ _ xs ys _ 0 h k rfl rfl l1 l2 HR.out).mono ?_
  rintro e wn ⟨A', c', rfl, n', bb⟩
  go_wp2_with fail
  go_ret
  exact ⟨A', c', rfl, n', bb⟩
/-- lowest terms, whatever the size -/
def lowS (q : Rat) : Bool × List Nat × List Nat := (decide (q.num < 0), lim q.num.natAbs, lim q.den)
theorem lowS_zero (b : Bool) {d : Nat} (hd : d ≠ 0) : lowS (qv b 0 d) = (false, [], [1]) := by
  rw [(qv_zero hd).2 rfl]
  have h1 : lim 1 = [1] := by rw [lim]; simp [lim_zero]
  simp [lowS, lim_zero, h1]
theorem lowS_qv {b : Bool} {n d : Nat} (hd : d ≠ 0) (hn : n ≠ 0) : lowS (qv b n d) = (b, lim (n / Nat.gcd n d), lim (d / Nat.gcd n d)) := by
  have h : n / Nat.gcd n d ≠ 0 := Nat.pos_iff_ne_zero.1 (Nat.div_pos (Nat.gcd_le_left _ (Nat.pos_of_ne_zero hn)) (Nat.gcd_pos_of_pos_left _ (Nat.pos_of_ne_zero hn)))
  rw [lowS, qv_neg' hd, qv_abs hd, qv_den hd]
  simp [h]
theorem set3_cells {w : World} {G : Nat} {v0 v1 v2 a b c : Value} (bk : Bk3 w G v0 v1 v2) (o : Obj) :
    ((((w.setCell ⟨G, 0, none⟩ a).setCell ⟨G, 1, none⟩ b).setCell ⟨G, 2, none⟩ c).alloc o).cell? ⟨G, 0, none⟩ = some a ∧ ((((w.setCell ⟨G, 0, none⟩ a).setCell ⟨G, 1, none⟩ b).setCell ⟨G, 2, none⟩ c).alloc o).cell? ⟨G, 1, none⟩ = some b ∧ ((((w.setCell ⟨G, 0, none⟩ a).setCell ⟨G, 1, none⟩ b).setCell ⟨G, 2, none⟩ c).alloc o).cell? ⟨G, 2, none⟩ = some c := by
  obtain ⟨k0, k1, k2, _, _, _, lt, _⟩ := bk
  have hs : G < (((w.setCell ⟨G, 0, none⟩ a).setCell ⟨G, 1, none⟩ b).setCell ⟨G, 2, none⟩ c).heap.size := by simp [World.setCell]; exact lt
  have hb := (Below.refl (((w.setCell ⟨G, 0, none⟩ a).setCell ⟨G, 1, none⟩ b).setCell ⟨G, 2, none⟩ c).heap.size (((w.setCell ⟨G, 0, none⟩ a).setCell ⟨G, 1, none⟩ b).setCell ⟨G, 2, none⟩ c)).alloc (Nat.le_refl _) o
  rw [hb.cell (p := ⟨G, 0, none⟩) hs, hb.cell (p := ⟨G, 1, none⟩) hs, hb.cell (p := ⟨G, 2, none⟩) hs]
  refine ⟨?_, ?_, ?_⟩ <;> simp [go_sem, k0, k1, k2]
set_option maxHeartbeats 1600000 in
theorem rflowest_any (w : World) (b : Bool) (A D : Option Addr) (c d n m : Nat) (xs ys : List Nat) (h : Nt w A c xs) (k : Nt w D d ys) (hn : n = xs.length) (hm : m = ys.length) (hd : nv ys ≠ 0) (_l1 : xs.length ≤ 10000) (_l2 : ys.length ≤ 10000) (l3 : (lim (nv xs)).length ≤ 512) (l4 : (lim (nv ys)).length ≤ 512) :
    Calls Try.prog 44 #[.bool b, .slice A n c, .slice D m d] w (FracNew w (lowS (qv b (nv xs) (nv ys)))) := by
  subst hn hm
  have HY : Hid (nv ys ≠ 0) := hd
  clear hd
  go_enter Try.func44, Try.ntmps44
  go_wp2_with fail
  have bk := bk3_new w
  have bw := (Below.refl w.heap.size w).alloc (Nat.le_refl _) (.cells #[.bool false, .slice none 0 0, .slice none 0 0] 26)
  have na := h.below bw
  have nb := k.below bw
  revert bk bw na nb
  generalize (w.alloc (.cells #[.bool false, .slice none 0 0, .slice none 0 0] 26)) = w1
  intro bk bw na nb
  clear h k
  refine (rtrim_any w1 A c _ xs na rfl (by omega)).mono ?_
  rintro e wn ⟨AN, cN, rfl, gn, bb⟩
  have nc := gn.nt (lim_u32 _)
  clear gn
  try replace bx := bx.below bb
  try replace by_ := by_.below bb
  try replace bk := bk.below bb
  try replace okx := okx.below bb
  try replace oky := oky.below bb
  try replace na := na.below bb
  try replace nb := nb.below bb
  try replace nc := nc.below bb
  try replace nd := nd.below bb
  try replace ne := ne.below bb
  replace bw := below_on bw bb bw.size
  clear bb
  go_wp2_with fail
  refine (rtrim_any wn D d _ ys nb rfl (by omega)).mono ?_
  rintro e wn ⟨AD, cD, rfl, gn, bb⟩
  have nd := gn.nt (lim_u32 _)
  clear gn
  try replace bx := bx.below bb
  try replace by_ := by_.below bb
  try replace bk := bk.below bb
  try replace okx := okx.below bb
  try replace oky := oky.below bb
  try replace na := na.below bb
  try replace nb := nb.below bb
  try replace nc := nc.below bb
  try replace nd := nd.below bb
  try replace ne := ne.below bb
  replace bw := below_on bw bb bw.size
  clear bb
  clear na nb
  revert l3 l4 nd nc
  generalize nv xs = N at *
  generalize nv ys = M at *
  intro l3 l4 nd nc
  by_cases hN : N = 0
  · have hl : (lim N).length = 0 := by rw [hN, lim_zero]; rfl
    have HL : Hid (lowS (qv b N M) = (false, [], [1])) := Lib.hid (by rw [hN]; exact lowS_zero b HY.out)
    clear hN
    have tk := bk
    obtain ⟨k0, k1, k2, kf0, kf1, kf2, klt, kb⟩ := tk
    clear kb
    go_wp2_with fail
    have cc := set3_cells (a := .bool false) (b := .slice none 0 0) (c := .slice (some ⟨wn.heap.size, 0, none⟩) 1 1) bk (.cells #[.int .u32 1] 82)
    obtain ⟨cc0, cc1, cc2⟩ := cc
    refine bodyPost_ret (v := (⟨false, none, 0, [], some ⟨wn.heap.size, 0, none⟩, 1, [1]⟩ : Fx).val) (by simp [results, Try.results44, go_sem, cc0, cc1, cc2]) rfl ?_
    rw [HL.out]
    have hsz : (((wn.setCell ⟨w.heap.size, 0, none⟩ (.bool false)).setCell ⟨w.heap.size, 1, none⟩ (.slice none 0 0)).setCell ⟨w.heap.size, 2, none⟩ (.slice (some ⟨wn.heap.size, 0, none⟩) 1 1)).heap.size = wn.heap.size := by simp [World.setCell]
    have bw2 := set3g (a := .bool false) (b := .slice none 0 0) (c := .slice (some ⟨wn.heap.size, 0, none⟩) 1 1) bw (Nat.le_refl _)
    have hg := Gr.lit (mk := lmv) (e := 82) (B := w.heap.size) (((wn.setCell ⟨w.heap.size, 0, none⟩ (.bool false)).setCell ⟨w.heap.size, 1, none⟩ (.slice none 0 0)).setCell ⟨w.heap.size, 2, none⟩ (.slice (some ⟨wn.heap.size, 0, none⟩) 1 1)) [1] #[.int .u32 1] rfl (by simp [maxLen]) bw2.size
    rw [hsz] at hg
    exact ⟨⟨false, none, 0, [], some ⟨wn.heap.size, 0, none⟩, 1, [1]⟩, rfl, ⟨rfl, rfl, rfl⟩, ⟨Nt.nil _ _ _ (by show 0 ≤ _; omega), hg.nt (U32.one (by omega))⟩, bw2.alloc bw2.size _⟩
  · have HLS := Lib.hid (lowS_qv (b := b) HY.out hN)
    have hl : (lim N).length ≠ 0 := fun h => hN (lim_eq_nil.1 (List.length_eq_zero_iff.1 h))
    have hlp : 0 < (lim N).length := by omega
    have hlb : (((lim N).length : Int) == 0) = false := beq_eq_false_iff_ne.2 (by omega)
    obtain ⟨G, hG⟩ : ∃ G, G = Nat.gcd N M := ⟨_, rfl⟩
    rw [← hG] at HLS
    have hG0 : 0 < G := by rw [hG]; exact Nat.gcd_pos_of_pos_left _ (Nat.pos_of_ne_zero hN)
    have lG : (lim G).length ≤ 512 := by
      have := lim_length_mono (Nat.gcd_le_left M (Nat.pos_of_ne_zero hN))
      rw [← hG] at this; omega
    have HG0 := Lib.hid hG0
    have hgc : gcdS (nv (lim N)) (nv (lim M)) = (lim G, 0) := by rw [nv_lim, nv_lim, gcdS_ok (by omega) (by omega), hG]
    have hd1 : divS (nv (lim N)) (nv (lim G)) = (lim (N / G), lim (N % G), 0) := by rw [nv_lim, nv_lim, divS_ok (by omega) (by omega) (by omega)]
    have hd2 : divS (nv (lim M)) (nv (lim G)) = (lim (M / G), lim (M % G), 0) := by rw [nv_lim, nv_lim, divS_ok (by omega) (by omega) (by omega)]
    have HGC := Lib.hid hgc
    have HD1 := Lib.hid hd1
    have HD2 := Lib.hid hd2
    clear hN hG hG0 hgc hd1 hd2
    go_wp2_with fail
    refine (rgcd_any _ AN AD cN cD _ _ (lim N) (lim M) (lim G) 0 nc nd rfl rfl (by omega) (by omega) HGC.out).mono ?_
    rintro e wn ⟨AG, cG, rfl, ng, bb⟩
    try replace bx := bx.below bb
    try replace by_ := by_.below bb
    try replace bk := bk.below bb
    try replace okx := okx.below bb
    try replace oky := oky.below bb
    try replace na := na.below bb
    try replace nb := nb.below bb
    try replace nc := nc.below bb
    try replace nd := nd.below bb
    try replace ne := ne.below bb
    replace bw := below_on bw bb bw.size
    clear bb
    by_cases h1 : 1 < (lim G).length
    · have h1i : (1 : Int) < ((lim G).length : Int) := by omega
      go_wp2_with fail
      refine (rdiv_any _ AN AG cN cG _ _ (lim N) (lim G) (lim (N / G)) (lim (N % G)) 0 nc ng rfl rfl (by omega) (by omega) HD1.out).mono ?_
      rintro e wn ⟨A1, c1, AR, cR, rfl, na, _, bb⟩
      replace ng := ng.below bb
      try replace bx := bx.below bb
      try replace by_ := by_.below bb
      try replace bk := bk.below bb
      try replace okx := okx.below bb
      try replace oky := oky.below bb
      try replace na := na.below bb
      try replace nb := nb.below bb
      try replace nc := nc.below bb
      try replace nd := nd.below bb
      try replace ne := ne.below bb
      replace bw := below_on bw bb bw.size
      clear bb
      go_wp2_with fail
      refine (rdiv_any _ AD AG cD cG _ _ (lim M) (lim G) (lim (M / G)) (lim (M % G)) 0 nd ng rfl rfl (by omega) (by omega) HD2.out).mono ?_
      rintro e wn ⟨A2, c2, AR2, cR2, rfl, nb, _, bb⟩
      try replace bx := bx.below bb
      try replace by_ := by_.below bb
      try replace bk := bk.below bb
      try replace okx := okx.below bb
      try replace oky := oky.below bb
      try replace na := na.below bb
      try replace nb := nb.below bb
      try replace nc := nc.below bb
      try replace nd := nd.below bb
      try replace ne := ne.below bb
      replace bw := below_on bw bb bw.size
      clear bb
      have tk := bk
      obtain ⟨k0, k1, k2, kf0, kf1, kf2, klt, kb⟩ := tk
      clear kb
      go_wp2_with fail
      refine bodyPost_ret (v := (⟨b, A1, c1, (lim (N / G)), A2, c2, (lim (M / G))⟩ : Fx).val) (by simp [results, Try.results44, go_sem, k0, k1, k2]) rfl ?_
      rw [HLS.out]
      exact ⟨⟨b, A1, c1, lim (N / G), A2, c2, lim (M / G)⟩, rfl, ⟨rfl, rfl, rfl⟩, set3_ok (x := ⟨b, A1, c1, lim (N / G), A2, c2, lim (M / G)⟩) ⟨na, nb⟩ bk rfl rfl rfl, set3g bw (by omega)⟩
    · have h1i : ¬ (1 : Int) < ((lim G).length : Int) := by omega
      have hlG : (lim G).length = 1 := by
        have := lim_length_pos.2 (Nat.pos_iff_ne_zero.1 HG0.out); omega
      obtain ⟨ad, rfl, had, hcell, hlt⟩ := ng.at 0 (by omega)
      have hGv : (lim G)[0] = G := by
        have e := nv_lim G
        obtain ⟨z, hz⟩ := List.length_eq_one_iff.1 hlG
        simp only [hz, nv_cons, nv_nil] at e ⊢
        simp at e ⊢; exact e
      rw [hGv, show ad.add 0 = ad by unfold Addr.add; simp] at hcell
      have hpos : 0 < (lim G).length := by omega
      clear hlt hGv hlG
      by_cases h2 : 1 < G
      · have h2i : (1 : Int) < (G : Int) := by omega
        go_wp2_with fail
        refine (rdiv_any _ AN (some ad) cN cG _ _ (lim N) (lim G) (lim (N / G)) (lim (N % G)) 0 nc ng rfl rfl (by omega) (by omega) HD1.out).mono ?_
        rintro e wn ⟨A1, c1, AR, cR, rfl, na, _, bb⟩
        replace ng := ng.below bb
        try replace bx := bx.below bb
        try replace by_ := by_.below bb
        try replace bk := bk.below bb
        try replace okx := okx.below bb
        try replace oky := oky.below bb
        try replace na := na.below bb
        try replace nb := nb.below bb
        try replace nc := nc.below bb
        try replace nd := nd.below bb
        try replace ne := ne.below bb
        replace bw := below_on bw bb bw.size
        clear bb
        go_wp2_with fail
        refine (rdiv_any _ AD (some ad) cD cG _ _ (lim M) (lim G) (lim (M / G)) (lim (M % G)) 0 nd ng rfl rfl (by omega) (by omega) HD2.out).mono ?_
        rintro e wn ⟨A2, c2, AR2, cR2, rfl, nb, _, bb⟩
        try replace bx := bx.below bb
        try replace by_ := by_.below bb
        try replace bk := bk.below bb
        try replace okx := okx.below bb
        try replace oky := oky.below bb
        try replace na := na.below bb
        try replace nb := nb.below bb
        try replace nc := nc.below bb
        try replace nd := nd.below bb
        try replace ne := ne.below bb
        replace bw := below_on bw bb bw.size
        clear bb
        have tk := bk
        obtain ⟨k0, k1, k2, kf0, kf1, kf2, klt, kb⟩ := tk
        clear kb
        go_wp2_with fail
        refine bodyPost_ret (v := (⟨b, A1, c1, (lim (N / G)), A2, c2, (lim (M / G))⟩ : Fx).val) (by simp [results, Try.results44, go_sem, k0, k1, k2]) rfl ?_
        rw [HLS.out]
        exact ⟨⟨b, A1, c1, lim (N / G), A2, c2, lim (M / G)⟩, rfl, ⟨rfl, rfl, rfl⟩, set3_ok (x := ⟨b, A1, c1, lim (N / G), A2, c2, lim (M / G)⟩) ⟨na, nb⟩ bk rfl rfl rfl, set3g bw (by omega)⟩
      · have h2i : ¬ (1 : Int) < (G : Int) := by omega
        have HG1 : Hid (G = 1) := Lib.hid (by have := HG0.out; omega)
        have tk := bk
        obtain ⟨k0, k1, k2, kf0, kf1, kf2, klt, kb⟩ := tk
        clear kb
        go_wp2_with fail
        refine bodyPost_ret (v := (⟨b, AN, cN, lim N, AD, cD, lim M⟩ : Fx).val) (by simp [results, Try.results44, go_sem, k0, k1, k2]) rfl ?_
        rw [HLS.out, HG1.out, Nat.div_one, Nat.div_one]
        exact ⟨⟨b, AN, cN, lim N, AD, cD, lim M⟩, rfl, ⟨rfl, rfl, rfl⟩, set3_ok (x := ⟨b, AN, cN, lim N, AD, cD, lim M⟩) ⟨nc, nd⟩ bk rfl rfl rfl, set3g bw (by omega)⟩
end Go.Proofs.Ytnmomigaedfdoaa
