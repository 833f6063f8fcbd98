/- The walk of FractionReduced. -/
import Derived.Test.YtlcolmifmhdboaaFrS
import Derived.Test.YtlcolmifmhdboaaRefF
import Derived.Test.YtlcolmifmhdboaaNatL
import Derived.Test.YtlcolmifmhdboaaFrcA
import Derived.Deep.RegionHeld
namespace Go.Proofs.Ytlcolmifmhdboaa
open Go.RowKit

set_option maxRecDepth 100000 in
theorem ne_row {A : Option Addr} {n g : Nat} (h : ∀ ad, A = some ad → ad.block < n) (hg : n ≤ g) : some g ≠ A.map (·.block) := by
  cases A with
  | none => simp
  | some ad => have := h ad rfl; simp; omega
set_option maxRecDepth 100000 in
theorem row_ne {A A2 D : Option Addr} {n : Nat} (at_ : A2.map (·.block) = A.map (·.block) ∨ A2.map (·.block) = some n) (h : ∀ ad, A = some ad → some ad.block ≠ D.map (·.block)) (hd : ∀ ad, D = some ad → ad.block < n) : ∀ ad, A2 = some ad → some ad.block ≠ D.map (·.block) := by
  intro ad e e2
  subst e
  rcases at_ with k | k
  · cases A with
    | none => cases k
    | some a0 => simp at k; exact h a0 rfl (by rw [← k]; exact e2)
  · cases D with
    | none => cases e2
    | some d0 => have := hd d0 rfl; simp at k e2; omega
set_option maxRecDepth 100000 in
theorem row_lt {A A2 : Option Addr} {n g : Nat} (at_ : A2.map (·.block) = A.map (·.block) ∨ A2.map (·.block) = some n) (h : some g ≠ A.map (·.block)) (hg : g < n) : some g ≠ A2.map (·.block) := by
  rcases at_ with k | k
  · rw [k]; exact h
  · rw [k]; simp; omega
set_option maxRecDepth 100000 in
theorem lit_v (w : World) (v : Nat) (hv : v < 4294967296) : Nt (w.alloc (.cells #[.int .u32 v] 26)) (some ⟨w.heap.size, 0, none⟩) 1 [v] ∧ Below w.heap.size w (w.alloc (.cells #[.int .u32 v] 26)) := by
  have hg := Gr.lit (mk := lmv) (e := 26) (B := w.heap.size) w [v] #[.int .u32 v] rfl (by simp [maxLen]) (Nat.le_refl _)
  exact ⟨hg.nt (U32.one hv), (Below.refl _ _).alloc (Nat.le_refl _) _⟩
set_option maxRecDepth 100000 in
/-- a factor in both numbers makes no difference -/
theorem qv_factor {b : Bool} {n d c : Nat} (hc : c ≠ 0) : qv b (n * c) (d * c) = qv b n d := by
  rw [qv, qv, ← Rat.divInt_ofNat, ← Rat.divInt_ofNat, ← sg_mulr, Int.natCast_mul]
  exact Rat.divInt_mul_right (by omega)
set_option maxRecDepth 100000 in
theorem nv_zeros (n k : Nat) : nv (lim n ++ List.replicate k 0) = n := by
  rw [nv_append, nv_replicate, nv_lim]; simp
set_option maxRecDepth 100000 in
set_option maxHeartbeats 1600000 in
theorem red_long (w : World) (x1 x2 : Fx) (c : Nat) (ok1 : x1.ok w) (ok2 : x2.ok w) (hL : lensB [x1, x2]) (h : longB [x1, x2] = true) :
    Calls Try.prog 3 #[x1.val, x2.val, .int .u32 c] w fun e w' => e = .returned (.bool true) ∧ Below w.heap.size w w' := by
  have HL := Lib.hid hL
  have H := Lib.hid h
  clear hL h
  go_enter Try.func3, Try.ntmps3
  go_upto_region 1 with fail
  have bw := Below.refl w.heap.size w
  have a1 := (fa_alloc ok1).1
  have bb := (fa_alloc ok1).2
  have sz1 := size_box w (.cells #[.bool x1.b, .slice x1.A x1.xs.length x1.c, .slice x1.D x1.ys.length x1.d] 25)
  clear ok1
  generalize (w.alloc (.cells #[.bool x1.b, .slice x1.A x1.xs.length x1.c, .slice x1.D x1.ys.length x1.d] 25)) = wA at a1 bb sz1 ⊢
  try replace ok1 := ok1.below bb
  try replace ok2 := ok2.below bb
  try replace a1 := a1.below bb
  replace bw := below_on bw bb bw.size
  clear bb
  have a2 := (fa_alloc ok2).1
  have bb := (fa_alloc ok2).2
  have sz2 := size_box wA (.cells #[.bool x2.b, .slice x2.A x2.xs.length x2.c, .slice x2.D x2.ys.length x2.d] 25)
  rw [sz1] at a2 sz2
  clear ok2 sz1
  generalize (wA.alloc (.cells #[.bool x2.b, .slice x2.A x2.xs.length x2.c, .slice x2.D x2.ys.length x2.d] 25)) = wm at a2 bb sz2 ⊢
  try replace ok1 := ok1.below bb
  try replace ok2 := ok2.below bb
  try replace a1 := a1.below bb
  try replace a2 := a2.below bb
  replace bw := below_on bw bb bw.size
  clear bb
  clear sz2
  have ci0 := a1.c0
  have ci1 := a1.c1
  have ci2 := a1.c2
  have cj0 := a2.c0
  have cj1 := a2.c1
  have cj2 := a2.c2
  go_wp2_with fail
  clear ci0 ci1 ci2 cj0 cj1 cj2
  have hr := rdf2 wm x1 x2
  have bb := (Below.refl wm.heap.size wm).alloc (Nat.le_refl _) (.cells #[.bool x1.b, .slice x1.A x1.xs.length x1.c, .slice x1.D x1.ys.length x1.d, .bool x2.b, .slice x2.A x2.xs.length x2.c, .slice x2.D x2.ys.length x2.d] 25)
  generalize (wm.alloc (.cells #[.bool x1.b, .slice x1.A x1.xs.length x1.c, .slice x1.D x1.ys.length x1.d, .bool x2.b, .slice x2.A x2.xs.length x2.c, .slice x2.D x2.ys.length x2.d] 25)) = wn at hr bb ⊢
  try replace a1 := a1.below bb
  try replace a2 := a2.below bb
  replace bw := below_on bw bb bw.size
  clear bb
  refine (flong_any wn _ _ _ _ true hr rfl (by simp) (by intro v hv; simp only [List.mem_cons, List.not_mem_nil, or_false] at hv; rcases hv with rfl | rfl <;> exact HL.out _ (by simp)) H.out).mono ?_
  rintro e wl ⟨rfl, rfl⟩
  clear hr
  go_wp2_with fail
  refine (awakef_any _).mono ?_
  rintro e wn ⟨rfl, bb⟩
  try replace a1 := a1.below bb
  try replace a2 := a2.below bb
  replace bw := below_on bw bb bw.size
  clear bb
  go_wp2_with fail
  go_ret
  exact ⟨rfl, bw⟩
set_option maxRecDepth 100000 in
set_option maxHeartbeats 1600000 in
theorem red_bad (w : World) (x1 x2 : Fx) (c : Nat) (ok1 : x1.ok w) (ok2 : x2.ok w) (hL : lensB [x1, x2]) (h : longB [x1, x2] = false) (l1 : x1.xs.length ≤ 10000) (m1 : x1.ys.length ≤ 10000) (l2 : x2.xs.length ≤ 10000) (m2 : x2.ys.length ≤ 10000) (hv : ¬ (x1.v ∧ x2.v ∧ c ≠ 0)) :
    Calls Try.prog 3 #[x1.val, x2.val, .int .u32 c] w fun e w' => e = .returned (.bool true) ∧ Below w.heap.size w w' := by
  have HL := Lib.hid hL
  have H := Lib.hid h
  clear hL h
  by_cases hv1 : x1.v
  · have HV1 := Lib.hid hv1
    by_cases hv2 : x2.v
    · have HV2 := Lib.hid hv2
      have hc0 : ((c : Int) == 0) = true := by
        have : c = 0 := by
          rcases Nat.eq_zero_or_pos c with h0 | h0
          · exact h0
          · exact absurd ⟨hv1, hv2, by omega⟩ hv
        rw [this]; rfl
      clear hv1 hv2 hv
      go_enter Try.func3, Try.ntmps3
      go_upto_region 1 with fail
      have bw := Below.refl w.heap.size w
      have a1 := (fa_alloc ok1).1
      have bb := (fa_alloc ok1).2
      have sz1 := size_box w (.cells #[.bool x1.b, .slice x1.A x1.xs.length x1.c, .slice x1.D x1.ys.length x1.d] 25)
      clear ok1
      generalize (w.alloc (.cells #[.bool x1.b, .slice x1.A x1.xs.length x1.c, .slice x1.D x1.ys.length x1.d] 25)) = wA at a1 bb sz1 ⊢
      try replace ok1 := ok1.below bb
      try replace ok2 := ok2.below bb
      try replace a1 := a1.below bb
      replace bw := below_on bw bb bw.size
      clear bb
      have a2 := (fa_alloc ok2).1
      have bb := (fa_alloc ok2).2
      have sz2 := size_box wA (.cells #[.bool x2.b, .slice x2.A x2.xs.length x2.c, .slice x2.D x2.ys.length x2.d] 25)
      rw [sz1] at a2 sz2
      clear ok2 sz1
      generalize (wA.alloc (.cells #[.bool x2.b, .slice x2.A x2.xs.length x2.c, .slice x2.D x2.ys.length x2.d] 25)) = wm at a2 bb sz2 ⊢
      try replace ok1 := ok1.below bb
      try replace ok2 := ok2.below bb
      try replace a1 := a1.below bb
      try replace a2 := a2.below bb
      replace bw := below_on bw bb bw.size
      clear bb
      clear sz2
      have ci0 := a1.c0
      have ci1 := a1.c1
      have ci2 := a1.c2
      have cj0 := a2.c0
      have cj1 := a2.c1
      have cj2 := a2.c2
      go_wp2_with fail
      clear ci0 ci1 ci2 cj0 cj1 cj2
      have hr := rdf2 wm x1 x2
      have bb := (Below.refl wm.heap.size wm).alloc (Nat.le_refl _) (.cells #[.bool x1.b, .slice x1.A x1.xs.length x1.c, .slice x1.D x1.ys.length x1.d, .bool x2.b, .slice x2.A x2.xs.length x2.c, .slice x2.D x2.ys.length x2.d] 25)
      generalize (wm.alloc (.cells #[.bool x1.b, .slice x1.A x1.xs.length x1.c, .slice x1.D x1.ys.length x1.d, .bool x2.b, .slice x2.A x2.xs.length x2.c, .slice x2.D x2.ys.length x2.d] 25)) = wn at hr bb ⊢
      try replace a1 := a1.below bb
      try replace a2 := a2.below bb
      replace bw := below_on bw bb bw.size
      clear bb
      refine (flong_any wn _ _ _ _ false hr rfl (by simp) (by intro v hv; simp only [List.mem_cons, List.not_mem_nil, or_false] at hv; rcases hv with rfl | rfl <;> exact HL.out _ (by simp)) H.out).mono ?_
      rintro e wl ⟨rfl, rfl⟩
      clear hr
      have ci0 := a1.c0
      have ci1 := a1.c1
      have ci2 := a1.c2
      go_wp2_with fail
      clear ci0 ci1 ci2
      refine (rfvalid_any _ x1 true a1.ok l1 m1 (decide_eq_true HV1.out)).mono ?_
      rintro e wn ⟨rfl, bb⟩
      try replace a1 := a1.below bb
      try replace a2 := a2.below bb
      replace bw := below_on bw bb bw.size
      clear bb
      have ci0 := a2.c0
      have ci1 := a2.c1
      have ci2 := a2.c2
      go_wp2_with fail
      clear ci0 ci1 ci2
      refine (rfvalid_any _ x2 true a2.ok l2 m2 (decide_eq_true HV2.out)).mono ?_
      rintro e wn ⟨rfl, bb⟩
      try replace a1 := a1.below bb
      try replace a2 := a2.below bb
      replace bw := below_on bw bb bw.size
      clear bb
      go_wp2_with fail
      refine (awakef_any _).mono ?_
      rintro e wn ⟨rfl, bb⟩
      try replace a1 := a1.below bb
      try replace a2 := a2.below bb
      replace bw := below_on bw bb bw.size
      clear bb
      go_wp2_with fail
      go_ret
      exact ⟨rfl, bw⟩
    · have HV2 : Hid (¬ x2.v) := hv2
      clear hv1 hv2 hv
      go_enter Try.func3, Try.ntmps3
      go_upto_region 1 with fail
      have bw := Below.refl w.heap.size w
      have a1 := (fa_alloc ok1).1
      have bb := (fa_alloc ok1).2
      have sz1 := size_box w (.cells #[.bool x1.b, .slice x1.A x1.xs.length x1.c, .slice x1.D x1.ys.length x1.d] 25)
      clear ok1
      generalize (w.alloc (.cells #[.bool x1.b, .slice x1.A x1.xs.length x1.c, .slice x1.D x1.ys.length x1.d] 25)) = wA at a1 bb sz1 ⊢
      try replace ok1 := ok1.below bb
      try replace ok2 := ok2.below bb
      try replace a1 := a1.below bb
      try replace a2 := a2.below bb
      replace bw := below_on bw bb bw.size
      clear bb
      have a2 := (fa_alloc ok2).1
      have bb := (fa_alloc ok2).2
      have sz2 := size_box wA (.cells #[.bool x2.b, .slice x2.A x2.xs.length x2.c, .slice x2.D x2.ys.length x2.d] 25)
      rw [sz1] at a2 sz2
      clear ok2 sz1
      generalize (wA.alloc (.cells #[.bool x2.b, .slice x2.A x2.xs.length x2.c, .slice x2.D x2.ys.length x2.d] 25)) = wm at a2 bb sz2 ⊢
      try replace ok1 := ok1.below bb
      try replace ok2 := ok2.below bb
      try replace a1 := a1.below bb
      try replace a2 := a2.below bb
      replace bw := below_on bw bb bw.size
      clear bb
      clear sz2
      have ci0 := a1.c0
      have ci1 := a1.c1
      have ci2 := a1.c2
      have cj0 := a2.c0
      have cj1 := a2.c1
      have cj2 := a2.c2
      go_wp2_with fail
      clear ci0 ci1 ci2 cj0 cj1 cj2
      have hr := rdf2 wm x1 x2
      have bb := (Below.refl wm.heap.size wm).alloc (Nat.le_refl _) (.cells #[.bool x1.b, .slice x1.A x1.xs.length x1.c, .slice x1.D x1.ys.length x1.d, .bool x2.b, .slice x2.A x2.xs.length x2.c, .slice x2.D x2.ys.length x2.d] 25)
      generalize (wm.alloc (.cells #[.bool x1.b, .slice x1.A x1.xs.length x1.c, .slice x1.D x1.ys.length x1.d, .bool x2.b, .slice x2.A x2.xs.length x2.c, .slice x2.D x2.ys.length x2.d] 25)) = wn at hr bb ⊢
      try replace a1 := a1.below bb
      try replace a2 := a2.below bb
      replace bw := below_on bw bb bw.size
      clear bb
      refine (flong_any wn _ _ _ _ false hr rfl (by simp) (by intro v hv; simp only [List.mem_cons, List.not_mem_nil, or_false] at hv; rcases hv with rfl | rfl <;> exact HL.out _ (by simp)) H.out).mono ?_
      rintro e wl ⟨rfl, rfl⟩
      clear hr
      have ci0 := a1.c0
      have ci1 := a1.c1
      have ci2 := a1.c2
      go_wp2_with fail
      clear ci0 ci1 ci2
      refine (rfvalid_any _ x1 true a1.ok l1 m1 (decide_eq_true HV1.out)).mono ?_
      rintro e wn ⟨rfl, bb⟩
      try replace a1 := a1.below bb
      try replace a2 := a2.below bb
      replace bw := below_on bw bb bw.size
      clear bb
      have ci0 := a2.c0
      have ci1 := a2.c1
      have ci2 := a2.c2
      go_wp2_with fail
      clear ci0 ci1 ci2
      refine (rfvalid_any _ x2 false a2.ok l2 m2 (decide_eq_false HV2.out)).mono ?_
      rintro e wn ⟨rfl, bb⟩
      try replace a1 := a1.below bb
      try replace a2 := a2.below bb
      replace bw := below_on bw bb bw.size
      clear bb
      go_wp2_with fail
      refine (awakef_any _).mono ?_
      rintro e wn ⟨rfl, bb⟩
      try replace a1 := a1.below bb
      try replace a2 := a2.below bb
      replace bw := below_on bw bb bw.size
      clear bb
      go_wp2_with fail
      go_ret
      exact ⟨rfl, bw⟩
  · have HV1 : Hid (¬ x1.v) := hv1
    clear hv1 hv
    go_enter Try.func3, Try.ntmps3
    go_upto_region 1 with fail
    have bw := Below.refl w.heap.size w
    have a1 := (fa_alloc ok1).1
    have bb := (fa_alloc ok1).2
    have sz1 := size_box w (.cells #[.bool x1.b, .slice x1.A x1.xs.length x1.c, .slice x1.D x1.ys.length x1.d] 25)
    clear ok1
    generalize (w.alloc (.cells #[.bool x1.b, .slice x1.A x1.xs.length x1.c, .slice x1.D x1.ys.length x1.d] 25)) = wA at a1 bb sz1 ⊢
    try replace ok1 := ok1.below bb
    try replace ok2 := ok2.below bb
    try replace a1 := a1.below bb
    try replace a2 := a2.below bb
    replace bw := below_on bw bb bw.size
    clear bb
    have a2 := (fa_alloc ok2).1
    have bb := (fa_alloc ok2).2
    have sz2 := size_box wA (.cells #[.bool x2.b, .slice x2.A x2.xs.length x2.c, .slice x2.D x2.ys.length x2.d] 25)
    rw [sz1] at a2 sz2
    clear ok2 sz1
    generalize (wA.alloc (.cells #[.bool x2.b, .slice x2.A x2.xs.length x2.c, .slice x2.D x2.ys.length x2.d] 25)) = wm at a2 bb sz2 ⊢
    try replace ok1 := ok1.below bb
    try replace ok2 := ok2.below bb
    try replace a1 := a1.below bb
    try replace a2 := a2.below bb
    replace bw := below_on bw bb bw.size
    clear bb
    clear sz2
    have ci0 := a1.c0
    have ci1 := a1.c1
    have ci2 := a1.c2
    have cj0 := a2.c0
    have cj1 := a2.c1
    have cj2 := a2.c2
    go_wp2_with fail
    clear ci0 ci1 ci2 cj0 cj1 cj2
    have hr := rdf2 wm x1 x2
    have bb := (Below.refl wm.heap.size wm).alloc (Nat.le_refl _) (.cells #[.bool x1.b, .slice x1.A x1.xs.length x1.c, .slice x1.D x1.ys.length x1.d, .bool x2.b, .slice x2.A x2.xs.length x2.c, .slice x2.D x2.ys.length x2.d] 25)
    generalize (wm.alloc (.cells #[.bool x1.b, .slice x1.A x1.xs.length x1.c, .slice x1.D x1.ys.length x1.d, .bool x2.b, .slice x2.A x2.xs.length x2.c, .slice x2.D x2.ys.length x2.d] 25)) = wn at hr bb ⊢
    try replace a1 := a1.below bb
    try replace a2 := a2.below bb
    replace bw := below_on bw bb bw.size
    clear bb
    refine (flong_any wn _ _ _ _ false hr rfl (by simp) (by intro v hv; simp only [List.mem_cons, List.not_mem_nil, or_false] at hv; rcases hv with rfl | rfl <;> exact HL.out _ (by simp)) H.out).mono ?_
    rintro e wl ⟨rfl, rfl⟩
    clear hr
    have ci0 := a1.c0
    have ci1 := a1.c1
    have ci2 := a1.c2
    go_wp2_with fail
    clear ci0 ci1 ci2
    refine (rfvalid_any _ x1 false a1.ok l1 m1 (decide_eq_false HV1.out)).mono ?_
    rintro e wn ⟨rfl, bb⟩
    try replace a1 := a1.below bb
    try replace a2 := a2.below bb
    replace bw := below_on bw bb bw.size
    clear bb
    go_wp2_with fail
    refine (awakef_any _).mono ?_
    rintro e wn ⟨rfl, bb⟩
    try replace a1 := a1.below bb
    try replace a2 := a2.below bb
    replace bw := below_on bw bb bw.size
    clear bb
    go_wp2_with fail
    go_ret
    exact ⟨rfl, bw⟩
set_option maxRecDepth 100000 in
set_option maxHeartbeats 4000000 in
theorem red_main (w : World) (x1 x2 : Fx) (c : Nat) (ok1 : x1.ok w) (ok2 : x2.ok w) (hL : lensB [x1, x2]) (h : longB [x1, x2] = false) (l1 : x1.xs.length ≤ 10000) (m1 : x1.ys.length ≤ 10000) (l2 : x2.xs.length ≤ 10000) (m2 : x2.ys.length ≤ 10000) (hv1 : x1.v) (hv2 : x2.v) (hc0 : c ≠ 0) (hc32 : c < 4294967296) (lx : (lim (nv x1.xs)).length ≤ 24) (ly : (lim (nv x1.ys)).length ≤ 24) :
    Calls Try.prog 3 #[x1.val, x2.val, .int .u32 c] w fun e w' => e = .returned (.bool true) ∧ Below w.heap.size w w' := by
  have HL := Lib.hid hL
  have H := Lib.hid h
  have HV1 := Lib.hid hv1
  have HV2 := Lib.hid hv2
  have hcb : ((c : Int) == 0) = false := beq_eq_false_iff_ne.2 (by omega)
  have lc : (lim c).length ≤ 1 := by rw [lim_length_le]; exact hc32
  have hnc : nv [c] = c := by simp [nv_cons, nv_nil]
  have HNX := Lib.hid (len_mulf lx lc)
  have HNY := Lib.hid (len_mulf ly lc)
  have LC := Lib.hid lc
  have HNC := Lib.hid hnc
  clear hL h hv1 hv2 lc hnc
  go_enter Try.func3, Try.ntmps3
  go_upto_region 1 with fail
  have bw := Below.refl w.heap.size w
  have a1 := (fa_alloc ok1).1
  have bb := (fa_alloc ok1).2
  have sz1 := size_box w (.cells #[.bool x1.b, .slice x1.A x1.xs.length x1.c, .slice x1.D x1.ys.length x1.d] 25)
  clear ok1
  generalize (w.alloc (.cells #[.bool x1.b, .slice x1.A x1.xs.length x1.c, .slice x1.D x1.ys.length x1.d] 25)) = wA at a1 bb sz1 ⊢
  try replace ok1 := ok1.below bb
  try replace ok2 := ok2.below bb
  try replace a1 := a1.below bb
  replace bw := below_on bw bb bw.size
  clear bb
  have a2 := (fa_alloc ok2).1
  have bb := (fa_alloc ok2).2
  have sz2 := size_box wA (.cells #[.bool x2.b, .slice x2.A x2.xs.length x2.c, .slice x2.D x2.ys.length x2.d] 25)
  rw [sz1] at a2 sz2
  clear ok2 sz1
  generalize (wA.alloc (.cells #[.bool x2.b, .slice x2.A x2.xs.length x2.c, .slice x2.D x2.ys.length x2.d] 25)) = wm at a2 bb sz2 ⊢
  try replace ok1 := ok1.below bb
  try replace ok2 := ok2.below bb
  try replace a1 := a1.below bb
  try replace a2 := a2.below bb
  replace bw := below_on bw bb bw.size
  clear bb
  clear sz2
  have ci0 := a1.c0
  have ci1 := a1.c1
  have ci2 := a1.c2
  have cj0 := a2.c0
  have cj1 := a2.c1
  have cj2 := a2.c2
  go_wp2_with fail
  clear ci0 ci1 ci2 cj0 cj1 cj2
  have hr := rdf2 wm x1 x2
  have bb := (Below.refl wm.heap.size wm).alloc (Nat.le_refl _) (.cells #[.bool x1.b, .slice x1.A x1.xs.length x1.c, .slice x1.D x1.ys.length x1.d, .bool x2.b, .slice x2.A x2.xs.length x2.c, .slice x2.D x2.ys.length x2.d] 25)
  generalize (wm.alloc (.cells #[.bool x1.b, .slice x1.A x1.xs.length x1.c, .slice x1.D x1.ys.length x1.d, .bool x2.b, .slice x2.A x2.xs.length x2.c, .slice x2.D x2.ys.length x2.d] 25)) = wn at hr bb ⊢
  try replace a1 := a1.below bb
  try replace a2 := a2.below bb
  replace bw := below_on bw bb bw.size
  clear bb
  refine (flong_any wn _ _ _ _ false hr rfl (by simp) (by intro v hv; simp only [List.mem_cons, List.not_mem_nil, or_false] at hv; rcases hv with rfl | rfl <;> exact HL.out _ (by simp)) H.out).mono ?_
  rintro e wl ⟨rfl, rfl⟩
  clear hr
  have ci0 := a1.c0
  have ci1 := a1.c1
  have ci2 := a1.c2
  go_wp2_with fail
  clear ci0 ci1 ci2
  refine (rfvalid_any _ x1 true a1.ok l1 m1 (decide_eq_true HV1.out)).mono ?_
  rintro e wn ⟨rfl, bb⟩
  try replace a1 := a1.below bb
  try replace a2 := a2.below bb
  replace bw := below_on bw bb bw.size
  clear bb
  have ci0 := a2.c0
  have ci1 := a2.c1
  have ci2 := a2.c2
  go_wp2_with fail
  clear ci0 ci1 ci2
  refine (rfvalid_any _ x2 true a2.ok l2 m2 (decide_eq_true HV2.out)).mono ?_
  rintro e wn ⟨rfl, bb⟩
  try replace a1 := a1.below bb
  try replace a2 := a2.below bb
  replace bw := below_on bw bb bw.size
  clear bb
  go_upto_region 3 with fail
  have b1 := a1
  have b2 := a2
  have ci0 := a1.c0
  have ci1 := a1.c1
  have ci2 := a1.c2
  go_wp2_with fail
  clear ci0 ci1 ci2
  obtain ⟨nl, bl⟩ := lit_v wn c hc32
  have a1l := a1.below bl
  have a2l := a2.below bl
  generalize (wn.alloc (.cells #[.int .u32 (c : Int)] 26)) = wl at nl a1l a2l bl ⊢
  refine (rmul_own wl x1.A _ x1.c 1 _ 1 x1.xs [c] a1l.ok.num nl rfl rfl l1 (by simp) (by omega) (by rw [HNC.out]; have := LC.out; omega) (by rw [HNC.out]; have := HNX.out; omega)).mono ?_
  rintro e wx ⟨AN, cN, rfl, gx, bb⟩
  have hnv : nv (lim (nv x1.xs * nv [c])) = nv x1.xs * c := by rw [nv_lim, HNC.out]
  have hln : (lim (nv x1.xs * nv [c])).length ≤ 25 := by rw [HNC.out]; exact HNX.out
  have hun : U32 (lim (nv x1.xs * nv [c])) := lim_u32 _
  generalize lim (nv x1.xs * nv [c]) = NS at gx hnv hln hun ⊢
  have bwx := below_on bl bb bl.size
  replace gx := gx.more (B' := wn.heap.size) (fun ad e => Nat.le_trans bl.size (gx.form.2.2 ad e).1)
  replace a1 := a1.below bwx
  replace a2 := a2.below bwx
  clear nl a1l a2l bl bb
  go_upto_region 4 with fail
  have gn := gx
  have HNV := Lib.hid hnv
  have HLN := Lib.hid hln
  have HUN := Lib.hid hun
  clear gx hnv hln hun
  have ci0 := a1.c0
  have ci1 := a1.c1
  have ci2 := a1.c2
  go_wp2_with fail
  clear ci0 ci1 ci2
  obtain ⟨nl, bl⟩ := lit_v wx c hc32
  have a1l := a1.below bl
  have a2l := a2.below bl
  generalize (wx.alloc (.cells #[.int .u32 (c : Int)] 26)) = wk at nl a1l a2l bl ⊢
  refine (rmul_own wk x1.D _ x1.d 1 _ 1 x1.ys [c] a1l.ok.den nl rfl rfl m1 (by simp) (by omega) (by rw [HNC.out]; have := LC.out; omega) (by rw [HNC.out]; have := HNY.out; omega)).mono ?_
  rintro e wy ⟨AD, cD, rfl, gx, bb⟩
  have hnv : nv (lim (nv x1.ys * nv [c])) = nv x1.ys * c := by rw [nv_lim, HNC.out]
  have hln : (lim (nv x1.ys * nv [c])).length ≤ 25 := by rw [HNC.out]; exact HNY.out
  have hun : U32 (lim (nv x1.ys * nv [c])) := lim_u32 _
  generalize lim (nv x1.ys * nv [c]) = DS at gx hnv hln hun ⊢
  have bwy := below_on bl bb bl.size
  replace gx := gx.more (B' := wx.heap.size) (fun ad e => Nat.le_trans bl.size (gx.form.2.2 ad e).1)
  replace a1 := a1.below bwy
  replace a2 := a2.below bwy
  clear nl a1l a2l bl bb
  go_upto_region 5 with fail
  have gd := gx
  have HDV := Lib.hid hnv
  have HLD := Lib.hid hln
  have HUD := Lib.hid hun
  have hdis : ∀ ad ae, AN = some ad → AD = some ae → ad.block < ae.block := fun ad ae e1 e2 => by
    have h1 := (gn.form.2.2 ad e1).2
    have h2 := (gd.form.2.2 ae e2).1
    omega
  replace gn := gn.below bwy
  have bm := below_on bwx bwy bwx.size
  replace gd := gd.more (B' := wn.heap.size) (fun ad e => Nat.le_trans bwx.size (gd.form.2.2 ad e).1)
  clear gx hnv hln hun
  go_cut [11] from 26 (fun s11 w' => ∃ (G : Nat) (z : Fx), s11 = .pointer (some ⟨G, 0, none⟩) ∧ Fa w' G z ∧ z.b = x1.b ∧ z.xs = NS ++ [0] ∧ z.ys = DS ++ [0, 0] ∧ Below wn.heap.size wn w')
  case first =>
    obtain ⟨i0, hi, hz0, hz1, hz2⟩ := info_parts u32_info
    have HND : ∀ ad, AD = some ad → some ad.block ≠ AN.map (·.block) := by
      intro ad e1 e2
      cases AN with
      | none => cases e2
      | some ae => have := hdis _ _ rfl e1; simp at e2; omega
    have HDN : ∀ ad, AN = some ad → some ad.block ≠ AD.map (·.block) := by
      intro ad e1 e2
      cases AD with
      | none => cases e2
      | some ae => have := hdis _ _ e1 rfl; simp at e2; omega
    have hNL : NS.length ≤ 25 := HLN.out
    have hDL : DS.length ≤ 25 := HLD.out
    have B1 := Lib.hid b1
    --REG{
    refine wp_region_held_drew (S := fun w' => w'.cell? ⟨w.heap.size, 0, none⟩ = some (.bool x1.b)) (by kernel_rfl) ((a1.below (Below.refl _ _).drew).c0) (fun hHeld => ?_)
    have bb := (Below.refl wy.heap.size wy).drew
    replace gn := gn.below bb
    replace gd := gd.below bb
    have bz := below_on bm bb bm.size
    clear bb a1 a2
    generalize wy.drew = wd at *
    refine wpAnyH_take (i := 0) (v := .pointer (some ⟨w.heap.size, 0, none⟩)) rfl (by kernel_rfl) (by kernel_rfl) (by kernel_rfl) (fun _ _ _ h => h) (Or.inl ⟨by rfl, ?_⟩) (by assumption) ?_
    · intro w hSw
      try dsimp only at hSw
      go_simp
      try with_reducible rfl
    try simp only [Act.put]
    try simp only [List.setIfInBounds_toArray, List.set_cons_zero, List.set_cons_succ]
    refine wpAnyH_take (i := 1) (v := .bool x1.b) rfl (by kernel_rfl) (by kernel_rfl) (by kernel_rfl) (fun _ _ _ h => h) (Or.inl ⟨by rfl, ?_⟩) (by assumption) ?_
    · intro w hSw
      try dsimp only at hSw
      go_simp
      try with_reducible rfl
    try simp only [Act.put]
    try simp only [List.setIfInBounds_toArray, List.set_cons_zero, List.set_cons_succ]
    refine wpAnyH_take (i := 2) (v := .slice AN NS.length cN) rfl (by kernel_rfl) (by kernel_rfl) (by kernel_rfl) (fun _ _ _ h => h) (Or.inl ⟨by rfl, ?_⟩) (by assumption) ?_
    · intro w hSw
      try dsimp only at hSw
      go_simp
      try with_reducible rfl
    try simp only [Act.put]
    try simp only [List.setIfInBounds_toArray, List.set_cons_zero, List.set_cons_succ]
    refine wpAnyH_take (i := 5) (v := .slice AD DS.length cD) rfl (by kernel_rfl) (by kernel_rfl) (by kernel_rfl) (fun _ _ _ h => h) (Or.inl ⟨by rfl, ?_⟩) (by assumption) ?_
    · intro w hSw
      try dsimp only at hSw
      go_simp
      try with_reducible rfl
    try simp only [Act.put]
    try simp only [List.setIfInBounds_toArray, List.set_cons_zero, List.set_cons_succ]
    refine wpAnyH_ready (rs := [3, 6, 9]) (by kernel_rfl) (by simp) ?_
    refine AllReadyH.cons rfl (fun K hK => ?_) ?_
    · go_simp
      have n1 : Rd lmv (wd.alloc (.cells #[.int .u32 0] 26)) (some ⟨wd.heap.size, 0, none⟩) [0] := (Gr.lit (mk := lmv) (e := 26) (B := wd.heap.size) wd [0] #[.int .u32 0] rfl (by simp [maxLen]) (Nat.le_refl _)).rd
      have bb := (Below.refl wd.heap.size wd).alloc (Nat.le_refl _) (.cells #[.int .u32 0] 26)
      have gn1 := gn.form.2.2
      have gd1 := gd.form.2.2
      generalize hg1 : wd.heap.size = g1 at n1 gn1 gd1 ⊢
      clear gn1 gd1
      replace gn := gn.below bb
      replace gd := gd.below bb
      replace bz := below_on bz bb bz.size
      clear bb
      generalize (wd.alloc (.cells #[.int .u32 0] 26)) = we at *
      clear hg1
      generalize we = wd at *
      refine hK.out _ _ (B1.out.below bz).c0 (fun hHeld => ?_)
      clear hK K
      try simp only [Act.put]
      try simp only [List.setIfInBounds_toArray, List.set_cons_zero, List.set_cons_succ]
      refine wpAnyH_ready (rs := [4, 6, 9]) (by kernel_rfl) (by simp) ?_
      refine AllReadyH.cons rfl (fun K hK => ?_) ?_
      · refine step_append_rd wd (mk := lmv) (fun _ => rfl) rfl _ _ 23 rfl 26 i0 (.int .u32 0) 4 Try.underlying23 hi hz0 hz1 hz2 rfl (B := wn.heap.size) (A := AN) (c := cN) (n := NS.length) (xs := NS) rfl rfl gn (some ⟨g1, 0, none⟩) 1 1 [0] rfl rfl n1 (by simp only [maxLen]; omega) (by omega) bz.size ?_
        intro AN2 cN2 we gN grN bbN atN
        have gd1 := gd.form.2.2
        have nND : ∀ ad, AN2 = some ad → some ad.block ≠ AD.map (·.block) := row_ne atN HDN (fun ad e => (gd1 ad e).2)
        clear gd1
        replace gd := gd.grown grN HND
        replace bz := bz.trans bbN
        clear bbN grN atN n1 gn
        have gn := gN
        clear gN
        generalize we = wd at *
        refine hK.out _ _ (B1.out.below bz).c0 (fun hHeld => ?_)
        clear hK K
        try simp only [Act.put]
        try simp only [List.setIfInBounds_toArray, List.set_cons_zero, List.set_cons_succ]
        refine wpAnyH_ready (rs := [6, 9]) (by kernel_rfl) (by simp) ?_
        refine AllReadyH.cons rfl (fun K hK => ?_) ?_
        · go_simp
          have n2 : Rd lmv (wd.alloc (.cells #[.int .u32 0, .int .u32 0] 26)) (some ⟨wd.heap.size, 0, none⟩) [0, 0] := (Gr.lit (mk := lmv) (e := 26) (B := wd.heap.size) wd [0, 0] #[.int .u32 0, .int .u32 0] rfl (by simp [maxLen]) (Nat.le_refl _)).rd
          have bb := (Below.refl wd.heap.size wd).alloc (Nat.le_refl _) (.cells #[.int .u32 0, .int .u32 0] 26)
          have gn1 := gn.form.2.2
          have gd1 := gd.form.2.2
          generalize hg2 : wd.heap.size = g2 at n2 gn1 gd1 ⊢
          clear gn1 gd1
          replace gn := gn.below bb
          replace gd := gd.below bb
          replace bz := below_on bz bb bz.size
          clear bb
          generalize (wd.alloc (.cells #[.int .u32 0, .int .u32 0] 26)) = we at *
          clear hg2
          generalize we = wd at *
          refine hK.out _ _ (B1.out.below bz).c0 (fun hHeld => ?_)
          clear hK K
          try simp only [Act.put]
          try simp only [List.setIfInBounds_toArray, List.set_cons_zero, List.set_cons_succ]
          refine wpAnyH_ready (rs := [7, 9]) (by kernel_rfl) (by simp) ?_
          refine AllReadyH.cons rfl (fun K hK => ?_) ?_
          · refine step_append_rd wd (mk := lmv) (fun _ => rfl) rfl _ _ 23 rfl 26 i0 (.int .u32 0) 4 Try.underlying23 hi hz0 hz1 hz2 rfl (B := wn.heap.size) (A := AD) (c := cD) (n := DS.length) (xs := DS) rfl rfl gd (some ⟨g2, 0, none⟩) 2 2 [0, 0] rfl rfl n2 (by simp only [maxLen]; omega) (by omega) bz.size ?_
            intro AD2 cD2 we gD grD bbD atD
            replace gn := gn.grown grD nND
            clear nND
            replace bz := bz.trans bbD
            clear bbD grD atD n2 gd
            have gd := gD
            clear gD
            generalize we = wd at *
            refine hK.out _ _ (B1.out.below bz).c0 (fun hHeld => ?_)
            clear hK K
            try simp only [Act.put]
            try simp only [List.setIfInBounds_toArray, List.set_cons_zero, List.set_cons_succ]
            refine wpAnyH_take (i := 8) (v := .agg #[.bool x1.b, .slice AN2 (NS.length + 1) cN2, .slice AD2 (DS.length + 2) cD2]) rfl (by kernel_rfl) (by kernel_rfl) (by kernel_rfl) (fun _ _ _ h => h) (Or.inl ⟨by rfl, ?_⟩) (by assumption) ?_
            · intro w hSw
              try dsimp only at hSw
              go_simp
              try with_reducible rfl
            try simp only [Act.put]
            try simp only [List.setIfInBounds_toArray, List.set_cons_zero, List.set_cons_succ]
            refine wpAnyH_ready (rs := [9]) (by kernel_rfl) (by simp) ?_
            refine AllReadyH.cons rfl (fun K hK => ?_) ?_
            · go_simp
              have kG := bk3_new wd
              have bb := (Below.refl wd.heap.size wd).alloc (Nat.le_refl _) (.cells #[.bool false, .slice none 0 0, .slice none 0 0] 25)
              have sG := bz.size
              have gn1 := gn.form.2.2
              have gd1 := gd.form.2.2
              generalize hG : wd.heap.size = G at kG sG gn1 gd1 ⊢
              clear gn1 gd1
              replace gn := gn.below bb
              replace gd := gd.below bb
              replace bz := below_on bz bb bz.size
              clear bb
              generalize (wd.alloc (.cells #[.bool false, .slice none 0 0, .slice none 0 0] 25)) = we at *
              clear hG
              generalize we = wd at *
              refine hK.out _ _ (B1.out.below bz).c0 (fun hHeld => ?_)
              clear hK K
              try simp only [Act.put]
              try simp only [List.setIfInBounds_toArray, List.set_cons_zero, List.set_cons_succ]
              refine wpAnyH_ready (rs := [10]) (by kernel_rfl) (by simp) ?_
              refine AllReadyH.cons rfl (fun K hK => ?_) ?_
              · have t := kG
                obtain ⟨k0, k1, k2, kf0, kf1, kf2, _, _⟩ := t
                go_simp
                clear k0 k1 k2 kf0 kf1 kf2
                have hb := bk3_put (a := (.bool x1.b)) (b := (.slice AN2 (NS.length + 1) cN2)) (c := (.slice AD2 (DS.length + 2) cD2)) kG
                have okz : (⟨x1.b, AN2, cN2, NS ++ [0], AD2, cD2, DS ++ [0, 0]⟩ : Fx).ok wd := ⟨gn.nt (HUN.out.append (U32.one (by omega))), gd.nt (HUD.out.append (U32.cons (by omega) (U32.one (by omega))))⟩
                have oky : Fx.ok ⟨x1.b, AN2, cN2, NS ++ [0], AD2, cD2, DS ++ [0, 0]⟩ (((wd.setCell ⟨G, 0, none⟩ (.bool x1.b)).setCell ⟨G, 1, none⟩ (.slice AN2 (NS.length + 1) cN2)).setCell ⟨G, 2, none⟩ (.slice AD2 (DS.length + 2) cD2)) := set3_ok okz kG rfl rfl rfl
                have b5 := set3g (G := G) (a := (.bool x1.b)) (b := (.slice AN2 (NS.length + 1) cN2)) (c := (.slice AD2 (DS.length + 2) cD2)) bz sG
                clear bz kG okz gn gd
                generalize (((wd.setCell ⟨G, 0, none⟩ (.bool x1.b)).setCell ⟨G, 1, none⟩ (.slice AN2 (NS.length + 1) cN2)).setCell ⟨G, 2, none⟩ (.slice AD2 (DS.length + 2) cD2)) = we at *
                have bz := b5
                clear b5
                clear hHeld
                generalize we = wd at *
                refine hK.out _ _ (B1.out.below bz).c0 (fun hHeld => ?_)
                clear hK K
                try simp only [Act.put]
                try simp only [List.setIfInBounds_toArray, List.set_cons_zero, List.set_cons_succ]
                refine wpAnyH_done (by kernel_rfl) ?_ _
                go_wp2_with fail
                go_meet
                case rel => exact ⟨G, ⟨x1.b, AN2, cN2, NS ++ [0], AD2, cD2, DS ++ [0, 0]⟩, rfl, ⟨by simpa using hb, oky⟩, rfl, rfl, rfl, bz⟩
              exact AllReadyH.nil
            exact AllReadyH.nil
          refine AllReadyH.cons rfl (fun K hK => ?_) ?_
          · go_simp
            have kG := bk3_new wd
            have bb := (Below.refl wd.heap.size wd).alloc (Nat.le_refl _) (.cells #[.bool false, .slice none 0 0, .slice none 0 0] 25)
            have sG := bz.size
            have gn1 := gn.form.2.2
            have gd1 := gd.form.2.2
            generalize hG : wd.heap.size = G at kG sG gn1 gd1 ⊢
            have nGD : some G ≠ AD.map (·.block) := ne_row (fun ad e => (gd1 ad e).2) (Nat.le_refl _)
            clear gn1 gd1
            replace n2 := n2.below bb rfl
            replace gn := gn.below bb
            replace gd := gd.below bb
            replace bz := below_on bz bb bz.size
            clear bb
            generalize (wd.alloc (.cells #[.bool false, .slice none 0 0, .slice none 0 0] 25)) = we at *
            clear hG
            generalize we = wd at *
            refine hK.out _ _ (B1.out.below bz).c0 (fun hHeld => ?_)
            clear hK K
            try simp only [Act.put]
            try simp only [List.setIfInBounds_toArray, List.set_cons_zero, List.set_cons_succ]
            refine wpAnyH_ready (rs := [7]) (by kernel_rfl) (by simp) ?_
            refine AllReadyH.cons rfl (fun K hK => ?_) ?_
            · refine step_append_rd wd (mk := lmv) (fun _ => rfl) rfl _ _ 23 rfl 26 i0 (.int .u32 0) 4 Try.underlying23 hi hz0 hz1 hz2 rfl (B := wn.heap.size) (A := AD) (c := cD) (n := DS.length) (xs := DS) rfl rfl gd (some ⟨g2, 0, none⟩) 2 2 [0, 0] rfl rfl n2 (by simp only [maxLen]; omega) (by omega) bz.size ?_
              intro AD2 cD2 we gD grD bbD atD
              replace gn := gn.grown grD nND
              clear nND
              have nGD2 : some G ≠ AD2.map (·.block) := row_lt atD nGD kG.lt
              replace kG := kG.grown grD nGD
              clear nGD
              replace bz := bz.trans bbD
              clear bbD grD atD n2 gd
              have gd := gD
              clear gD
              generalize we = wd at *
              refine hK.out _ _ (B1.out.below bz).c0 (fun hHeld => ?_)
              clear hK K
              try simp only [Act.put]
              try simp only [List.setIfInBounds_toArray, List.set_cons_zero, List.set_cons_succ]
              refine wpAnyH_take (i := 8) (v := .agg #[.bool x1.b, .slice AN2 (NS.length + 1) cN2, .slice AD2 (DS.length + 2) cD2]) rfl (by kernel_rfl) (by kernel_rfl) (by kernel_rfl) (fun _ _ _ h => h) (Or.inl ⟨by rfl, ?_⟩) (by assumption) ?_
              · intro w hSw
                try dsimp only at hSw
                go_simp
                try with_reducible rfl
              try simp only [Act.put]
              try simp only [List.setIfInBounds_toArray, List.set_cons_zero, List.set_cons_succ]
              refine wpAnyH_ready (rs := [10]) (by kernel_rfl) (by simp) ?_
              refine AllReadyH.cons rfl (fun K hK => ?_) ?_
              · have t := kG
                obtain ⟨k0, k1, k2, kf0, kf1, kf2, _, _⟩ := t
                go_simp
                clear k0 k1 k2 kf0 kf1 kf2
                have hb := bk3_put (a := (.bool x1.b)) (b := (.slice AN2 (NS.length + 1) cN2)) (c := (.slice AD2 (DS.length + 2) cD2)) kG
                have okz : (⟨x1.b, AN2, cN2, NS ++ [0], AD2, cD2, DS ++ [0, 0]⟩ : Fx).ok wd := ⟨gn.nt (HUN.out.append (U32.one (by omega))), gd.nt (HUD.out.append (U32.cons (by omega) (U32.one (by omega))))⟩
                have oky : Fx.ok ⟨x1.b, AN2, cN2, NS ++ [0], AD2, cD2, DS ++ [0, 0]⟩ (((wd.setCell ⟨G, 0, none⟩ (.bool x1.b)).setCell ⟨G, 1, none⟩ (.slice AN2 (NS.length + 1) cN2)).setCell ⟨G, 2, none⟩ (.slice AD2 (DS.length + 2) cD2)) := set3_ok okz kG rfl rfl rfl
                have b5 := set3g (G := G) (a := (.bool x1.b)) (b := (.slice AN2 (NS.length + 1) cN2)) (c := (.slice AD2 (DS.length + 2) cD2)) bz sG
                clear bz kG okz gn gd
                generalize (((wd.setCell ⟨G, 0, none⟩ (.bool x1.b)).setCell ⟨G, 1, none⟩ (.slice AN2 (NS.length + 1) cN2)).setCell ⟨G, 2, none⟩ (.slice AD2 (DS.length + 2) cD2)) = we at *
                have bz := b5
                clear b5
                clear hHeld
                generalize we = wd at *
                refine hK.out _ _ (B1.out.below bz).c0 (fun hHeld => ?_)
                clear hK K
                try simp only [Act.put]
                try simp only [List.setIfInBounds_toArray, List.set_cons_zero, List.set_cons_succ]
                refine wpAnyH_done (by kernel_rfl) ?_ _
                go_wp2_with fail
                go_meet
                case rel => exact ⟨G, ⟨x1.b, AN2, cN2, NS ++ [0], AD2, cD2, DS ++ [0, 0]⟩, rfl, ⟨by simpa using hb, oky⟩, rfl, rfl, rfl, bz⟩
              exact AllReadyH.nil
            exact AllReadyH.nil
          exact AllReadyH.nil
        refine AllReadyH.cons rfl (fun K hK => ?_) ?_
        · go_simp
          have kG := bk3_new wd
          have bb := (Below.refl wd.heap.size wd).alloc (Nat.le_refl _) (.cells #[.bool false, .slice none 0 0, .slice none 0 0] 25)
          have sG := bz.size
          have gn1 := gn.form.2.2
          have gd1 := gd.form.2.2
          generalize hG : wd.heap.size = G at kG sG gn1 gd1 ⊢
          have nGD : some G ≠ AD.map (·.block) := ne_row (fun ad e => (gd1 ad e).2) (Nat.le_refl _)
          clear gn1 gd1
          replace gn := gn.below bb
          replace gd := gd.below bb
          replace bz := below_on bz bb bz.size
          clear bb
          generalize (wd.alloc (.cells #[.bool false, .slice none 0 0, .slice none 0 0] 25)) = we at *
          clear hG
          generalize we = wd at *
          refine hK.out _ _ (B1.out.below bz).c0 (fun hHeld => ?_)
          clear hK K
          try simp only [Act.put]
          try simp only [List.setIfInBounds_toArray, List.set_cons_zero, List.set_cons_succ]
          refine wpAnyH_ready (rs := [6]) (by kernel_rfl) (by simp) ?_
          refine AllReadyH.cons rfl (fun K hK => ?_) ?_
          · go_simp
            have n2 : Rd lmv (wd.alloc (.cells #[.int .u32 0, .int .u32 0] 26)) (some ⟨wd.heap.size, 0, none⟩) [0, 0] := (Gr.lit (mk := lmv) (e := 26) (B := wd.heap.size) wd [0, 0] #[.int .u32 0, .int .u32 0] rfl (by simp [maxLen]) (Nat.le_refl _)).rd
            have bb := (Below.refl wd.heap.size wd).alloc (Nat.le_refl _) (.cells #[.int .u32 0, .int .u32 0] 26)
            have gn1 := gn.form.2.2
            have gd1 := gd.form.2.2
            generalize hg2 : wd.heap.size = g2 at n2 gn1 gd1 ⊢
            clear gn1 gd1
            replace kG := kG.below bb
            replace gn := gn.below bb
            replace gd := gd.below bb
            replace bz := below_on bz bb bz.size
            clear bb
            generalize (wd.alloc (.cells #[.int .u32 0, .int .u32 0] 26)) = we at *
            clear hg2
            generalize we = wd at *
            refine hK.out _ _ (B1.out.below bz).c0 (fun hHeld => ?_)
            clear hK K
            try simp only [Act.put]
            try simp only [List.setIfInBounds_toArray, List.set_cons_zero, List.set_cons_succ]
            refine wpAnyH_ready (rs := [7]) (by kernel_rfl) (by simp) ?_
            refine AllReadyH.cons rfl (fun K hK => ?_) ?_
            · refine step_append_rd wd (mk := lmv) (fun _ => rfl) rfl _ _ 23 rfl 26 i0 (.int .u32 0) 4 Try.underlying23 hi hz0 hz1 hz2 rfl (B := wn.heap.size) (A := AD) (c := cD) (n := DS.length) (xs := DS) rfl rfl gd (some ⟨g2, 0, none⟩) 2 2 [0, 0] rfl rfl n2 (by simp only [maxLen]; omega) (by omega) bz.size ?_
              intro AD2 cD2 we gD grD bbD atD
              replace gn := gn.grown grD nND
              clear nND
              have nGD2 : some G ≠ AD2.map (·.block) := row_lt atD nGD kG.lt
              replace kG := kG.grown grD nGD
              clear nGD
              replace bz := bz.trans bbD
              clear bbD grD atD n2 gd
              have gd := gD
              clear gD
              generalize we = wd at *
              refine hK.out _ _ (B1.out.below bz).c0 (fun hHeld => ?_)
              clear hK K
              try simp only [Act.put]
              try simp only [List.setIfInBounds_toArray, List.set_cons_zero, List.set_cons_succ]
              refine wpAnyH_take (i := 8) (v := .agg #[.bool x1.b, .slice AN2 (NS.length + 1) cN2, .slice AD2 (DS.length + 2) cD2]) rfl (by kernel_rfl) (by kernel_rfl) (by kernel_rfl) (fun _ _ _ h => h) (Or.inl ⟨by rfl, ?_⟩) (by assumption) ?_
              · intro w hSw
                try dsimp only at hSw
                go_simp
                try with_reducible rfl
              try simp only [Act.put]
              try simp only [List.setIfInBounds_toArray, List.set_cons_zero, List.set_cons_succ]
              refine wpAnyH_ready (rs := [10]) (by kernel_rfl) (by simp) ?_
              refine AllReadyH.cons rfl (fun K hK => ?_) ?_
              · have t := kG
                obtain ⟨k0, k1, k2, kf0, kf1, kf2, _, _⟩ := t
                go_simp
                clear k0 k1 k2 kf0 kf1 kf2
                have hb := bk3_put (a := (.bool x1.b)) (b := (.slice AN2 (NS.length + 1) cN2)) (c := (.slice AD2 (DS.length + 2) cD2)) kG
                have okz : (⟨x1.b, AN2, cN2, NS ++ [0], AD2, cD2, DS ++ [0, 0]⟩ : Fx).ok wd := ⟨gn.nt (HUN.out.append (U32.one (by omega))), gd.nt (HUD.out.append (U32.cons (by omega) (U32.one (by omega))))⟩
                have oky : Fx.ok ⟨x1.b, AN2, cN2, NS ++ [0], AD2, cD2, DS ++ [0, 0]⟩ (((wd.setCell ⟨G, 0, none⟩ (.bool x1.b)).setCell ⟨G, 1, none⟩ (.slice AN2 (NS.length + 1) cN2)).setCell ⟨G, 2, none⟩ (.slice AD2 (DS.length + 2) cD2)) := set3_ok okz kG rfl rfl rfl
                have b5 := set3g (G := G) (a := (.bool x1.b)) (b := (.slice AN2 (NS.length + 1) cN2)) (c := (.slice AD2 (DS.length + 2) cD2)) bz sG
                clear bz kG okz gn gd
                generalize (((wd.setCell ⟨G, 0, none⟩ (.bool x1.b)).setCell ⟨G, 1, none⟩ (.slice AN2 (NS.length + 1) cN2)).setCell ⟨G, 2, none⟩ (.slice AD2 (DS.length + 2) cD2)) = we at *
                have bz := b5
                clear b5
                clear hHeld
                generalize we = wd at *
                refine hK.out _ _ (B1.out.below bz).c0 (fun hHeld => ?_)
                clear hK K
                try simp only [Act.put]
                try simp only [List.setIfInBounds_toArray, List.set_cons_zero, List.set_cons_succ]
                refine wpAnyH_done (by kernel_rfl) ?_ _
                go_wp2_with fail
                go_meet
                case rel => exact ⟨G, ⟨x1.b, AN2, cN2, NS ++ [0], AD2, cD2, DS ++ [0, 0]⟩, rfl, ⟨by simpa using hb, oky⟩, rfl, rfl, rfl, bz⟩
              exact AllReadyH.nil
            exact AllReadyH.nil
          exact AllReadyH.nil
        exact AllReadyH.nil
      refine AllReadyH.cons rfl (fun K hK => ?_) ?_
      · go_simp
        have n2 : Rd lmv (wd.alloc (.cells #[.int .u32 0, .int .u32 0] 26)) (some ⟨wd.heap.size, 0, none⟩) [0, 0] := (Gr.lit (mk := lmv) (e := 26) (B := wd.heap.size) wd [0, 0] #[.int .u32 0, .int .u32 0] rfl (by simp [maxLen]) (Nat.le_refl _)).rd
        have bb := (Below.refl wd.heap.size wd).alloc (Nat.le_refl _) (.cells #[.int .u32 0, .int .u32 0] 26)
        have gn1 := gn.form.2.2
        have gd1 := gd.form.2.2
        generalize hg2 : wd.heap.size = g2 at n2 gn1 gd1 ⊢
        have ngn : some g2 ≠ AN.map (·.block) := ne_row (fun ad e => (gn1 ad e).2) (Nat.le_refl _)
        clear gn1 gd1
        replace n1 := n1.below bb rfl
        replace gn := gn.below bb
        replace gd := gd.below bb
        replace bz := below_on bz bb bz.size
        clear bb
        generalize (wd.alloc (.cells #[.int .u32 0, .int .u32 0] 26)) = we at *
        clear hg2
        generalize we = wd at *
        refine hK.out _ _ (B1.out.below bz).c0 (fun hHeld => ?_)
        clear hK K
        try simp only [Act.put]
        try simp only [List.setIfInBounds_toArray, List.set_cons_zero, List.set_cons_succ]
        refine wpAnyH_ready (rs := [4, 9]) (by kernel_rfl) (by simp) ?_
        refine AllReadyH.cons rfl (fun K hK => ?_) ?_
        · refine step_append_rd wd (mk := lmv) (fun _ => rfl) rfl _ _ 23 rfl 26 i0 (.int .u32 0) 4 Try.underlying23 hi hz0 hz1 hz2 rfl (B := wn.heap.size) (A := AN) (c := cN) (n := NS.length) (xs := NS) rfl rfl gn (some ⟨g1, 0, none⟩) 1 1 [0] rfl rfl n1 (by simp only [maxLen]; omega) (by omega) bz.size ?_
          intro AN2 cN2 we gN grN bbN atN
          have gd1 := gd.form.2.2
          have nND : ∀ ad, AN2 = some ad → some ad.block ≠ AD.map (·.block) := row_ne atN HDN (fun ad e => (gd1 ad e).2)
          clear gd1
          replace gd := gd.grown grN HND
          replace n2 := n2.grown grN (fun _ ad e => by injection e with e; subst e; exact ngn)
          clear ngn
          replace bz := bz.trans bbN
          clear bbN grN atN n1 gn
          have gn := gN
          clear gN
          generalize we = wd at *
          refine hK.out _ _ (B1.out.below bz).c0 (fun hHeld => ?_)
          clear hK K
          try simp only [Act.put]
          try simp only [List.setIfInBounds_toArray, List.set_cons_zero, List.set_cons_succ]
          refine wpAnyH_ready (rs := [7, 9]) (by kernel_rfl) (by simp) ?_
          refine AllReadyH.cons rfl (fun K hK => ?_) ?_
          · refine step_append_rd wd (mk := lmv) (fun _ => rfl) rfl _ _ 23 rfl 26 i0 (.int .u32 0) 4 Try.underlying23 hi hz0 hz1 hz2 rfl (B := wn.heap.size) (A := AD) (c := cD) (n := DS.length) (xs := DS) rfl rfl gd (some ⟨g2, 0, none⟩) 2 2 [0, 0] rfl rfl n2 (by simp only [maxLen]; omega) (by omega) bz.size ?_
            intro AD2 cD2 we gD grD bbD atD
            replace gn := gn.grown grD nND
            clear nND
            replace bz := bz.trans bbD
            clear bbD grD atD n2 gd
            have gd := gD
            clear gD
            generalize we = wd at *
            refine hK.out _ _ (B1.out.below bz).c0 (fun hHeld => ?_)
            clear hK K
            try simp only [Act.put]
            try simp only [List.setIfInBounds_toArray, List.set_cons_zero, List.set_cons_succ]
            refine wpAnyH_take (i := 8) (v := .agg #[.bool x1.b, .slice AN2 (NS.length + 1) cN2, .slice AD2 (DS.length + 2) cD2]) rfl (by kernel_rfl) (by kernel_rfl) (by kernel_rfl) (fun _ _ _ h => h) (Or.inl ⟨by rfl, ?_⟩) (by assumption) ?_
            · intro w hSw
              try dsimp only at hSw
              go_simp
              try with_reducible rfl
            try simp only [Act.put]
            try simp only [List.setIfInBounds_toArray, List.set_cons_zero, List.set_cons_succ]
            refine wpAnyH_ready (rs := [9]) (by kernel_rfl) (by simp) ?_
            refine AllReadyH.cons rfl (fun K hK => ?_) ?_
            · go_simp
              have kG := bk3_new wd
              have bb := (Below.refl wd.heap.size wd).alloc (Nat.le_refl _) (.cells #[.bool false, .slice none 0 0, .slice none 0 0] 25)
              have sG := bz.size
              have gn1 := gn.form.2.2
              have gd1 := gd.form.2.2
              generalize hG : wd.heap.size = G at kG sG gn1 gd1 ⊢
              clear gn1 gd1
              replace gn := gn.below bb
              replace gd := gd.below bb
              replace bz := below_on bz bb bz.size
              clear bb
              generalize (wd.alloc (.cells #[.bool false, .slice none 0 0, .slice none 0 0] 25)) = we at *
              clear hG
              generalize we = wd at *
              refine hK.out _ _ (B1.out.below bz).c0 (fun hHeld => ?_)
              clear hK K
              try simp only [Act.put]
              try simp only [List.setIfInBounds_toArray, List.set_cons_zero, List.set_cons_succ]
              refine wpAnyH_ready (rs := [10]) (by kernel_rfl) (by simp) ?_
              refine AllReadyH.cons rfl (fun K hK => ?_) ?_
              · have t := kG
                obtain ⟨k0, k1, k2, kf0, kf1, kf2, _, _⟩ := t
                go_simp
                clear k0 k1 k2 kf0 kf1 kf2
                have hb := bk3_put (a := (.bool x1.b)) (b := (.slice AN2 (NS.length + 1) cN2)) (c := (.slice AD2 (DS.length + 2) cD2)) kG
                have okz : (⟨x1.b, AN2, cN2, NS ++ [0], AD2, cD2, DS ++ [0, 0]⟩ : Fx).ok wd := ⟨gn.nt (HUN.out.append (U32.one (by omega))), gd.nt (HUD.out.append (U32.cons (by omega) (U32.one (by omega))))⟩
                have oky : Fx.ok ⟨x1.b, AN2, cN2, NS ++ [0], AD2, cD2, DS ++ [0, 0]⟩ (((wd.setCell ⟨G, 0, none⟩ (.bool x1.b)).setCell ⟨G, 1, none⟩ (.slice AN2 (NS.length + 1) cN2)).setCell ⟨G, 2, none⟩ (.slice AD2 (DS.length + 2) cD2)) := set3_ok okz kG rfl rfl rfl
                have b5 := set3g (G := G) (a := (.bool x1.b)) (b := (.slice AN2 (NS.length + 1) cN2)) (c := (.slice AD2 (DS.length + 2) cD2)) bz sG
                clear bz kG okz gn gd
                generalize (((wd.setCell ⟨G, 0, none⟩ (.bool x1.b)).setCell ⟨G, 1, none⟩ (.slice AN2 (NS.length + 1) cN2)).setCell ⟨G, 2, none⟩ (.slice AD2 (DS.length + 2) cD2)) = we at *
                have bz := b5
                clear b5
                clear hHeld
                generalize we = wd at *
                refine hK.out _ _ (B1.out.below bz).c0 (fun hHeld => ?_)
                clear hK K
                try simp only [Act.put]
                try simp only [List.setIfInBounds_toArray, List.set_cons_zero, List.set_cons_succ]
                refine wpAnyH_done (by kernel_rfl) ?_ _
                go_wp2_with fail
                go_meet
                case rel => exact ⟨G, ⟨x1.b, AN2, cN2, NS ++ [0], AD2, cD2, DS ++ [0, 0]⟩, rfl, ⟨by simpa using hb, oky⟩, rfl, rfl, rfl, bz⟩
              exact AllReadyH.nil
            exact AllReadyH.nil
          refine AllReadyH.cons rfl (fun K hK => ?_) ?_
          · go_simp
            have kG := bk3_new wd
            have bb := (Below.refl wd.heap.size wd).alloc (Nat.le_refl _) (.cells #[.bool false, .slice none 0 0, .slice none 0 0] 25)
            have sG := bz.size
            have gn1 := gn.form.2.2
            have gd1 := gd.form.2.2
            generalize hG : wd.heap.size = G at kG sG gn1 gd1 ⊢
            have nGD : some G ≠ AD.map (·.block) := ne_row (fun ad e => (gd1 ad e).2) (Nat.le_refl _)
            clear gn1 gd1
            replace n2 := n2.below bb rfl
            replace gn := gn.below bb
            replace gd := gd.below bb
            replace bz := below_on bz bb bz.size
            clear bb
            generalize (wd.alloc (.cells #[.bool false, .slice none 0 0, .slice none 0 0] 25)) = we at *
            clear hG
            generalize we = wd at *
            refine hK.out _ _ (B1.out.below bz).c0 (fun hHeld => ?_)
            clear hK K
            try simp only [Act.put]
            try simp only [List.setIfInBounds_toArray, List.set_cons_zero, List.set_cons_succ]
            refine wpAnyH_ready (rs := [7]) (by kernel_rfl) (by simp) ?_
            refine AllReadyH.cons rfl (fun K hK => ?_) ?_
            · refine step_append_rd wd (mk := lmv) (fun _ => rfl) rfl _ _ 23 rfl 26 i0 (.int .u32 0) 4 Try.underlying23 hi hz0 hz1 hz2 rfl (B := wn.heap.size) (A := AD) (c := cD) (n := DS.length) (xs := DS) rfl rfl gd (some ⟨g2, 0, none⟩) 2 2 [0, 0] rfl rfl n2 (by simp only [maxLen]; omega) (by omega) bz.size ?_
              intro AD2 cD2 we gD grD bbD atD
              replace gn := gn.grown grD nND
              clear nND
              have nGD2 : some G ≠ AD2.map (·.block) := row_lt atD nGD kG.lt
              replace kG := kG.grown grD nGD
              clear nGD
              replace bz := bz.trans bbD
              clear bbD grD atD n2 gd
              have gd := gD
              clear gD
              generalize we = wd at *
              refine hK.out _ _ (B1.out.below bz).c0 (fun hHeld => ?_)
              clear hK K
              try simp only [Act.put]
              try simp only [List.setIfInBounds_toArray, List.set_cons_zero, List.set_cons_succ]
              refine wpAnyH_take (i := 8) (v := .agg #[.bool x1.b, .slice AN2 (NS.length + 1) cN2, .slice AD2 (DS.length + 2) cD2]) rfl (by kernel_rfl) (by kernel_rfl) (by kernel_rfl) (fun _ _ _ h => h) (Or.inl ⟨by rfl, ?_⟩) (by assumption) ?_
              · intro w hSw
                try dsimp only at hSw
                go_simp
                try with_reducible rfl
              try simp only [Act.put]
              try simp only [List.setIfInBounds_toArray, List.set_cons_zero, List.set_cons_succ]
              refine wpAnyH_ready (rs := [10]) (by kernel_rfl) (by simp) ?_
              refine AllReadyH.cons rfl (fun K hK => ?_) ?_
              · have t := kG
                obtain ⟨k0, k1, k2, kf0, kf1, kf2, _, _⟩ := t
                go_simp
                clear k0 k1 k2 kf0 kf1 kf2
                have hb := bk3_put (a := (.bool x1.b)) (b := (.slice AN2 (NS.length + 1) cN2)) (c := (.slice AD2 (DS.length + 2) cD2)) kG
                have okz : (⟨x1.b, AN2, cN2, NS ++ [0], AD2, cD2, DS ++ [0, 0]⟩ : Fx).ok wd := ⟨gn.nt (HUN.out.append (U32.one (by omega))), gd.nt (HUD.out.append (U32.cons (by omega) (U32.one (by omega))))⟩
                have oky : Fx.ok ⟨x1.b, AN2, cN2, NS ++ [0], AD2, cD2, DS ++ [0, 0]⟩ (((wd.setCell ⟨G, 0, none⟩ (.bool x1.b)).setCell ⟨G, 1, none⟩ (.slice AN2 (NS.length + 1) cN2)).setCell ⟨G, 2, none⟩ (.slice AD2 (DS.length + 2) cD2)) := set3_ok okz kG rfl rfl rfl
                have b5 := set3g (G := G) (a := (.bool x1.b)) (b := (.slice AN2 (NS.length + 1) cN2)) (c := (.slice AD2 (DS.length + 2) cD2)) bz sG
                clear bz kG okz gn gd
                generalize (((wd.setCell ⟨G, 0, none⟩ (.bool x1.b)).setCell ⟨G, 1, none⟩ (.slice AN2 (NS.length + 1) cN2)).setCell ⟨G, 2, none⟩ (.slice AD2 (DS.length + 2) cD2)) = we at *
                have bz := b5
                clear b5
                clear hHeld
                generalize we = wd at *
                refine hK.out _ _ (B1.out.below bz).c0 (fun hHeld => ?_)
                clear hK K
                try simp only [Act.put]
                try simp only [List.setIfInBounds_toArray, List.set_cons_zero, List.set_cons_succ]
                refine wpAnyH_done (by kernel_rfl) ?_ _
                go_wp2_with fail
                go_meet
                case rel => exact ⟨G, ⟨x1.b, AN2, cN2, NS ++ [0], AD2, cD2, DS ++ [0, 0]⟩, rfl, ⟨by simpa using hb, oky⟩, rfl, rfl, rfl, bz⟩
              exact AllReadyH.nil
            exact AllReadyH.nil
          exact AllReadyH.nil
        refine AllReadyH.cons rfl (fun K hK => ?_) ?_
        · go_simp
          have kG := bk3_new wd
          have bb := (Below.refl wd.heap.size wd).alloc (Nat.le_refl _) (.cells #[.bool false, .slice none 0 0, .slice none 0 0] 25)
          have sG := bz.size
          have gn1 := gn.form.2.2
          have gd1 := gd.form.2.2
          generalize hG : wd.heap.size = G at kG sG gn1 gd1 ⊢
          have nGN : some G ≠ AN.map (·.block) := ne_row (fun ad e => (gn1 ad e).2) (Nat.le_refl _)
          have nGD : some G ≠ AD.map (·.block) := ne_row (fun ad e => (gd1 ad e).2) (Nat.le_refl _)
          clear gn1 gd1
          replace n2 := n2.below bb rfl
          replace n1 := n1.below bb rfl
          replace gn := gn.below bb
          replace gd := gd.below bb
          replace bz := below_on bz bb bz.size
          clear bb
          generalize (wd.alloc (.cells #[.bool false, .slice none 0 0, .slice none 0 0] 25)) = we at *
          clear hG
          generalize we = wd at *
          refine hK.out _ _ (B1.out.below bz).c0 (fun hHeld => ?_)
          clear hK K
          try simp only [Act.put]
          try simp only [List.setIfInBounds_toArray, List.set_cons_zero, List.set_cons_succ]
          refine wpAnyH_ready (rs := [4]) (by kernel_rfl) (by simp) ?_
          refine AllReadyH.cons rfl (fun K hK => ?_) ?_
          · refine step_append_rd wd (mk := lmv) (fun _ => rfl) rfl _ _ 23 rfl 26 i0 (.int .u32 0) 4 Try.underlying23 hi hz0 hz1 hz2 rfl (B := wn.heap.size) (A := AN) (c := cN) (n := NS.length) (xs := NS) rfl rfl gn (some ⟨g1, 0, none⟩) 1 1 [0] rfl rfl n1 (by simp only [maxLen]; omega) (by omega) bz.size ?_
            intro AN2 cN2 we gN grN bbN atN
            have gd1 := gd.form.2.2
            have nND : ∀ ad, AN2 = some ad → some ad.block ≠ AD.map (·.block) := row_ne atN HDN (fun ad e => (gd1 ad e).2)
            clear gd1
            replace gd := gd.grown grN HND
            replace n2 := n2.grown grN (fun _ ad e => by injection e with e; subst e; exact ngn)
            clear ngn
            have nGN2 : some G ≠ AN2.map (·.block) := row_lt atN nGN kG.lt
            replace kG := kG.grown grN nGN
            clear nGN
            have nGN := nGN2
            clear nGN2
            replace bz := bz.trans bbN
            clear bbN grN atN n1 gn
            have gn := gN
            clear gN
            generalize we = wd at *
            refine hK.out _ _ (B1.out.below bz).c0 (fun hHeld => ?_)
            clear hK K
            try simp only [Act.put]
            try simp only [List.setIfInBounds_toArray, List.set_cons_zero, List.set_cons_succ]
            refine wpAnyH_ready (rs := [7]) (by kernel_rfl) (by simp) ?_
            refine AllReadyH.cons rfl (fun K hK => ?_) ?_
            · refine step_append_rd wd (mk := lmv) (fun _ => rfl) rfl _ _ 23 rfl 26 i0 (.int .u32 0) 4 Try.underlying23 hi hz0 hz1 hz2 rfl (B := wn.heap.size) (A := AD) (c := cD) (n := DS.length) (xs := DS) rfl rfl gd (some ⟨g2, 0, none⟩) 2 2 [0, 0] rfl rfl n2 (by simp only [maxLen]; omega) (by omega) bz.size ?_
              intro AD2 cD2 we gD grD bbD atD
              replace gn := gn.grown grD nND
              clear nND
              have nGD2 : some G ≠ AD2.map (·.block) := row_lt atD nGD kG.lt
              replace kG := kG.grown grD nGD
              clear nGD
              replace bz := bz.trans bbD
              clear bbD grD atD n2 gd
              have gd := gD
              clear gD
              generalize we = wd at *
              refine hK.out _ _ (B1.out.below bz).c0 (fun hHeld => ?_)
              clear hK K
              try simp only [Act.put]
              try simp only [List.setIfInBounds_toArray, List.set_cons_zero, List.set_cons_succ]
              refine wpAnyH_take (i := 8) (v := .agg #[.bool x1.b, .slice AN2 (NS.length + 1) cN2, .slice AD2 (DS.length + 2) cD2]) rfl (by kernel_rfl) (by kernel_rfl) (by kernel_rfl) (fun _ _ _ h => h) (Or.inl ⟨by rfl, ?_⟩) (by assumption) ?_
              · intro w hSw
                try dsimp only at hSw
                go_simp
                try with_reducible rfl
              try simp only [Act.put]
              try simp only [List.setIfInBounds_toArray, List.set_cons_zero, List.set_cons_succ]
              refine wpAnyH_ready (rs := [10]) (by kernel_rfl) (by simp) ?_
              refine AllReadyH.cons rfl (fun K hK => ?_) ?_
              · have t := kG
                obtain ⟨k0, k1, k2, kf0, kf1, kf2, _, _⟩ := t
                go_simp
                clear k0 k1 k2 kf0 kf1 kf2
                have hb := bk3_put (a := (.bool x1.b)) (b := (.slice AN2 (NS.length + 1) cN2)) (c := (.slice AD2 (DS.length + 2) cD2)) kG
                have okz : (⟨x1.b, AN2, cN2, NS ++ [0], AD2, cD2, DS ++ [0, 0]⟩ : Fx).ok wd := ⟨gn.nt (HUN.out.append (U32.one (by omega))), gd.nt (HUD.out.append (U32.cons (by omega) (U32.one (by omega))))⟩
                have oky : Fx.ok ⟨x1.b, AN2, cN2, NS ++ [0], AD2, cD2, DS ++ [0, 0]⟩ (((wd.setCell ⟨G, 0, none⟩ (.bool x1.b)).setCell ⟨G, 1, none⟩ (.slice AN2 (NS.length + 1) cN2)).setCell ⟨G, 2, none⟩ (.slice AD2 (DS.length + 2) cD2)) := set3_ok okz kG rfl rfl rfl
                have b5 := set3g (G := G) (a := (.bool x1.b)) (b := (.slice AN2 (NS.length + 1) cN2)) (c := (.slice AD2 (DS.length + 2) cD2)) bz sG
                clear bz kG okz gn gd
                generalize (((wd.setCell ⟨G, 0, none⟩ (.bool x1.b)).setCell ⟨G, 1, none⟩ (.slice AN2 (NS.length + 1) cN2)).setCell ⟨G, 2, none⟩ (.slice AD2 (DS.length + 2) cD2)) = we at *
                have bz := b5
                clear b5
                clear hHeld
                generalize we = wd at *
                refine hK.out _ _ (B1.out.below bz).c0 (fun hHeld => ?_)
                clear hK K
                try simp only [Act.put]
                try simp only [List.setIfInBounds_toArray, List.set_cons_zero, List.set_cons_succ]
                refine wpAnyH_done (by kernel_rfl) ?_ _
                go_wp2_with fail
                go_meet
                case rel => exact ⟨G, ⟨x1.b, AN2, cN2, NS ++ [0], AD2, cD2, DS ++ [0, 0]⟩, rfl, ⟨by simpa using hb, oky⟩, rfl, rfl, rfl, bz⟩
              exact AllReadyH.nil
            exact AllReadyH.nil
          exact AllReadyH.nil
        exact AllReadyH.nil
      refine AllReadyH.cons rfl (fun K hK => ?_) ?_
      · go_simp
        have kG := bk3_new wd
        have bb := (Below.refl wd.heap.size wd).alloc (Nat.le_refl _) (.cells #[.bool false, .slice none 0 0, .slice none 0 0] 25)
        have sG := bz.size
        have gn1 := gn.form.2.2
        have gd1 := gd.form.2.2
        generalize hG : wd.heap.size = G at kG sG gn1 gd1 ⊢
        have nGN : some G ≠ AN.map (·.block) := ne_row (fun ad e => (gn1 ad e).2) (Nat.le_refl _)
        have nGD : some G ≠ AD.map (·.block) := ne_row (fun ad e => (gd1 ad e).2) (Nat.le_refl _)
        clear gn1 gd1
        replace n1 := n1.below bb rfl
        replace gn := gn.below bb
        replace gd := gd.below bb
        replace bz := below_on bz bb bz.size
        clear bb
        generalize (wd.alloc (.cells #[.bool false, .slice none 0 0, .slice none 0 0] 25)) = we at *
        clear hG
        generalize we = wd at *
        refine hK.out _ _ (B1.out.below bz).c0 (fun hHeld => ?_)
        clear hK K
        try simp only [Act.put]
        try simp only [List.setIfInBounds_toArray, List.set_cons_zero, List.set_cons_succ]
        refine wpAnyH_ready (rs := [4, 6]) (by kernel_rfl) (by simp) ?_
        refine AllReadyH.cons rfl (fun K hK => ?_) ?_
        · refine step_append_rd wd (mk := lmv) (fun _ => rfl) rfl _ _ 23 rfl 26 i0 (.int .u32 0) 4 Try.underlying23 hi hz0 hz1 hz2 rfl (B := wn.heap.size) (A := AN) (c := cN) (n := NS.length) (xs := NS) rfl rfl gn (some ⟨g1, 0, none⟩) 1 1 [0] rfl rfl n1 (by simp only [maxLen]; omega) (by omega) bz.size ?_
          intro AN2 cN2 we gN grN bbN atN
          have gd1 := gd.form.2.2
          have nND : ∀ ad, AN2 = some ad → some ad.block ≠ AD.map (·.block) := row_ne atN HDN (fun ad e => (gd1 ad e).2)
          clear gd1
          replace gd := gd.grown grN HND
          have nGN2 : some G ≠ AN2.map (·.block) := row_lt atN nGN kG.lt
          replace kG := kG.grown grN nGN
          clear nGN
          have nGN := nGN2
          clear nGN2
          replace bz := bz.trans bbN
          clear bbN grN atN n1 gn
          have gn := gN
          clear gN
          generalize we = wd at *
          refine hK.out _ _ (B1.out.below bz).c0 (fun hHeld => ?_)
          clear hK K
          try simp only [Act.put]
          try simp only [List.setIfInBounds_toArray, List.set_cons_zero, List.set_cons_succ]
          refine wpAnyH_ready (rs := [6]) (by kernel_rfl) (by simp) ?_
          refine AllReadyH.cons rfl (fun K hK => ?_) ?_
          · go_simp
            have n2 : Rd lmv (wd.alloc (.cells #[.int .u32 0, .int .u32 0] 26)) (some ⟨wd.heap.size, 0, none⟩) [0, 0] := (Gr.lit (mk := lmv) (e := 26) (B := wd.heap.size) wd [0, 0] #[.int .u32 0, .int .u32 0] rfl (by simp [maxLen]) (Nat.le_refl _)).rd
            have bb := (Below.refl wd.heap.size wd).alloc (Nat.le_refl _) (.cells #[.int .u32 0, .int .u32 0] 26)
            have gn1 := gn.form.2.2
            have gd1 := gd.form.2.2
            generalize hg2 : wd.heap.size = g2 at n2 gn1 gd1 ⊢
            clear gn1 gd1
            replace kG := kG.below bb
            replace gn := gn.below bb
            replace gd := gd.below bb
            replace bz := below_on bz bb bz.size
            clear bb
            generalize (wd.alloc (.cells #[.int .u32 0, .int .u32 0] 26)) = we at *
            clear hg2
            generalize we = wd at *
            refine hK.out _ _ (B1.out.below bz).c0 (fun hHeld => ?_)
            clear hK K
            try simp only [Act.put]
            try simp only [List.setIfInBounds_toArray, List.set_cons_zero, List.set_cons_succ]
            refine wpAnyH_ready (rs := [7]) (by kernel_rfl) (by simp) ?_
            refine AllReadyH.cons rfl (fun K hK => ?_) ?_
            · refine step_append_rd wd (mk := lmv) (fun _ => rfl) rfl _ _ 23 rfl 26 i0 (.int .u32 0) 4 Try.underlying23 hi hz0 hz1 hz2 rfl (B := wn.heap.size) (A := AD) (c := cD) (n := DS.length) (xs := DS) rfl rfl gd (some ⟨g2, 0, none⟩) 2 2 [0, 0] rfl rfl n2 (by simp only [maxLen]; omega) (by omega) bz.size ?_
              intro AD2 cD2 we gD grD bbD atD
              replace gn := gn.grown grD nND
              clear nND
              have nGD2 : some G ≠ AD2.map (·.block) := row_lt atD nGD kG.lt
              replace kG := kG.grown grD nGD
              clear nGD
              replace bz := bz.trans bbD
              clear bbD grD atD n2 gd
              have gd := gD
              clear gD
              generalize we = wd at *
              refine hK.out _ _ (B1.out.below bz).c0 (fun hHeld => ?_)
              clear hK K
              try simp only [Act.put]
              try simp only [List.setIfInBounds_toArray, List.set_cons_zero, List.set_cons_succ]
              refine wpAnyH_take (i := 8) (v := .agg #[.bool x1.b, .slice AN2 (NS.length + 1) cN2, .slice AD2 (DS.length + 2) cD2]) rfl (by kernel_rfl) (by kernel_rfl) (by kernel_rfl) (fun _ _ _ h => h) (Or.inl ⟨by rfl, ?_⟩) (by assumption) ?_
              · intro w hSw
                try dsimp only at hSw
                go_simp
                try with_reducible rfl
              try simp only [Act.put]
              try simp only [List.setIfInBounds_toArray, List.set_cons_zero, List.set_cons_succ]
              refine wpAnyH_ready (rs := [10]) (by kernel_rfl) (by simp) ?_
              refine AllReadyH.cons rfl (fun K hK => ?_) ?_
              · have t := kG
                obtain ⟨k0, k1, k2, kf0, kf1, kf2, _, _⟩ := t
                go_simp
                clear k0 k1 k2 kf0 kf1 kf2
                have hb := bk3_put (a := (.bool x1.b)) (b := (.slice AN2 (NS.length + 1) cN2)) (c := (.slice AD2 (DS.length + 2) cD2)) kG
                have okz : (⟨x1.b, AN2, cN2, NS ++ [0], AD2, cD2, DS ++ [0, 0]⟩ : Fx).ok wd := ⟨gn.nt (HUN.out.append (U32.one (by omega))), gd.nt (HUD.out.append (U32.cons (by omega) (U32.one (by omega))))⟩
                have oky : Fx.ok ⟨x1.b, AN2, cN2, NS ++ [0], AD2, cD2, DS ++ [0, 0]⟩ (((wd.setCell ⟨G, 0, none⟩ (.bool x1.b)).setCell ⟨G, 1, none⟩ (.slice AN2 (NS.length + 1) cN2)).setCell ⟨G, 2, none⟩ (.slice AD2 (DS.length + 2) cD2)) := set3_ok okz kG rfl rfl rfl
                have b5 := set3g (G := G) (a := (.bool x1.b)) (b := (.slice AN2 (NS.length + 1) cN2)) (c := (.slice AD2 (DS.length + 2) cD2)) bz sG
                clear bz kG okz gn gd
                generalize (((wd.setCell ⟨G, 0, none⟩ (.bool x1.b)).setCell ⟨G, 1, none⟩ (.slice AN2 (NS.length + 1) cN2)).setCell ⟨G, 2, none⟩ (.slice AD2 (DS.length + 2) cD2)) = we at *
                have bz := b5
                clear b5
                clear hHeld
                generalize we = wd at *
                refine hK.out _ _ (B1.out.below bz).c0 (fun hHeld => ?_)
                clear hK K
                try simp only [Act.put]
                try simp only [List.setIfInBounds_toArray, List.set_cons_zero, List.set_cons_succ]
                refine wpAnyH_done (by kernel_rfl) ?_ _
                go_wp2_with fail
                go_meet
                case rel => exact ⟨G, ⟨x1.b, AN2, cN2, NS ++ [0], AD2, cD2, DS ++ [0, 0]⟩, rfl, ⟨by simpa using hb, oky⟩, rfl, rfl, rfl, bz⟩
              exact AllReadyH.nil
            exact AllReadyH.nil
          exact AllReadyH.nil
        refine AllReadyH.cons rfl (fun K hK => ?_) ?_
        · go_simp
          have n2 : Rd lmv (wd.alloc (.cells #[.int .u32 0, .int .u32 0] 26)) (some ⟨wd.heap.size, 0, none⟩) [0, 0] := (Gr.lit (mk := lmv) (e := 26) (B := wd.heap.size) wd [0, 0] #[.int .u32 0, .int .u32 0] rfl (by simp [maxLen]) (Nat.le_refl _)).rd
          have bb := (Below.refl wd.heap.size wd).alloc (Nat.le_refl _) (.cells #[.int .u32 0, .int .u32 0] 26)
          have gn1 := gn.form.2.2
          have gd1 := gd.form.2.2
          generalize hg2 : wd.heap.size = g2 at n2 gn1 gd1 ⊢
          have ngn : some g2 ≠ AN.map (·.block) := ne_row (fun ad e => (gn1 ad e).2) (Nat.le_refl _)
          clear gn1 gd1
          replace n1 := n1.below bb rfl
          replace kG := kG.below bb
          replace gn := gn.below bb
          replace gd := gd.below bb
          replace bz := below_on bz bb bz.size
          clear bb
          generalize (wd.alloc (.cells #[.int .u32 0, .int .u32 0] 26)) = we at *
          clear hg2
          generalize we = wd at *
          refine hK.out _ _ (B1.out.below bz).c0 (fun hHeld => ?_)
          clear hK K
          try simp only [Act.put]
          try simp only [List.setIfInBounds_toArray, List.set_cons_zero, List.set_cons_succ]
          refine wpAnyH_ready (rs := [4]) (by kernel_rfl) (by simp) ?_
          refine AllReadyH.cons rfl (fun K hK => ?_) ?_
          · refine step_append_rd wd (mk := lmv) (fun _ => rfl) rfl _ _ 23 rfl 26 i0 (.int .u32 0) 4 Try.underlying23 hi hz0 hz1 hz2 rfl (B := wn.heap.size) (A := AN) (c := cN) (n := NS.length) (xs := NS) rfl rfl gn (some ⟨g1, 0, none⟩) 1 1 [0] rfl rfl n1 (by simp only [maxLen]; omega) (by omega) bz.size ?_
            intro AN2 cN2 we gN grN bbN atN
            have gd1 := gd.form.2.2
            have nND : ∀ ad, AN2 = some ad → some ad.block ≠ AD.map (·.block) := row_ne atN HDN (fun ad e => (gd1 ad e).2)
            clear gd1
            replace gd := gd.grown grN HND
            replace n2 := n2.grown grN (fun _ ad e => by injection e with e; subst e; exact ngn)
            clear ngn
            have nGN2 : some G ≠ AN2.map (·.block) := row_lt atN nGN kG.lt
            replace kG := kG.grown grN nGN
            clear nGN
            have nGN := nGN2
            clear nGN2
            replace bz := bz.trans bbN
            clear bbN grN atN n1 gn
            have gn := gN
            clear gN
            generalize we = wd at *
            refine hK.out _ _ (B1.out.below bz).c0 (fun hHeld => ?_)
            clear hK K
            try simp only [Act.put]
            try simp only [List.setIfInBounds_toArray, List.set_cons_zero, List.set_cons_succ]
            refine wpAnyH_ready (rs := [7]) (by kernel_rfl) (by simp) ?_
            refine AllReadyH.cons rfl (fun K hK => ?_) ?_
            · refine step_append_rd wd (mk := lmv) (fun _ => rfl) rfl _ _ 23 rfl 26 i0 (.int .u32 0) 4 Try.underlying23 hi hz0 hz1 hz2 rfl (B := wn.heap.size) (A := AD) (c := cD) (n := DS.length) (xs := DS) rfl rfl gd (some ⟨g2, 0, none⟩) 2 2 [0, 0] rfl rfl n2 (by simp only [maxLen]; omega) (by omega) bz.size ?_
              intro AD2 cD2 we gD grD bbD atD
              replace gn := gn.grown grD nND
              clear nND
              have nGD2 : some G ≠ AD2.map (·.block) := row_lt atD nGD kG.lt
              replace kG := kG.grown grD nGD
              clear nGD
              replace bz := bz.trans bbD
              clear bbD grD atD n2 gd
              have gd := gD
              clear gD
              generalize we = wd at *
              refine hK.out _ _ (B1.out.below bz).c0 (fun hHeld => ?_)
              clear hK K
              try simp only [Act.put]
              try simp only [List.setIfInBounds_toArray, List.set_cons_zero, List.set_cons_succ]
              refine wpAnyH_take (i := 8) (v := .agg #[.bool x1.b, .slice AN2 (NS.length + 1) cN2, .slice AD2 (DS.length + 2) cD2]) rfl (by kernel_rfl) (by kernel_rfl) (by kernel_rfl) (fun _ _ _ h => h) (Or.inl ⟨by rfl, ?_⟩) (by assumption) ?_
              · intro w hSw
                try dsimp only at hSw
                go_simp
                try with_reducible rfl
              try simp only [Act.put]
              try simp only [List.setIfInBounds_toArray, List.set_cons_zero, List.set_cons_succ]
              refine wpAnyH_ready (rs := [10]) (by kernel_rfl) (by simp) ?_
              refine AllReadyH.cons rfl (fun K hK => ?_) ?_
              · have t := kG
                obtain ⟨k0, k1, k2, kf0, kf1, kf2, _, _⟩ := t
                go_simp
                clear k0 k1 k2 kf0 kf1 kf2
                have hb := bk3_put (a := (.bool x1.b)) (b := (.slice AN2 (NS.length + 1) cN2)) (c := (.slice AD2 (DS.length + 2) cD2)) kG
                have okz : (⟨x1.b, AN2, cN2, NS ++ [0], AD2, cD2, DS ++ [0, 0]⟩ : Fx).ok wd := ⟨gn.nt (HUN.out.append (U32.one (by omega))), gd.nt (HUD.out.append (U32.cons (by omega) (U32.one (by omega))))⟩
                have oky : Fx.ok ⟨x1.b, AN2, cN2, NS ++ [0], AD2, cD2, DS ++ [0, 0]⟩ (((wd.setCell ⟨G, 0, none⟩ (.bool x1.b)).setCell ⟨G, 1, none⟩ (.slice AN2 (NS.length + 1) cN2)).setCell ⟨G, 2, none⟩ (.slice AD2 (DS.length + 2) cD2)) := set3_ok okz kG rfl rfl rfl
                have b5 := set3g (G := G) (a := (.bool x1.b)) (b := (.slice AN2 (NS.length + 1) cN2)) (c := (.slice AD2 (DS.length + 2) cD2)) bz sG
                clear bz kG okz gn gd
                generalize (((wd.setCell ⟨G, 0, none⟩ (.bool x1.b)).setCell ⟨G, 1, none⟩ (.slice AN2 (NS.length + 1) cN2)).setCell ⟨G, 2, none⟩ (.slice AD2 (DS.length + 2) cD2)) = we at *
                have bz := b5
                clear b5
                clear hHeld
                generalize we = wd at *
                refine hK.out _ _ (B1.out.below bz).c0 (fun hHeld => ?_)
                clear hK K
                try simp only [Act.put]
                try simp only [List.setIfInBounds_toArray, List.set_cons_zero, List.set_cons_succ]
                refine wpAnyH_done (by kernel_rfl) ?_ _
                go_wp2_with fail
                go_meet
                case rel => exact ⟨G, ⟨x1.b, AN2, cN2, NS ++ [0], AD2, cD2, DS ++ [0, 0]⟩, rfl, ⟨by simpa using hb, oky⟩, rfl, rfl, rfl, bz⟩
              exact AllReadyH.nil
            exact AllReadyH.nil
          exact AllReadyH.nil
        exact AllReadyH.nil
      exact AllReadyH.nil
    refine AllReadyH.cons rfl (fun K hK => ?_) ?_
    · go_simp
      have n2 : Rd lmv (wd.alloc (.cells #[.int .u32 0, .int .u32 0] 26)) (some ⟨wd.heap.size, 0, none⟩) [0, 0] := (Gr.lit (mk := lmv) (e := 26) (B := wd.heap.size) wd [0, 0] #[.int .u32 0, .int .u32 0] rfl (by simp [maxLen]) (Nat.le_refl _)).rd
      have bb := (Below.refl wd.heap.size wd).alloc (Nat.le_refl _) (.cells #[.int .u32 0, .int .u32 0] 26)
      have gn1 := gn.form.2.2
      have gd1 := gd.form.2.2
      generalize hg2 : wd.heap.size = g2 at n2 gn1 gd1 ⊢
      have ngn : some g2 ≠ AN.map (·.block) := ne_row (fun ad e => (gn1 ad e).2) (Nat.le_refl _)
      clear gn1 gd1
      replace gn := gn.below bb
      replace gd := gd.below bb
      replace bz := below_on bz bb bz.size
      clear bb
      generalize (wd.alloc (.cells #[.int .u32 0, .int .u32 0] 26)) = we at *
      clear hg2
      generalize we = wd at *
      refine hK.out _ _ (B1.out.below bz).c0 (fun hHeld => ?_)
      clear hK K
      try simp only [Act.put]
      try simp only [List.setIfInBounds_toArray, List.set_cons_zero, List.set_cons_succ]
      refine wpAnyH_ready (rs := [3, 9]) (by kernel_rfl) (by simp) ?_
      refine AllReadyH.cons rfl (fun K hK => ?_) ?_
      · go_simp
        have n1 : Rd lmv (wd.alloc (.cells #[.int .u32 0] 26)) (some ⟨wd.heap.size, 0, none⟩) [0] := (Gr.lit (mk := lmv) (e := 26) (B := wd.heap.size) wd [0] #[.int .u32 0] rfl (by simp [maxLen]) (Nat.le_refl _)).rd
        have bb := (Below.refl wd.heap.size wd).alloc (Nat.le_refl _) (.cells #[.int .u32 0] 26)
        have gn1 := gn.form.2.2
        have gd1 := gd.form.2.2
        generalize hg1 : wd.heap.size = g1 at n1 gn1 gd1 ⊢
        clear gn1 gd1
        replace n2 := n2.below bb rfl
        replace gn := gn.below bb
        replace gd := gd.below bb
        replace bz := below_on bz bb bz.size
        clear bb
        generalize (wd.alloc (.cells #[.int .u32 0] 26)) = we at *
        clear hg1
        generalize we = wd at *
        refine hK.out _ _ (B1.out.below bz).c0 (fun hHeld => ?_)
        clear hK K
        try simp only [Act.put]
        try simp only [List.setIfInBounds_toArray, List.set_cons_zero, List.set_cons_succ]
        refine wpAnyH_ready (rs := [4, 9]) (by kernel_rfl) (by simp) ?_
        refine AllReadyH.cons rfl (fun K hK => ?_) ?_
        · refine step_append_rd wd (mk := lmv) (fun _ => rfl) rfl _ _ 23 rfl 26 i0 (.int .u32 0) 4 Try.underlying23 hi hz0 hz1 hz2 rfl (B := wn.heap.size) (A := AN) (c := cN) (n := NS.length) (xs := NS) rfl rfl gn (some ⟨g1, 0, none⟩) 1 1 [0] rfl rfl n1 (by simp only [maxLen]; omega) (by omega) bz.size ?_
          intro AN2 cN2 we gN grN bbN atN
          have gd1 := gd.form.2.2
          have nND : ∀ ad, AN2 = some ad → some ad.block ≠ AD.map (·.block) := row_ne atN HDN (fun ad e => (gd1 ad e).2)
          clear gd1
          replace gd := gd.grown grN HND
          replace n2 := n2.grown grN (fun _ ad e => by injection e with e; subst e; exact ngn)
          clear ngn
          replace bz := bz.trans bbN
          clear bbN grN atN n1 gn
          have gn := gN
          clear gN
          generalize we = wd at *
          refine hK.out _ _ (B1.out.below bz).c0 (fun hHeld => ?_)
          clear hK K
          try simp only [Act.put]
          try simp only [List.setIfInBounds_toArray, List.set_cons_zero, List.set_cons_succ]
          refine wpAnyH_ready (rs := [7, 9]) (by kernel_rfl) (by simp) ?_
          refine AllReadyH.cons rfl (fun K hK => ?_) ?_
          · refine step_append_rd wd (mk := lmv) (fun _ => rfl) rfl _ _ 23 rfl 26 i0 (.int .u32 0) 4 Try.underlying23 hi hz0 hz1 hz2 rfl (B := wn.heap.size) (A := AD) (c := cD) (n := DS.length) (xs := DS) rfl rfl gd (some ⟨g2, 0, none⟩) 2 2 [0, 0] rfl rfl n2 (by simp only [maxLen]; omega) (by omega) bz.size ?_
            intro AD2 cD2 we gD grD bbD atD
            replace gn := gn.grown grD nND
            clear nND
            replace bz := bz.trans bbD
            clear bbD grD atD n2 gd
            have gd := gD
            clear gD
            generalize we = wd at *
            refine hK.out _ _ (B1.out.below bz).c0 (fun hHeld => ?_)
            clear hK K
            try simp only [Act.put]
            try simp only [List.setIfInBounds_toArray, List.set_cons_zero, List.set_cons_succ]
            refine wpAnyH_take (i := 8) (v := .agg #[.bool x1.b, .slice AN2 (NS.length + 1) cN2, .slice AD2 (DS.length + 2) cD2]) rfl (by kernel_rfl) (by kernel_rfl) (by kernel_rfl) (fun _ _ _ h => h) (Or.inl ⟨by rfl, ?_⟩) (by assumption) ?_
            · intro w hSw
              try dsimp only at hSw
              go_simp
              try with_reducible rfl
            try simp only [Act.put]
            try simp only [List.setIfInBounds_toArray, List.set_cons_zero, List.set_cons_succ]
            refine wpAnyH_ready (rs := [9]) (by kernel_rfl) (by simp) ?_
            refine AllReadyH.cons rfl (fun K hK => ?_) ?_
            · go_simp
              have kG := bk3_new wd
              have bb := (Below.refl wd.heap.size wd).alloc (Nat.le_refl _) (.cells #[.bool false, .slice none 0 0, .slice none 0 0] 25)
              have sG := bz.size
              have gn1 := gn.form.2.2
              have gd1 := gd.form.2.2
              generalize hG : wd.heap.size = G at kG sG gn1 gd1 ⊢
              clear gn1 gd1
              replace gn := gn.below bb
              replace gd := gd.below bb
              replace bz := below_on bz bb bz.size
              clear bb
              generalize (wd.alloc (.cells #[.bool false, .slice none 0 0, .slice none 0 0] 25)) = we at *
              clear hG
              generalize we = wd at *
              refine hK.out _ _ (B1.out.below bz).c0 (fun hHeld => ?_)
              clear hK K
              try simp only [Act.put]
              try simp only [List.setIfInBounds_toArray, List.set_cons_zero, List.set_cons_succ]
              refine wpAnyH_ready (rs := [10]) (by kernel_rfl) (by simp) ?_
              refine AllReadyH.cons rfl (fun K hK => ?_) ?_
              · have t := kG
                obtain ⟨k0, k1, k2, kf0, kf1, kf2, _, _⟩ := t
                go_simp
                clear k0 k1 k2 kf0 kf1 kf2
                have hb := bk3_put (a := (.bool x1.b)) (b := (.slice AN2 (NS.length + 1) cN2)) (c := (.slice AD2 (DS.length + 2) cD2)) kG
                have okz : (⟨x1.b, AN2, cN2, NS ++ [0], AD2, cD2, DS ++ [0, 0]⟩ : Fx).ok wd := ⟨gn.nt (HUN.out.append (U32.one (by omega))), gd.nt (HUD.out.append (U32.cons (by omega) (U32.one (by omega))))⟩
                have oky : Fx.ok ⟨x1.b, AN2, cN2, NS ++ [0], AD2, cD2, DS ++ [0, 0]⟩ (((wd.setCell ⟨G, 0, none⟩ (.bool x1.b)).setCell ⟨G, 1, none⟩ (.slice AN2 (NS.length + 1) cN2)).setCell ⟨G, 2, none⟩ (.slice AD2 (DS.length + 2) cD2)) := set3_ok okz kG rfl rfl rfl
                have b5 := set3g (G := G) (a := (.bool x1.b)) (b := (.slice AN2 (NS.length + 1) cN2)) (c := (.slice AD2 (DS.length + 2) cD2)) bz sG
                clear bz kG okz gn gd
                generalize (((wd.setCell ⟨G, 0, none⟩ (.bool x1.b)).setCell ⟨G, 1, none⟩ (.slice AN2 (NS.length + 1) cN2)).setCell ⟨G, 2, none⟩ (.slice AD2 (DS.length + 2) cD2)) = we at *
                have bz := b5
                clear b5
                clear hHeld
                generalize we = wd at *
                refine hK.out _ _ (B1.out.below bz).c0 (fun hHeld => ?_)
                clear hK K
                try simp only [Act.put]
                try simp only [List.setIfInBounds_toArray, List.set_cons_zero, List.set_cons_succ]
                refine wpAnyH_done (by kernel_rfl) ?_ _
                go_wp2_with fail
                go_meet
                case rel => exact ⟨G, ⟨x1.b, AN2, cN2, NS ++ [0], AD2, cD2, DS ++ [0, 0]⟩, rfl, ⟨by simpa using hb, oky⟩, rfl, rfl, rfl, bz⟩
              exact AllReadyH.nil
            exact AllReadyH.nil
          refine AllReadyH.cons rfl (fun K hK => ?_) ?_
          · go_simp
            have kG := bk3_new wd
            have bb := (Below.refl wd.heap.size wd).alloc (Nat.le_refl _) (.cells #[.bool false, .slice none 0 0, .slice none 0 0] 25)
            have sG := bz.size
            have gn1 := gn.form.2.2
            have gd1 := gd.form.2.2
            generalize hG : wd.heap.size = G at kG sG gn1 gd1 ⊢
            have nGD : some G ≠ AD.map (·.block) := ne_row (fun ad e => (gd1 ad e).2) (Nat.le_refl _)
            clear gn1 gd1
            replace n2 := n2.below bb rfl
            replace gn := gn.below bb
            replace gd := gd.below bb
            replace bz := below_on bz bb bz.size
            clear bb
            generalize (wd.alloc (.cells #[.bool false, .slice none 0 0, .slice none 0 0] 25)) = we at *
            clear hG
            generalize we = wd at *
            refine hK.out _ _ (B1.out.below bz).c0 (fun hHeld => ?_)
            clear hK K
            try simp only [Act.put]
            try simp only [List.setIfInBounds_toArray, List.set_cons_zero, List.set_cons_succ]
            refine wpAnyH_ready (rs := [7]) (by kernel_rfl) (by simp) ?_
            refine AllReadyH.cons rfl (fun K hK => ?_) ?_
            · refine step_append_rd wd (mk := lmv) (fun _ => rfl) rfl _ _ 23 rfl 26 i0 (.int .u32 0) 4 Try.underlying23 hi hz0 hz1 hz2 rfl (B := wn.heap.size) (A := AD) (c := cD) (n := DS.length) (xs := DS) rfl rfl gd (some ⟨g2, 0, none⟩) 2 2 [0, 0] rfl rfl n2 (by simp only [maxLen]; omega) (by omega) bz.size ?_
              intro AD2 cD2 we gD grD bbD atD
              replace gn := gn.grown grD nND
              clear nND
              have nGD2 : some G ≠ AD2.map (·.block) := row_lt atD nGD kG.lt
              replace kG := kG.grown grD nGD
              clear nGD
              replace bz := bz.trans bbD
              clear bbD grD atD n2 gd
              have gd := gD
              clear gD
              generalize we = wd at *
              refine hK.out _ _ (B1.out.below bz).c0 (fun hHeld => ?_)
              clear hK K
              try simp only [Act.put]
              try simp only [List.setIfInBounds_toArray, List.set_cons_zero, List.set_cons_succ]
              refine wpAnyH_take (i := 8) (v := .agg #[.bool x1.b, .slice AN2 (NS.length + 1) cN2, .slice AD2 (DS.length + 2) cD2]) rfl (by kernel_rfl) (by kernel_rfl) (by kernel_rfl) (fun _ _ _ h => h) (Or.inl ⟨by rfl, ?_⟩) (by assumption) ?_
              · intro w hSw
                try dsimp only at hSw
                go_simp
                try with_reducible rfl
              try simp only [Act.put]
              try simp only [List.setIfInBounds_toArray, List.set_cons_zero, List.set_cons_succ]
              refine wpAnyH_ready (rs := [10]) (by kernel_rfl) (by simp) ?_
              refine AllReadyH.cons rfl (fun K hK => ?_) ?_
              · have t := kG
                obtain ⟨k0, k1, k2, kf0, kf1, kf2, _, _⟩ := t
                go_simp
                clear k0 k1 k2 kf0 kf1 kf2
                have hb := bk3_put (a := (.bool x1.b)) (b := (.slice AN2 (NS.length + 1) cN2)) (c := (.slice AD2 (DS.length + 2) cD2)) kG
                have okz : (⟨x1.b, AN2, cN2, NS ++ [0], AD2, cD2, DS ++ [0, 0]⟩ : Fx).ok wd := ⟨gn.nt (HUN.out.append (U32.one (by omega))), gd.nt (HUD.out.append (U32.cons (by omega) (U32.one (by omega))))⟩
                have oky : Fx.ok ⟨x1.b, AN2, cN2, NS ++ [0], AD2, cD2, DS ++ [0, 0]⟩ (((wd.setCell ⟨G, 0, none⟩ (.bool x1.b)).setCell ⟨G, 1, none⟩ (.slice AN2 (NS.length + 1) cN2)).setCell ⟨G, 2, none⟩ (.slice AD2 (DS.length + 2) cD2)) := set3_ok okz kG rfl rfl rfl
                have b5 := set3g (G := G) (a := (.bool x1.b)) (b := (.slice AN2 (NS.length + 1) cN2)) (c := (.slice AD2 (DS.length + 2) cD2)) bz sG
                clear bz kG okz gn gd
                generalize (((wd.setCell ⟨G, 0, none⟩ (.bool x1.b)).setCell ⟨G, 1, none⟩ (.slice AN2 (NS.length + 1) cN2)).setCell ⟨G, 2, none⟩ (.slice AD2 (DS.length + 2) cD2)) = we at *
                have bz := b5
                clear b5
                clear hHeld
                generalize we = wd at *
                refine hK.out _ _ (B1.out.below bz).c0 (fun hHeld => ?_)
                clear hK K
                try simp only [Act.put]
                try simp only [List.setIfInBounds_toArray, List.set_cons_zero, List.set_cons_succ]
                refine wpAnyH_done (by kernel_rfl) ?_ _
                go_wp2_with fail
                go_meet
                case rel => exact ⟨G, ⟨x1.b, AN2, cN2, NS ++ [0], AD2, cD2, DS ++ [0, 0]⟩, rfl, ⟨by simpa using hb, oky⟩, rfl, rfl, rfl, bz⟩
              exact AllReadyH.nil
            exact AllReadyH.nil
          exact AllReadyH.nil
        refine AllReadyH.cons rfl (fun K hK => ?_) ?_
        · go_simp
          have kG := bk3_new wd
          have bb := (Below.refl wd.heap.size wd).alloc (Nat.le_refl _) (.cells #[.bool false, .slice none 0 0, .slice none 0 0] 25)
          have sG := bz.size
          have gn1 := gn.form.2.2
          have gd1 := gd.form.2.2
          generalize hG : wd.heap.size = G at kG sG gn1 gd1 ⊢
          have nGN : some G ≠ AN.map (·.block) := ne_row (fun ad e => (gn1 ad e).2) (Nat.le_refl _)
          have nGD : some G ≠ AD.map (·.block) := ne_row (fun ad e => (gd1 ad e).2) (Nat.le_refl _)
          clear gn1 gd1
          replace n2 := n2.below bb rfl
          replace n1 := n1.below bb rfl
          replace gn := gn.below bb
          replace gd := gd.below bb
          replace bz := below_on bz bb bz.size
          clear bb
          generalize (wd.alloc (.cells #[.bool false, .slice none 0 0, .slice none 0 0] 25)) = we at *
          clear hG
          generalize we = wd at *
          refine hK.out _ _ (B1.out.below bz).c0 (fun hHeld => ?_)
          clear hK K
          try simp only [Act.put]
          try simp only [List.setIfInBounds_toArray, List.set_cons_zero, List.set_cons_succ]
          refine wpAnyH_ready (rs := [4]) (by kernel_rfl) (by simp) ?_
          refine AllReadyH.cons rfl (fun K hK => ?_) ?_
          · refine step_append_rd wd (mk := lmv) (fun _ => rfl) rfl _ _ 23 rfl 26 i0 (.int .u32 0) 4 Try.underlying23 hi hz0 hz1 hz2 rfl (B := wn.heap.size) (A := AN) (c := cN) (n := NS.length) (xs := NS) rfl rfl gn (some ⟨g1, 0, none⟩) 1 1 [0] rfl rfl n1 (by simp only [maxLen]; omega) (by omega) bz.size ?_
            intro AN2 cN2 we gN grN bbN atN
            have gd1 := gd.form.2.2
            have nND : ∀ ad, AN2 = some ad → some ad.block ≠ AD.map (·.block) := row_ne atN HDN (fun ad e => (gd1 ad e).2)
            clear gd1
            replace gd := gd.grown grN HND
            replace n2 := n2.grown grN (fun _ ad e => by injection e with e; subst e; exact ngn)
            clear ngn
            have nGN2 : some G ≠ AN2.map (·.block) := row_lt atN nGN kG.lt
            replace kG := kG.grown grN nGN
            clear nGN
            have nGN := nGN2
            clear nGN2
            replace bz := bz.trans bbN
            clear bbN grN atN n1 gn
            have gn := gN
            clear gN
            generalize we = wd at *
            refine hK.out _ _ (B1.out.below bz).c0 (fun hHeld => ?_)
            clear hK K
            try simp only [Act.put]
            try simp only [List.setIfInBounds_toArray, List.set_cons_zero, List.set_cons_succ]
            refine wpAnyH_ready (rs := [7]) (by kernel_rfl) (by simp) ?_
            refine AllReadyH.cons rfl (fun K hK => ?_) ?_
            · refine step_append_rd wd (mk := lmv) (fun _ => rfl) rfl _ _ 23 rfl 26 i0 (.int .u32 0) 4 Try.underlying23 hi hz0 hz1 hz2 rfl (B := wn.heap.size) (A := AD) (c := cD) (n := DS.length) (xs := DS) rfl rfl gd (some ⟨g2, 0, none⟩) 2 2 [0, 0] rfl rfl n2 (by simp only [maxLen]; omega) (by omega) bz.size ?_
              intro AD2 cD2 we gD grD bbD atD
              replace gn := gn.grown grD nND
              clear nND
              have nGD2 : some G ≠ AD2.map (·.block) := row_lt atD nGD kG.lt
              replace kG := kG.grown grD nGD
              clear nGD
              replace bz := bz.trans bbD
              clear bbD grD atD n2 gd
              have gd := gD
              clear gD
              generalize we = wd at *
              refine hK.out _ _ (B1.out.below bz).c0 (fun hHeld => ?_)
              clear hK K
              try simp only [Act.put]
              try simp only [List.setIfInBounds_toArray, List.set_cons_zero, List.set_cons_succ]
              refine wpAnyH_take (i := 8) (v := .agg #[.bool x1.b, .slice AN2 (NS.length + 1) cN2, .slice AD2 (DS.length + 2) cD2]) rfl (by kernel_rfl) (by kernel_rfl) (by kernel_rfl) (fun _ _ _ h => h) (Or.inl ⟨by rfl, ?_⟩) (by assumption) ?_
              · intro w hSw
                try dsimp only at hSw
                go_simp
                try with_reducible rfl
              try simp only [Act.put]
              try simp only [List.setIfInBounds_toArray, List.set_cons_zero, List.set_cons_succ]
              refine wpAnyH_ready (rs := [10]) (by kernel_rfl) (by simp) ?_
              refine AllReadyH.cons rfl (fun K hK => ?_) ?_
              · have t := kG
                obtain ⟨k0, k1, k2, kf0, kf1, kf2, _, _⟩ := t
                go_simp
                clear k0 k1 k2 kf0 kf1 kf2
                have hb := bk3_put (a := (.bool x1.b)) (b := (.slice AN2 (NS.length + 1) cN2)) (c := (.slice AD2 (DS.length + 2) cD2)) kG
                have okz : (⟨x1.b, AN2, cN2, NS ++ [0], AD2, cD2, DS ++ [0, 0]⟩ : Fx).ok wd := ⟨gn.nt (HUN.out.append (U32.one (by omega))), gd.nt (HUD.out.append (U32.cons (by omega) (U32.one (by omega))))⟩
                have oky : Fx.ok ⟨x1.b, AN2, cN2, NS ++ [0], AD2, cD2, DS ++ [0, 0]⟩ (((wd.setCell ⟨G, 0, none⟩ (.bool x1.b)).setCell ⟨G, 1, none⟩ (.slice AN2 (NS.length + 1) cN2)).setCell ⟨G, 2, none⟩ (.slice AD2 (DS.length + 2) cD2)) := set3_ok okz kG rfl rfl rfl
                have b5 := set3g (G := G) (a := (.bool x1.b)) (b := (.slice AN2 (NS.length + 1) cN2)) (c := (.slice AD2 (DS.length + 2) cD2)) bz sG
                clear bz kG okz gn gd
                generalize (((wd.setCell ⟨G, 0, none⟩ (.bool x1.b)).setCell ⟨G, 1, none⟩ (.slice AN2 (NS.length + 1) cN2)).setCell ⟨G, 2, none⟩ (.slice AD2 (DS.length + 2) cD2)) = we at *
                have bz := b5
                clear b5
                clear hHeld
                generalize we = wd at *
                refine hK.out _ _ (B1.out.below bz).c0 (fun hHeld => ?_)
                clear hK K
                try simp only [Act.put]
                try simp only [List.setIfInBounds_toArray, List.set_cons_zero, List.set_cons_succ]
                refine wpAnyH_done (by kernel_rfl) ?_ _
                go_wp2_with fail
                go_meet
                case rel => exact ⟨G, ⟨x1.b, AN2, cN2, NS ++ [0], AD2, cD2, DS ++ [0, 0]⟩, rfl, ⟨by simpa using hb, oky⟩, rfl, rfl, rfl, bz⟩
              exact AllReadyH.nil
            exact AllReadyH.nil
          exact AllReadyH.nil
        exact AllReadyH.nil
      refine AllReadyH.cons rfl (fun K hK => ?_) ?_
      · go_simp
        have kG := bk3_new wd
        have bb := (Below.refl wd.heap.size wd).alloc (Nat.le_refl _) (.cells #[.bool false, .slice none 0 0, .slice none 0 0] 25)
        have sG := bz.size
        have gn1 := gn.form.2.2
        have gd1 := gd.form.2.2
        generalize hG : wd.heap.size = G at kG sG gn1 gd1 ⊢
        have nGN : some G ≠ AN.map (·.block) := ne_row (fun ad e => (gn1 ad e).2) (Nat.le_refl _)
        have nGD : some G ≠ AD.map (·.block) := ne_row (fun ad e => (gd1 ad e).2) (Nat.le_refl _)
        clear gn1 gd1
        replace n2 := n2.below bb rfl
        replace gn := gn.below bb
        replace gd := gd.below bb
        replace bz := below_on bz bb bz.size
        clear bb
        generalize (wd.alloc (.cells #[.bool false, .slice none 0 0, .slice none 0 0] 25)) = we at *
        clear hG
        generalize we = wd at *
        refine hK.out _ _ (B1.out.below bz).c0 (fun hHeld => ?_)
        clear hK K
        try simp only [Act.put]
        try simp only [List.setIfInBounds_toArray, List.set_cons_zero, List.set_cons_succ]
        refine wpAnyH_ready (rs := [3]) (by kernel_rfl) (by simp) ?_
        refine AllReadyH.cons rfl (fun K hK => ?_) ?_
        · go_simp
          have n1 : Rd lmv (wd.alloc (.cells #[.int .u32 0] 26)) (some ⟨wd.heap.size, 0, none⟩) [0] := (Gr.lit (mk := lmv) (e := 26) (B := wd.heap.size) wd [0] #[.int .u32 0] rfl (by simp [maxLen]) (Nat.le_refl _)).rd
          have bb := (Below.refl wd.heap.size wd).alloc (Nat.le_refl _) (.cells #[.int .u32 0] 26)
          have gn1 := gn.form.2.2
          have gd1 := gd.form.2.2
          generalize hg1 : wd.heap.size = g1 at n1 gn1 gd1 ⊢
          clear gn1 gd1
          replace n2 := n2.below bb rfl
          replace kG := kG.below bb
          replace gn := gn.below bb
          replace gd := gd.below bb
          replace bz := below_on bz bb bz.size
          clear bb
          generalize (wd.alloc (.cells #[.int .u32 0] 26)) = we at *
          clear hg1
          generalize we = wd at *
          refine hK.out _ _ (B1.out.below bz).c0 (fun hHeld => ?_)
          clear hK K
          try simp only [Act.put]
          try simp only [List.setIfInBounds_toArray, List.set_cons_zero, List.set_cons_succ]
          refine wpAnyH_ready (rs := [4]) (by kernel_rfl) (by simp) ?_
          refine AllReadyH.cons rfl (fun K hK => ?_) ?_
          · refine step_append_rd wd (mk := lmv) (fun _ => rfl) rfl _ _ 23 rfl 26 i0 (.int .u32 0) 4 Try.underlying23 hi hz0 hz1 hz2 rfl (B := wn.heap.size) (A := AN) (c := cN) (n := NS.length) (xs := NS) rfl rfl gn (some ⟨g1, 0, none⟩) 1 1 [0] rfl rfl n1 (by simp only [maxLen]; omega) (by omega) bz.size ?_
            intro AN2 cN2 we gN grN bbN atN
            have gd1 := gd.form.2.2
            have nND : ∀ ad, AN2 = some ad → some ad.block ≠ AD.map (·.block) := row_ne atN HDN (fun ad e => (gd1 ad e).2)
            clear gd1
            replace gd := gd.grown grN HND
            replace n2 := n2.grown grN (fun _ ad e => by injection e with e; subst e; exact ngn)
            clear ngn
            have nGN2 : some G ≠ AN2.map (·.block) := row_lt atN nGN kG.lt
            replace kG := kG.grown grN nGN
            clear nGN
            have nGN := nGN2
            clear nGN2
            replace bz := bz.trans bbN
            clear bbN grN atN n1 gn
            have gn := gN
            clear gN
            generalize we = wd at *
            refine hK.out _ _ (B1.out.below bz).c0 (fun hHeld => ?_)
            clear hK K
            try simp only [Act.put]
            try simp only [List.setIfInBounds_toArray, List.set_cons_zero, List.set_cons_succ]
            refine wpAnyH_ready (rs := [7]) (by kernel_rfl) (by simp) ?_
            refine AllReadyH.cons rfl (fun K hK => ?_) ?_
            · refine step_append_rd wd (mk := lmv) (fun _ => rfl) rfl _ _ 23 rfl 26 i0 (.int .u32 0) 4 Try.underlying23 hi hz0 hz1 hz2 rfl (B := wn.heap.size) (A := AD) (c := cD) (n := DS.length) (xs := DS) rfl rfl gd (some ⟨g2, 0, none⟩) 2 2 [0, 0] rfl rfl n2 (by simp only [maxLen]; omega) (by omega) bz.size ?_
              intro AD2 cD2 we gD grD bbD atD
              replace gn := gn.grown grD nND
              clear nND
              have nGD2 : some G ≠ AD2.map (·.block) := row_lt atD nGD kG.lt
              replace kG := kG.grown grD nGD
              clear nGD
              replace bz := bz.trans bbD
              clear bbD grD atD n2 gd
              have gd := gD
              clear gD
              generalize we = wd at *
              refine hK.out _ _ (B1.out.below bz).c0 (fun hHeld => ?_)
              clear hK K
              try simp only [Act.put]
              try simp only [List.setIfInBounds_toArray, List.set_cons_zero, List.set_cons_succ]
              refine wpAnyH_take (i := 8) (v := .agg #[.bool x1.b, .slice AN2 (NS.length + 1) cN2, .slice AD2 (DS.length + 2) cD2]) rfl (by kernel_rfl) (by kernel_rfl) (by kernel_rfl) (fun _ _ _ h => h) (Or.inl ⟨by rfl, ?_⟩) (by assumption) ?_
              · intro w hSw
                try dsimp only at hSw
                go_simp
                try with_reducible rfl
              try simp only [Act.put]
              try simp only [List.setIfInBounds_toArray, List.set_cons_zero, List.set_cons_succ]
              refine wpAnyH_ready (rs := [10]) (by kernel_rfl) (by simp) ?_
              refine AllReadyH.cons rfl (fun K hK => ?_) ?_
              · have t := kG
                obtain ⟨k0, k1, k2, kf0, kf1, kf2, _, _⟩ := t
                go_simp
                clear k0 k1 k2 kf0 kf1 kf2
                have hb := bk3_put (a := (.bool x1.b)) (b := (.slice AN2 (NS.length + 1) cN2)) (c := (.slice AD2 (DS.length + 2) cD2)) kG
                have okz : (⟨x1.b, AN2, cN2, NS ++ [0], AD2, cD2, DS ++ [0, 0]⟩ : Fx).ok wd := ⟨gn.nt (HUN.out.append (U32.one (by omega))), gd.nt (HUD.out.append (U32.cons (by omega) (U32.one (by omega))))⟩
                have oky : Fx.ok ⟨x1.b, AN2, cN2, NS ++ [0], AD2, cD2, DS ++ [0, 0]⟩ (((wd.setCell ⟨G, 0, none⟩ (.bool x1.b)).setCell ⟨G, 1, none⟩ (.slice AN2 (NS.length + 1) cN2)).setCell ⟨G, 2, none⟩ (.slice AD2 (DS.length + 2) cD2)) := set3_ok okz kG rfl rfl rfl
                have b5 := set3g (G := G) (a := (.bool x1.b)) (b := (.slice AN2 (NS.length + 1) cN2)) (c := (.slice AD2 (DS.length + 2) cD2)) bz sG
                clear bz kG okz gn gd
                generalize (((wd.setCell ⟨G, 0, none⟩ (.bool x1.b)).setCell ⟨G, 1, none⟩ (.slice AN2 (NS.length + 1) cN2)).setCell ⟨G, 2, none⟩ (.slice AD2 (DS.length + 2) cD2)) = we at *
                have bz := b5
                clear b5
                clear hHeld
                generalize we = wd at *
                refine hK.out _ _ (B1.out.below bz).c0 (fun hHeld => ?_)
                clear hK K
                try simp only [Act.put]
                try simp only [List.setIfInBounds_toArray, List.set_cons_zero, List.set_cons_succ]
                refine wpAnyH_done (by kernel_rfl) ?_ _
                go_wp2_with fail
                go_meet
                case rel => exact ⟨G, ⟨x1.b, AN2, cN2, NS ++ [0], AD2, cD2, DS ++ [0, 0]⟩, rfl, ⟨by simpa using hb, oky⟩, rfl, rfl, rfl, bz⟩
              exact AllReadyH.nil
            exact AllReadyH.nil
          exact AllReadyH.nil
        exact AllReadyH.nil
      exact AllReadyH.nil
    refine AllReadyH.cons rfl (fun K hK => ?_) ?_
    · go_simp
      have kG := bk3_new wd
      have bb := (Below.refl wd.heap.size wd).alloc (Nat.le_refl _) (.cells #[.bool false, .slice none 0 0, .slice none 0 0] 25)
      have sG := bz.size
      have gn1 := gn.form.2.2
      have gd1 := gd.form.2.2
      generalize hG : wd.heap.size = G at kG sG gn1 gd1 ⊢
      have nGN : some G ≠ AN.map (·.block) := ne_row (fun ad e => (gn1 ad e).2) (Nat.le_refl _)
      have nGD : some G ≠ AD.map (·.block) := ne_row (fun ad e => (gd1 ad e).2) (Nat.le_refl _)
      clear gn1 gd1
      replace gn := gn.below bb
      replace gd := gd.below bb
      replace bz := below_on bz bb bz.size
      clear bb
      generalize (wd.alloc (.cells #[.bool false, .slice none 0 0, .slice none 0 0] 25)) = we at *
      clear hG
      generalize we = wd at *
      refine hK.out _ _ (B1.out.below bz).c0 (fun hHeld => ?_)
      clear hK K
      try simp only [Act.put]
      try simp only [List.setIfInBounds_toArray, List.set_cons_zero, List.set_cons_succ]
      refine wpAnyH_ready (rs := [3, 6]) (by kernel_rfl) (by simp) ?_
      refine AllReadyH.cons rfl (fun K hK => ?_) ?_
      · go_simp
        have n1 : Rd lmv (wd.alloc (.cells #[.int .u32 0] 26)) (some ⟨wd.heap.size, 0, none⟩) [0] := (Gr.lit (mk := lmv) (e := 26) (B := wd.heap.size) wd [0] #[.int .u32 0] rfl (by simp [maxLen]) (Nat.le_refl _)).rd
        have bb := (Below.refl wd.heap.size wd).alloc (Nat.le_refl _) (.cells #[.int .u32 0] 26)
        have gn1 := gn.form.2.2
        have gd1 := gd.form.2.2
        generalize hg1 : wd.heap.size = g1 at n1 gn1 gd1 ⊢
        clear gn1 gd1
        replace kG := kG.below bb
        replace gn := gn.below bb
        replace gd := gd.below bb
        replace bz := below_on bz bb bz.size
        clear bb
        generalize (wd.alloc (.cells #[.int .u32 0] 26)) = we at *
        clear hg1
        generalize we = wd at *
        refine hK.out _ _ (B1.out.below bz).c0 (fun hHeld => ?_)
        clear hK K
        try simp only [Act.put]
        try simp only [List.setIfInBounds_toArray, List.set_cons_zero, List.set_cons_succ]
        refine wpAnyH_ready (rs := [4, 6]) (by kernel_rfl) (by simp) ?_
        refine AllReadyH.cons rfl (fun K hK => ?_) ?_
        · refine step_append_rd wd (mk := lmv) (fun _ => rfl) rfl _ _ 23 rfl 26 i0 (.int .u32 0) 4 Try.underlying23 hi hz0 hz1 hz2 rfl (B := wn.heap.size) (A := AN) (c := cN) (n := NS.length) (xs := NS) rfl rfl gn (some ⟨g1, 0, none⟩) 1 1 [0] rfl rfl n1 (by simp only [maxLen]; omega) (by omega) bz.size ?_
          intro AN2 cN2 we gN grN bbN atN
          have gd1 := gd.form.2.2
          have nND : ∀ ad, AN2 = some ad → some ad.block ≠ AD.map (·.block) := row_ne atN HDN (fun ad e => (gd1 ad e).2)
          clear gd1
          replace gd := gd.grown grN HND
          have nGN2 : some G ≠ AN2.map (·.block) := row_lt atN nGN kG.lt
          replace kG := kG.grown grN nGN
          clear nGN
          have nGN := nGN2
          clear nGN2
          replace bz := bz.trans bbN
          clear bbN grN atN n1 gn
          have gn := gN
          clear gN
          generalize we = wd at *
          refine hK.out _ _ (B1.out.below bz).c0 (fun hHeld => ?_)
          clear hK K
          try simp only [Act.put]
          try simp only [List.setIfInBounds_toArray, List.set_cons_zero, List.set_cons_succ]
          refine wpAnyH_ready (rs := [6]) (by kernel_rfl) (by simp) ?_
          refine AllReadyH.cons rfl (fun K hK => ?_) ?_
          · go_simp
            have n2 : Rd lmv (wd.alloc (.cells #[.int .u32 0, .int .u32 0] 26)) (some ⟨wd.heap.size, 0, none⟩) [0, 0] := (Gr.lit (mk := lmv) (e := 26) (B := wd.heap.size) wd [0, 0] #[.int .u32 0, .int .u32 0] rfl (by simp [maxLen]) (Nat.le_refl _)).rd
            have bb := (Below.refl wd.heap.size wd).alloc (Nat.le_refl _) (.cells #[.int .u32 0, .int .u32 0] 26)
            have gn1 := gn.form.2.2
            have gd1 := gd.form.2.2
            generalize hg2 : wd.heap.size = g2 at n2 gn1 gd1 ⊢
            clear gn1 gd1
            replace kG := kG.below bb
            replace gn := gn.below bb
            replace gd := gd.below bb
            replace bz := below_on bz bb bz.size
            clear bb
            generalize (wd.alloc (.cells #[.int .u32 0, .int .u32 0] 26)) = we at *
            clear hg2
            generalize we = wd at *
            refine hK.out _ _ (B1.out.below bz).c0 (fun hHeld => ?_)
            clear hK K
            try simp only [Act.put]
            try simp only [List.setIfInBounds_toArray, List.set_cons_zero, List.set_cons_succ]
            refine wpAnyH_ready (rs := [7]) (by kernel_rfl) (by simp) ?_
            refine AllReadyH.cons rfl (fun K hK => ?_) ?_
            · refine step_append_rd wd (mk := lmv) (fun _ => rfl) rfl _ _ 23 rfl 26 i0 (.int .u32 0) 4 Try.underlying23 hi hz0 hz1 hz2 rfl (B := wn.heap.size) (A := AD) (c := cD) (n := DS.length) (xs := DS) rfl rfl gd (some ⟨g2, 0, none⟩) 2 2 [0, 0] rfl rfl n2 (by simp only [maxLen]; omega) (by omega) bz.size ?_
              intro AD2 cD2 we gD grD bbD atD
              replace gn := gn.grown grD nND
              clear nND
              have nGD2 : some G ≠ AD2.map (·.block) := row_lt atD nGD kG.lt
              replace kG := kG.grown grD nGD
              clear nGD
              replace bz := bz.trans bbD
              clear bbD grD atD n2 gd
              have gd := gD
              clear gD
              generalize we = wd at *
              refine hK.out _ _ (B1.out.below bz).c0 (fun hHeld => ?_)
              clear hK K
              try simp only [Act.put]
              try simp only [List.setIfInBounds_toArray, List.set_cons_zero, List.set_cons_succ]
              refine wpAnyH_take (i := 8) (v := .agg #[.bool x1.b, .slice AN2 (NS.length + 1) cN2, .slice AD2 (DS.length + 2) cD2]) rfl (by kernel_rfl) (by kernel_rfl) (by kernel_rfl) (fun _ _ _ h => h) (Or.inl ⟨by rfl, ?_⟩) (by assumption) ?_
              · intro w hSw
                try dsimp only at hSw
                go_simp
                try with_reducible rfl
              try simp only [Act.put]
              try simp only [List.setIfInBounds_toArray, List.set_cons_zero, List.set_cons_succ]
              refine wpAnyH_ready (rs := [10]) (by kernel_rfl) (by simp) ?_
              refine AllReadyH.cons rfl (fun K hK => ?_) ?_
              · have t := kG
                obtain ⟨k0, k1, k2, kf0, kf1, kf2, _, _⟩ := t
                go_simp
                clear k0 k1 k2 kf0 kf1 kf2
                have hb := bk3_put (a := (.bool x1.b)) (b := (.slice AN2 (NS.length + 1) cN2)) (c := (.slice AD2 (DS.length + 2) cD2)) kG
                have okz : (⟨x1.b, AN2, cN2, NS ++ [0], AD2, cD2, DS ++ [0, 0]⟩ : Fx).ok wd := ⟨gn.nt (HUN.out.append (U32.one (by omega))), gd.nt (HUD.out.append (U32.cons (by omega) (U32.one (by omega))))⟩
                have oky : Fx.ok ⟨x1.b, AN2, cN2, NS ++ [0], AD2, cD2, DS ++ [0, 0]⟩ (((wd.setCell ⟨G, 0, none⟩ (.bool x1.b)).setCell ⟨G, 1, none⟩ (.slice AN2 (NS.length + 1) cN2)).setCell ⟨G, 2, none⟩ (.slice AD2 (DS.length + 2) cD2)) := set3_ok okz kG rfl rfl rfl
                have b5 := set3g (G := G) (a := (.bool x1.b)) (b := (.slice AN2 (NS.length + 1) cN2)) (c := (.slice AD2 (DS.length + 2) cD2)) bz sG
                clear bz kG okz gn gd
                generalize (((wd.setCell ⟨G, 0, none⟩ (.bool x1.b)).setCell ⟨G, 1, none⟩ (.slice AN2 (NS.length + 1) cN2)).setCell ⟨G, 2, none⟩ (.slice AD2 (DS.length + 2) cD2)) = we at *
                have bz := b5
                clear b5
                clear hHeld
                generalize we = wd at *
                refine hK.out _ _ (B1.out.below bz).c0 (fun hHeld => ?_)
                clear hK K
                try simp only [Act.put]
                try simp only [List.setIfInBounds_toArray, List.set_cons_zero, List.set_cons_succ]
                refine wpAnyH_done (by kernel_rfl) ?_ _
                go_wp2_with fail
                go_meet
                case rel => exact ⟨G, ⟨x1.b, AN2, cN2, NS ++ [0], AD2, cD2, DS ++ [0, 0]⟩, rfl, ⟨by simpa using hb, oky⟩, rfl, rfl, rfl, bz⟩
              exact AllReadyH.nil
            exact AllReadyH.nil
          exact AllReadyH.nil
        refine AllReadyH.cons rfl (fun K hK => ?_) ?_
        · go_simp
          have n2 : Rd lmv (wd.alloc (.cells #[.int .u32 0, .int .u32 0] 26)) (some ⟨wd.heap.size, 0, none⟩) [0, 0] := (Gr.lit (mk := lmv) (e := 26) (B := wd.heap.size) wd [0, 0] #[.int .u32 0, .int .u32 0] rfl (by simp [maxLen]) (Nat.le_refl _)).rd
          have bb := (Below.refl wd.heap.size wd).alloc (Nat.le_refl _) (.cells #[.int .u32 0, .int .u32 0] 26)
          have gn1 := gn.form.2.2
          have gd1 := gd.form.2.2
          generalize hg2 : wd.heap.size = g2 at n2 gn1 gd1 ⊢
          have ngn : some g2 ≠ AN.map (·.block) := ne_row (fun ad e => (gn1 ad e).2) (Nat.le_refl _)
          clear gn1 gd1
          replace n1 := n1.below bb rfl
          replace kG := kG.below bb
          replace gn := gn.below bb
          replace gd := gd.below bb
          replace bz := below_on bz bb bz.size
          clear bb
          generalize (wd.alloc (.cells #[.int .u32 0, .int .u32 0] 26)) = we at *
          clear hg2
          generalize we = wd at *
          refine hK.out _ _ (B1.out.below bz).c0 (fun hHeld => ?_)
          clear hK K
          try simp only [Act.put]
          try simp only [List.setIfInBounds_toArray, List.set_cons_zero, List.set_cons_succ]
          refine wpAnyH_ready (rs := [4]) (by kernel_rfl) (by simp) ?_
          refine AllReadyH.cons rfl (fun K hK => ?_) ?_
          · refine step_append_rd wd (mk := lmv) (fun _ => rfl) rfl _ _ 23 rfl 26 i0 (.int .u32 0) 4 Try.underlying23 hi hz0 hz1 hz2 rfl (B := wn.heap.size) (A := AN) (c := cN) (n := NS.length) (xs := NS) rfl rfl gn (some ⟨g1, 0, none⟩) 1 1 [0] rfl rfl n1 (by simp only [maxLen]; omega) (by omega) bz.size ?_
            intro AN2 cN2 we gN grN bbN atN
            have gd1 := gd.form.2.2
            have nND : ∀ ad, AN2 = some ad → some ad.block ≠ AD.map (·.block) := row_ne atN HDN (fun ad e => (gd1 ad e).2)
            clear gd1
            replace gd := gd.grown grN HND
            replace n2 := n2.grown grN (fun _ ad e => by injection e with e; subst e; exact ngn)
            clear ngn
            have nGN2 : some G ≠ AN2.map (·.block) := row_lt atN nGN kG.lt
            replace kG := kG.grown grN nGN
            clear nGN
            have nGN := nGN2
            clear nGN2
            replace bz := bz.trans bbN
            clear bbN grN atN n1 gn
            have gn := gN
            clear gN
            generalize we = wd at *
            refine hK.out _ _ (B1.out.below bz).c0 (fun hHeld => ?_)
            clear hK K
            try simp only [Act.put]
            try simp only [List.setIfInBounds_toArray, List.set_cons_zero, List.set_cons_succ]
            refine wpAnyH_ready (rs := [7]) (by kernel_rfl) (by simp) ?_
            refine AllReadyH.cons rfl (fun K hK => ?_) ?_
            · refine step_append_rd wd (mk := lmv) (fun _ => rfl) rfl _ _ 23 rfl 26 i0 (.int .u32 0) 4 Try.underlying23 hi hz0 hz1 hz2 rfl (B := wn.heap.size) (A := AD) (c := cD) (n := DS.length) (xs := DS) rfl rfl gd (some ⟨g2, 0, none⟩) 2 2 [0, 0] rfl rfl n2 (by simp only [maxLen]; omega) (by omega) bz.size ?_
              intro AD2 cD2 we gD grD bbD atD
              replace gn := gn.grown grD nND
              clear nND
              have nGD2 : some G ≠ AD2.map (·.block) := row_lt atD nGD kG.lt
              replace kG := kG.grown grD nGD
              clear nGD
              replace bz := bz.trans bbD
              clear bbD grD atD n2 gd
              have gd := gD
              clear gD
              generalize we = wd at *
              refine hK.out _ _ (B1.out.below bz).c0 (fun hHeld => ?_)
              clear hK K
              try simp only [Act.put]
              try simp only [List.setIfInBounds_toArray, List.set_cons_zero, List.set_cons_succ]
              refine wpAnyH_take (i := 8) (v := .agg #[.bool x1.b, .slice AN2 (NS.length + 1) cN2, .slice AD2 (DS.length + 2) cD2]) rfl (by kernel_rfl) (by kernel_rfl) (by kernel_rfl) (fun _ _ _ h => h) (Or.inl ⟨by rfl, ?_⟩) (by assumption) ?_
              · intro w hSw
                try dsimp only at hSw
                go_simp
                try with_reducible rfl
              try simp only [Act.put]
              try simp only [List.setIfInBounds_toArray, List.set_cons_zero, List.set_cons_succ]
              refine wpAnyH_ready (rs := [10]) (by kernel_rfl) (by simp) ?_
              refine AllReadyH.cons rfl (fun K hK => ?_) ?_
              · have t := kG
                obtain ⟨k0, k1, k2, kf0, kf1, kf2, _, _⟩ := t
                go_simp
                clear k0 k1 k2 kf0 kf1 kf2
                have hb := bk3_put (a := (.bool x1.b)) (b := (.slice AN2 (NS.length + 1) cN2)) (c := (.slice AD2 (DS.length + 2) cD2)) kG
                have okz : (⟨x1.b, AN2, cN2, NS ++ [0], AD2, cD2, DS ++ [0, 0]⟩ : Fx).ok wd := ⟨gn.nt (HUN.out.append (U32.one (by omega))), gd.nt (HUD.out.append (U32.cons (by omega) (U32.one (by omega))))⟩
                have oky : Fx.ok ⟨x1.b, AN2, cN2, NS ++ [0], AD2, cD2, DS ++ [0, 0]⟩ (((wd.setCell ⟨G, 0, none⟩ (.bool x1.b)).setCell ⟨G, 1, none⟩ (.slice AN2 (NS.length + 1) cN2)).setCell ⟨G, 2, none⟩ (.slice AD2 (DS.length + 2) cD2)) := set3_ok okz kG rfl rfl rfl
                have b5 := set3g (G := G) (a := (.bool x1.b)) (b := (.slice AN2 (NS.length + 1) cN2)) (c := (.slice AD2 (DS.length + 2) cD2)) bz sG
                clear bz kG okz gn gd
                generalize (((wd.setCell ⟨G, 0, none⟩ (.bool x1.b)).setCell ⟨G, 1, none⟩ (.slice AN2 (NS.length + 1) cN2)).setCell ⟨G, 2, none⟩ (.slice AD2 (DS.length + 2) cD2)) = we at *
                have bz := b5
                clear b5
                clear hHeld
                generalize we = wd at *
                refine hK.out _ _ (B1.out.below bz).c0 (fun hHeld => ?_)
                clear hK K
                try simp only [Act.put]
                try simp only [List.setIfInBounds_toArray, List.set_cons_zero, List.set_cons_succ]
                refine wpAnyH_done (by kernel_rfl) ?_ _
                go_wp2_with fail
                go_meet
                case rel => exact ⟨G, ⟨x1.b, AN2, cN2, NS ++ [0], AD2, cD2, DS ++ [0, 0]⟩, rfl, ⟨by simpa using hb, oky⟩, rfl, rfl, rfl, bz⟩
              exact AllReadyH.nil
            exact AllReadyH.nil
          exact AllReadyH.nil
        exact AllReadyH.nil
      refine AllReadyH.cons rfl (fun K hK => ?_) ?_
      · go_simp
        have n2 : Rd lmv (wd.alloc (.cells #[.int .u32 0, .int .u32 0] 26)) (some ⟨wd.heap.size, 0, none⟩) [0, 0] := (Gr.lit (mk := lmv) (e := 26) (B := wd.heap.size) wd [0, 0] #[.int .u32 0, .int .u32 0] rfl (by simp [maxLen]) (Nat.le_refl _)).rd
        have bb := (Below.refl wd.heap.size wd).alloc (Nat.le_refl _) (.cells #[.int .u32 0, .int .u32 0] 26)
        have gn1 := gn.form.2.2
        have gd1 := gd.form.2.2
        generalize hg2 : wd.heap.size = g2 at n2 gn1 gd1 ⊢
        have ngn : some g2 ≠ AN.map (·.block) := ne_row (fun ad e => (gn1 ad e).2) (Nat.le_refl _)
        clear gn1 gd1
        replace kG := kG.below bb
        replace gn := gn.below bb
        replace gd := gd.below bb
        replace bz := below_on bz bb bz.size
        clear bb
        generalize (wd.alloc (.cells #[.int .u32 0, .int .u32 0] 26)) = we at *
        clear hg2
        generalize we = wd at *
        refine hK.out _ _ (B1.out.below bz).c0 (fun hHeld => ?_)
        clear hK K
        try simp only [Act.put]
        try simp only [List.setIfInBounds_toArray, List.set_cons_zero, List.set_cons_succ]
        refine wpAnyH_ready (rs := [3]) (by kernel_rfl) (by simp) ?_
        refine AllReadyH.cons rfl (fun K hK => ?_) ?_
        · go_simp
          have n1 : Rd lmv (wd.alloc (.cells #[.int .u32 0] 26)) (some ⟨wd.heap.size, 0, none⟩) [0] := (Gr.lit (mk := lmv) (e := 26) (B := wd.heap.size) wd [0] #[.int .u32 0] rfl (by simp [maxLen]) (Nat.le_refl _)).rd
          have bb := (Below.refl wd.heap.size wd).alloc (Nat.le_refl _) (.cells #[.int .u32 0] 26)
          have gn1 := gn.form.2.2
          have gd1 := gd.form.2.2
          generalize hg1 : wd.heap.size = g1 at n1 gn1 gd1 ⊢
          clear gn1 gd1
          replace n2 := n2.below bb rfl
          replace kG := kG.below bb
          replace gn := gn.below bb
          replace gd := gd.below bb
          replace bz := below_on bz bb bz.size
          clear bb
          generalize (wd.alloc (.cells #[.int .u32 0] 26)) = we at *
          clear hg1
          generalize we = wd at *
          refine hK.out _ _ (B1.out.below bz).c0 (fun hHeld => ?_)
          clear hK K
          try simp only [Act.put]
          try simp only [List.setIfInBounds_toArray, List.set_cons_zero, List.set_cons_succ]
          refine wpAnyH_ready (rs := [4]) (by kernel_rfl) (by simp) ?_
          refine AllReadyH.cons rfl (fun K hK => ?_) ?_
          · refine step_append_rd wd (mk := lmv) (fun _ => rfl) rfl _ _ 23 rfl 26 i0 (.int .u32 0) 4 Try.underlying23 hi hz0 hz1 hz2 rfl (B := wn.heap.size) (A := AN) (c := cN) (n := NS.length) (xs := NS) rfl rfl gn (some ⟨g1, 0, none⟩) 1 1 [0] rfl rfl n1 (by simp only [maxLen]; omega) (by omega) bz.size ?_
            intro AN2 cN2 we gN grN bbN atN
            have gd1 := gd.form.2.2
            have nND : ∀ ad, AN2 = some ad → some ad.block ≠ AD.map (·.block) := row_ne atN HDN (fun ad e => (gd1 ad e).2)
            clear gd1
            replace gd := gd.grown grN HND
            replace n2 := n2.grown grN (fun _ ad e => by injection e with e; subst e; exact ngn)
            clear ngn
            have nGN2 : some G ≠ AN2.map (·.block) := row_lt atN nGN kG.lt
            replace kG := kG.grown grN nGN
            clear nGN
            have nGN := nGN2
            clear nGN2
            replace bz := bz.trans bbN
            clear bbN grN atN n1 gn
            have gn := gN
            clear gN
            generalize we = wd at *
            refine hK.out _ _ (B1.out.below bz).c0 (fun hHeld => ?_)
            clear hK K
            try simp only [Act.put]
            try simp only [List.setIfInBounds_toArray, List.set_cons_zero, List.set_cons_succ]
            refine wpAnyH_ready (rs := [7]) (by kernel_rfl) (by simp) ?_
            refine AllReadyH.cons rfl (fun K hK => ?_) ?_
            · refine step_append_rd wd (mk := lmv) (fun _ => rfl) rfl _ _ 23 rfl 26 i0 (.int .u32 0) 4 Try.underlying23 hi hz0 hz1 hz2 rfl (B := wn.heap.size) (A := AD) (c := cD) (n := DS.length) (xs := DS) rfl rfl gd (some ⟨g2, 0, none⟩) 2 2 [0, 0] rfl rfl n2 (by simp only [maxLen]; omega) (by omega) bz.size ?_
              intro AD2 cD2 we gD grD bbD atD
              replace gn := gn.grown grD nND
              clear nND
              have nGD2 : some G ≠ AD2.map (·.block) := row_lt atD nGD kG.lt
              replace kG := kG.grown grD nGD
              clear nGD
              replace bz := bz.trans bbD
              clear bbD grD atD n2 gd
              have gd := gD
              clear gD
              generalize we = wd at *
              refine hK.out _ _ (B1.out.below bz).c0 (fun hHeld => ?_)
              clear hK K
              try simp only [Act.put]
              try simp only [List.setIfInBounds_toArray, List.set_cons_zero, List.set_cons_succ]
              refine wpAnyH_take (i := 8) (v := .agg #[.bool x1.b, .slice AN2 (NS.length + 1) cN2, .slice AD2 (DS.length + 2) cD2]) rfl (by kernel_rfl) (by kernel_rfl) (by kernel_rfl) (fun _ _ _ h => h) (Or.inl ⟨by rfl, ?_⟩) (by assumption) ?_
              · intro w hSw
                try dsimp only at hSw
                go_simp
                try with_reducible rfl
              try simp only [Act.put]
              try simp only [List.setIfInBounds_toArray, List.set_cons_zero, List.set_cons_succ]
              refine wpAnyH_ready (rs := [10]) (by kernel_rfl) (by simp) ?_
              refine AllReadyH.cons rfl (fun K hK => ?_) ?_
              · have t := kG
                obtain ⟨k0, k1, k2, kf0, kf1, kf2, _, _⟩ := t
                go_simp
                clear k0 k1 k2 kf0 kf1 kf2
                have hb := bk3_put (a := (.bool x1.b)) (b := (.slice AN2 (NS.length + 1) cN2)) (c := (.slice AD2 (DS.length + 2) cD2)) kG
                have okz : (⟨x1.b, AN2, cN2, NS ++ [0], AD2, cD2, DS ++ [0, 0]⟩ : Fx).ok wd := ⟨gn.nt (HUN.out.append (U32.one (by omega))), gd.nt (HUD.out.append (U32.cons (by omega) (U32.one (by omega))))⟩
                have oky : Fx.ok ⟨x1.b, AN2, cN2, NS ++ [0], AD2, cD2, DS ++ [0, 0]⟩ (((wd.setCell ⟨G, 0, none⟩ (.bool x1.b)).setCell ⟨G, 1, none⟩ (.slice AN2 (NS.length + 1) cN2)).setCell ⟨G, 2, none⟩ (.slice AD2 (DS.length + 2) cD2)) := set3_ok okz kG rfl rfl rfl
                have b5 := set3g (G := G) (a := (.bool x1.b)) (b := (.slice AN2 (NS.length + 1) cN2)) (c := (.slice AD2 (DS.length + 2) cD2)) bz sG
                clear bz kG okz gn gd
                generalize (((wd.setCell ⟨G, 0, none⟩ (.bool x1.b)).setCell ⟨G, 1, none⟩ (.slice AN2 (NS.length + 1) cN2)).setCell ⟨G, 2, none⟩ (.slice AD2 (DS.length + 2) cD2)) = we at *
                have bz := b5
                clear b5
                clear hHeld
                generalize we = wd at *
                refine hK.out _ _ (B1.out.below bz).c0 (fun hHeld => ?_)
                clear hK K
                try simp only [Act.put]
                try simp only [List.setIfInBounds_toArray, List.set_cons_zero, List.set_cons_succ]
                refine wpAnyH_done (by kernel_rfl) ?_ _
                go_wp2_with fail
                go_meet
                case rel => exact ⟨G, ⟨x1.b, AN2, cN2, NS ++ [0], AD2, cD2, DS ++ [0, 0]⟩, rfl, ⟨by simpa using hb, oky⟩, rfl, rfl, rfl, bz⟩
              exact AllReadyH.nil
            exact AllReadyH.nil
          exact AllReadyH.nil
        exact AllReadyH.nil
      exact AllReadyH.nil
    exact AllReadyH.nil
    --REG}
  case rest =>
    obtain ⟨G, x3, rfl, a3, hz1, hz2, hz3, bz⟩ := hcut
    clear a1 a2 gn gd bm
    have a1 := b1.below bz
    have a2 := b2.below bz
    have hzn : nv x3.xs = nv x1.xs * c := by
      rw [hz2, nv_append, ← HNV.out]; simp [nv_cons, nv_nil]
    have hzd : nv x3.ys = nv x1.ys * c := by
      rw [hz3, nv_append, ← HDV.out]; simp [nv_cons, nv_nil]
    have l3 : x3.xs.length ≤ 10000 := by have := HLN.out; rw [hz2]; simp; omega
    have m3 : x3.ys.length ≤ 10000 := by have := HLD.out; rw [hz3]; simp; omega
    have hq3 : x3.q = x1.q := by rw [Fx.q, hz1, hzn, hzd, qv_factor hc0]; rfl
    have hv3 : x3.v := by
      rw [Fx.v, Vf, hzn, hzd]
      have h1 := HNX.out
      have h2 := HNY.out
      exact ⟨Nat.mul_ne_zero HV1.out.1 hc0, by omega, by omega⟩
    have hz0 : nv x3.xs = 0 ↔ nv x1.xs = 0 := by rw [hzn, Nat.mul_eq_zero]; omega
    obtain ⟨SA, hSA⟩ : ∃ S, addF x1 x2 = S := ⟨_, rfl⟩
    obtain ⟨SQ, hSQ⟩ : ∃ S, quoF x2 x1 = S := ⟨_, rfl⟩
    obtain ⟨SR, hSR⟩ : ∃ S, redS x1 = S := ⟨_, rfl⟩
    have HA := Lib.hid hSA
    have HA3 : Hid (addF x3 x2 = SA) := Lib.hid (by rw [← hSA, addF, addF, if_pos ⟨hv3, HV2.out⟩, if_pos ⟨HV1.out, HV2.out⟩, hq3])
    have HQ := Lib.hid hSQ
    have eq1 : quoF x2 x3 = if nv x3.xs = 0 then errF 3 else frS (x2.q / x3.q) := if_pos ⟨HV2.out, hv3⟩
    have eq2 : quoF x2 x1 = if nv x1.xs = 0 then errF 3 else frS (x2.q / x1.q) := if_pos ⟨HV2.out, HV1.out⟩
    have HQ3 : Hid (quoF x2 x3 = SQ) := Lib.hid (by
      rw [← hSQ, eq1, eq2, hq3]
      by_cases h0 : nv x1.xs = 0
      · rw [if_pos (hz0.2 h0), if_pos h0]
      · rw [if_neg (fun e => h0 (hz0.1 e)), if_neg h0])
    clear eq1 eq2
    have HR := Lib.hid hSR
    have HR3 : Hid (redS x3 = SR) := Lib.hid (by rw [← hSR, redS, redS, if_pos hv3, if_pos HV1.out, hq3])
    have HC3 : Hid (cmpF x1 x3 = (0, 0)) := Lib.hid (cmpF_ok HV1.out hv3 rfl hq3 (cmpQ_eq rfl))
    clear hSA hSQ hSR hz1 hz2 hz3 hzn hzd hq3 hv3 hz0 b1 b2
    replace bw := below_on bw bz bw.size
    clear bz
    go_upto_region 6 with fail
    generalize wc = wm at *
    have ci0 := a1.c0
    have ci1 := a1.c1
    have ci2 := a1.c2
    have cj0 := a2.c0
    have cj1 := a2.c1
    have cj2 := a2.c2
    go_wp2_with fail
    clear ci0 ci1 ci2 cj0 cj1 cj2
    refine (fadd_any _ x1 x2 (SA) a1.ok a2.ok l1 m1 l2 m2 HA.out).mono ?_
    rintro e wn ⟨x4, rfl, hs4, ok4, bb⟩
    have HS4 := Lib.hid hs4
    clear hs4
    try replace a1 := a1.below bb
    try replace a2 := a2.below bb
    try replace a3 := a3.below bb
    replace bw := below_on bw bb bw.size
    clear bb
    go_upto_region 7 with fail
    have a4 := (fa_alloc ok4).1
    have bb := (fa_alloc ok4).2
    clear ok4
    generalize (wn.alloc (.cells #[.bool x4.b, .slice x4.A x4.xs.length x4.c, .slice x4.D x4.ys.length x4.d] 25)) = wm at a4 bb ⊢
    try replace a1 := a1.below bb
    try replace a2 := a2.below bb
    try replace a3 := a3.below bb
    try replace a4 := a4.below bb
    replace bw := below_on bw bb bw.size
    clear bb
    generalize wn.heap.size = g4 at a4 ⊢
    have ci0 := a3.c0
    have ci1 := a3.c1
    have ci2 := a3.c2
    have cj0 := a2.c0
    have cj1 := a2.c1
    have cj2 := a2.c2
    go_wp2_with fail
    clear ci0 ci1 ci2 cj0 cj1 cj2
    refine (fadd_any _ x3 x2 (SA) a3.ok a2.ok l3 m3 l2 m2 HA3.out).mono ?_
    rintro e wn ⟨x5, rfl, hs5, ok5, bb⟩
    have HS5 := Lib.hid hs5
    clear hs5
    try replace a1 := a1.below bb
    try replace a2 := a2.below bb
    try replace a3 := a3.below bb
    try replace a4 := a4.below bb
    replace bw := below_on bw bb bw.size
    clear bb
    go_upto_region 8 with fail
    have a5 := (fa_alloc ok5).1
    have bb := (fa_alloc ok5).2
    clear ok5
    generalize (wn.alloc (.cells #[.bool x5.b, .slice x5.A x5.xs.length x5.c, .slice x5.D x5.ys.length x5.d] 25)) = wm at a5 bb ⊢
    try replace a1 := a1.below bb
    try replace a2 := a2.below bb
    try replace a3 := a3.below bb
    try replace a4 := a4.below bb
    try replace a5 := a5.below bb
    replace bw := below_on bw bb bw.size
    clear bb
    generalize wn.heap.size = g5 at a5 ⊢
    have ci0 := a2.c0
    have ci1 := a2.c1
    have ci2 := a2.c2
    have cj0 := a1.c0
    have cj1 := a1.c1
    have cj2 := a1.c2
    go_wp2_with fail
    clear ci0 ci1 ci2 cj0 cj1 cj2
    refine (fquo_any _ x2 x1 (SQ) a2.ok a1.ok l2 m2 l1 m1 HQ.out).mono ?_
    rintro e wn ⟨x6, rfl, hs6, ok6, bb⟩
    have HS6 := Lib.hid hs6
    clear hs6
    try replace a1 := a1.below bb
    try replace a2 := a2.below bb
    try replace a3 := a3.below bb
    try replace a4 := a4.below bb
    try replace a5 := a5.below bb
    replace bw := below_on bw bb bw.size
    clear bb
    go_upto_region 9 with fail
    have a6 := (fa_alloc ok6).1
    have bb := (fa_alloc ok6).2
    clear ok6
    generalize (wn.alloc (.cells #[.bool x6.b, .slice x6.A x6.xs.length x6.c, .slice x6.D x6.ys.length x6.d] 25)) = wm at a6 bb ⊢
    try replace a1 := a1.below bb
    try replace a2 := a2.below bb
    try replace a3 := a3.below bb
    try replace a4 := a4.below bb
    try replace a5 := a5.below bb
    try replace a6 := a6.below bb
    replace bw := below_on bw bb bw.size
    clear bb
    generalize wn.heap.size = g6 at a6 ⊢
    have ci0 := a2.c0
    have ci1 := a2.c1
    have ci2 := a2.c2
    have cj0 := a3.c0
    have cj1 := a3.c1
    have cj2 := a3.c2
    go_wp2_with fail
    clear ci0 ci1 ci2 cj0 cj1 cj2
    refine (fquo_any _ x2 x3 (SQ) a2.ok a3.ok l2 m2 l3 m3 HQ3.out).mono ?_
    rintro e wn ⟨x7, rfl, hs7, ok7, bb⟩
    have HS7 := Lib.hid hs7
    clear hs7
    try replace a1 := a1.below bb
    try replace a2 := a2.below bb
    try replace a3 := a3.below bb
    try replace a4 := a4.below bb
    try replace a5 := a5.below bb
    try replace a6 := a6.below bb
    replace bw := below_on bw bb bw.size
    clear bb
    go_upto_region 10 with fail
    have a7 := (fa_alloc ok7).1
    have bb := (fa_alloc ok7).2
    clear ok7
    generalize (wn.alloc (.cells #[.bool x7.b, .slice x7.A x7.xs.length x7.c, .slice x7.D x7.ys.length x7.d] 25)) = wm at a7 bb ⊢
    try replace a1 := a1.below bb
    try replace a2 := a2.below bb
    try replace a3 := a3.below bb
    try replace a4 := a4.below bb
    try replace a5 := a5.below bb
    try replace a6 := a6.below bb
    try replace a7 := a7.below bb
    replace bw := below_on bw bb bw.size
    clear bb
    generalize wn.heap.size = g7 at a7 ⊢
    have ci0 := a1.c0
    have ci1 := a1.c1
    have ci2 := a1.c2
    have cj0 := a3.c0
    have cj1 := a3.c1
    have cj2 := a3.c2
    go_wp2_with fail
    clear ci0 ci1 ci2 cj0 cj1 cj2
    refine (fcmp_any _ x1 x3 (((0 : Int), (0 : Int))) a1.ok a3.ok l1 m1 l3 m3 HC3.out).mono ?_
    rintro e wn ⟨rfl, bb⟩
    try replace a1 := a1.below bb
    try replace a2 := a2.below bb
    try replace a3 := a3.below bb
    try replace a4 := a4.below bb
    try replace a5 := a5.below bb
    try replace a6 := a6.below bb
    try replace a7 := a7.below bb
    replace bw := below_on bw bb bw.size
    clear bb
    go_upto_region 11 with fail
    have ci0 := a1.c0
    have ci1 := a1.c1
    have ci2 := a1.c2
    go_wp2_with fail
    clear ci0 ci1 ci2
    refine (freduce_any _ x1 (SR) a1.ok l1 m1 HR.out).mono ?_
    rintro e wn ⟨x8, rfl, hs8, ok8, bb⟩
    have HS8 := Lib.hid hs8
    clear hs8
    try replace a1 := a1.below bb
    try replace a2 := a2.below bb
    try replace a3 := a3.below bb
    try replace a4 := a4.below bb
    try replace a5 := a5.below bb
    try replace a6 := a6.below bb
    try replace a7 := a7.below bb
    replace bw := below_on bw bb bw.size
    clear bb
    go_upto_region 12 with fail
    have a8 := (fa_alloc ok8).1
    have bb := (fa_alloc ok8).2
    clear ok8
    generalize (wn.alloc (.cells #[.bool x8.b, .slice x8.A x8.xs.length x8.c, .slice x8.D x8.ys.length x8.d] 25)) = wm at a8 bb ⊢
    try replace a1 := a1.below bb
    try replace a2 := a2.below bb
    try replace a3 := a3.below bb
    try replace a4 := a4.below bb
    try replace a5 := a5.below bb
    try replace a6 := a6.below bb
    try replace a7 := a7.below bb
    try replace a8 := a8.below bb
    replace bw := below_on bw bb bw.size
    clear bb
    generalize wn.heap.size = g8 at a8 ⊢
    have ci0 := a3.c0
    have ci1 := a3.c1
    have ci2 := a3.c2
    go_wp2_with fail
    clear ci0 ci1 ci2
    refine (freduce_any _ x3 (SR) a3.ok l3 m3 HR3.out).mono ?_
    rintro e wn ⟨x9, rfl, hs9, ok9, bb⟩
    have HS9 := Lib.hid hs9
    clear hs9
    try replace a1 := a1.below bb
    try replace a2 := a2.below bb
    try replace a3 := a3.below bb
    try replace a4 := a4.below bb
    try replace a5 := a5.below bb
    try replace a6 := a6.below bb
    try replace a7 := a7.below bb
    try replace a8 := a8.below bb
    replace bw := below_on bw bb bw.size
    clear bb
    go_upto_region 13 with fail
    have a9 := (fa_alloc ok9).1
    have bb := (fa_alloc ok9).2
    clear ok9
    generalize (wn.alloc (.cells #[.bool x9.b, .slice x9.A x9.xs.length x9.c, .slice x9.D x9.ys.length x9.d] 25)) = wm at a9 bb ⊢
    try replace a1 := a1.below bb
    try replace a2 := a2.below bb
    try replace a3 := a3.below bb
    try replace a4 := a4.below bb
    try replace a5 := a5.below bb
    try replace a6 := a6.below bb
    try replace a7 := a7.below bb
    try replace a8 := a8.below bb
    try replace a9 := a9.below bb
    replace bw := below_on bw bb bw.size
    clear bb
    generalize wn.heap.size = g9 at a9 ⊢
    have ci0 := a4.c0
    have ci1 := a4.c1
    have ci2 := a4.c2
    have cj0 := a5.c0
    have cj1 := a5.c1
    have cj2 := a5.c2
    go_wp2_with fail
    clear ci0 ci1 ci2 cj0 cj1 cj2
    refine (samef_any _ x4 x5 true a4.ok a5.ok (sm HS4.out HS5.out)).mono ?_
    rintro e wn ⟨rfl, bb⟩
    try replace a1 := a1.below bb
    try replace a2 := a2.below bb
    try replace a3 := a3.below bb
    try replace a4 := a4.below bb
    try replace a5 := a5.below bb
    try replace a6 := a6.below bb
    try replace a7 := a7.below bb
    try replace a8 := a8.below bb
    try replace a9 := a9.below bb
    replace bw := below_on bw bb bw.size
    clear bb
    have ci0 := a6.c0
    have ci1 := a6.c1
    have ci2 := a6.c2
    have cj0 := a7.c0
    have cj1 := a7.c1
    have cj2 := a7.c2
    go_wp2_with fail
    clear ci0 ci1 ci2 cj0 cj1 cj2
    refine (samef_any _ x6 x7 true a6.ok a7.ok (sm HS6.out HS7.out)).mono ?_
    rintro e wn ⟨rfl, bb⟩
    try replace a1 := a1.below bb
    try replace a2 := a2.below bb
    try replace a3 := a3.below bb
    try replace a4 := a4.below bb
    try replace a5 := a5.below bb
    try replace a6 := a6.below bb
    try replace a7 := a7.below bb
    try replace a8 := a8.below bb
    try replace a9 := a9.below bb
    replace bw := below_on bw bb bw.size
    clear bb
    have ci0 := a8.c0
    have ci1 := a8.c1
    have ci2 := a8.c2
    have cj0 := a9.c0
    have cj1 := a9.c1
    have cj2 := a9.c2
    go_wp2_with fail
    clear ci0 ci1 ci2 cj0 cj1 cj2
    refine (samef_any _ x8 x9 true a8.ok a9.ok (sm HS8.out HS9.out)).mono ?_
    rintro e wn ⟨rfl, bb⟩
    try replace a1 := a1.below bb
    try replace a2 := a2.below bb
    try replace a3 := a3.below bb
    try replace a4 := a4.below bb
    try replace a5 := a5.below bb
    try replace a6 := a6.below bb
    try replace a7 := a7.below bb
    try replace a8 := a8.below bb
    try replace a9 := a9.below bb
    replace bw := below_on bw bb bw.size
    clear bb
    go_wp2_with fail
    refine (awakef_any _).mono ?_
    rintro e wn ⟨rfl, bb⟩
    try replace a1 := a1.below bb
    try replace a2 := a2.below bb
    try replace a3 := a3.below bb
    try replace a4 := a4.below bb
    try replace a5 := a5.below bb
    try replace a6 := a6.below bb
    try replace a7 := a7.below bb
    try replace a8 := a8.below bb
    try replace a9 := a9.below bb
    replace bw := below_on bw bb bw.size
    clear bb
    go_wp2_with fail
    go_ret
    exact ⟨rfl, bw⟩
set_option maxRecDepth 100000 in
theorem red_walk (w : World) (x1 x2 : Fx) (a : Int) (ok1 : x1.ok w) (ok2 : x2.ok w) (wf : (Lit.int IntKind.u32 a).wf = true) :
    Calls Try.prog 3 #[x1.val, x2.val, .int .u32 a] w fun e w' => e = .returned (.bool true) ∧ Below w.heap.size w w' := by
  have b1 : 0 ≤ a ∧ a < 4294967296 := by simp [Lit.wf, IntKind.min, IntKind.max, IntKind.signed, IntKind.bits] at wf; omega
  obtain ⟨c, rfl⟩ : ∃ n : Nat, a = (n : Int) := ⟨a.toNat, by omega⟩
  have hL : lensB [x1, x2] := by
    intro v hv
    simp only [List.mem_cons, List.not_mem_nil, or_false] at hv
    rcases hv with rfl | rfl
    · exact lens_ok ok1
    · exact lens_ok ok2
  cases h : longB [x1, x2]
  · have h1 := longB_no h x1 (by simp)
    have h2 := longB_no h x2 (by simp)
    by_cases hv : x1.v ∧ x2.v ∧ c ≠ 0
    · exact red_main w x1 x2 c ok1 ok2 hL h (by omega) (by omega) (by omega) (by omega) hv.1 hv.2.1 hv.2.2 (by omega) (Nat.le_trans (lim_length_le_length ok1.num.u) h1.1) (Nat.le_trans (lim_length_le_length ok1.den.u) h1.2)
    · exact red_bad w x1 x2 c ok1 ok2 hL h (by omega) (by omega) (by omega) (by omega) hv
  · exact red_long w x1 x2 c ok1 ok2 hL h
end Go.Proofs.Ytlcolmifmhdboaa
