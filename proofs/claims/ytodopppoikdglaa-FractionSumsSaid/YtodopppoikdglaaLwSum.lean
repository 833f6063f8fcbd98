/- The walk of FractionSums. -/
import Derived.Test.YtodopppoikdglaaRfS
import Derived.Test.YtodopppoikdglaaFrcA
namespace Go.Proofs.Ytodopppoikdglaa
open Go.RowKit

theorem brf {a : World} : Below a.heap.size a a := Below.refl _ _
theorem bdr {a w : World} (h : Below a.heap.size a w) : Below a.heap.size a w.drew := h.drew
theorem bal {a w : World} {o : Obj} (h : Below a.heap.size a w) : Below a.heap.size a (w.alloc o) := h.alloc h.size o
def totQ : List Fx → Rat
  | [] => 0
  | x :: vs => x.q + totQ vs
theorem totQ_append (a b : List Fx) : totQ (a ++ b) = totQ a + totQ b := by
  induction a with
  | nil => simp [totQ, Rat.zero_add]
  | cons x a ih => rw [List.cons_append, totQ, totQ, ih, Rat.add_assoc]
theorem not_big {q : Rat} (h : Sz q 128 128) : ¬ bigQ q := by rw [bigQ]; have h1 : (lim q.num.natAbs).length ≤ 128 := h.1; have h2 : (lim q.den).length ≤ 128 := h.2; omega
theorem sum_ok (vs : List Fx) : ∀ (q : Rat) (j : Nat), Sz q (9 * j + 1) (8 * j + 1) → j + vs.length ≤ 12 → (∀ v ∈ vs, v.v → Sz v.q 8 8) →
    ((∀ v ∈ vs, v.v) → sumS vs q = okS (q + totQ vs) ∧ Sz (q + totQ vs) 128 128) ∧ ((∃ v ∈ vs, ¬ v.v) → sumS vs q = errF 1) := by
  induction vs with
  | nil =>
    intro q j hq hj _
    refine ⟨fun _ => ?_, fun ⟨v, hv, _⟩ => absurd hv (by simp)⟩
    rw [totQ, Rat.add_zero]
    exact ⟨rfl, hq.mono (by simp at hj; omega) (by simp at hj; omega)⟩
  | cons x vs ih =>
    intro q j hq hj hs
    have hj' : j + 1 + vs.length ≤ 12 := by simp at hj; omega
    rw [sumS]
    by_cases hv : x.v
    · have hz := hq.add (hs x (by simp) hv)
      have hz2 := hz.mono (n' := 9 * (j + 1) + 1) (d' := 8 * (j + 1) + 1) (by omega) (by omega)
      rw [if_pos hv, if_neg (not_big (hz2.mono (by omega) (by omega)))]
      have h := ih (q + x.q) (j + 1) hz2 hj' (fun v h => hs v (List.mem_cons_of_mem _ h))
      refine ⟨fun ha => ?_, fun ⟨v, hm, hn⟩ => ?_⟩
      · have := h.1 (fun v hm => ha v (List.mem_cons_of_mem _ hm))
        rw [totQ, ← Rat.add_assoc]; exact this
      · rcases List.mem_cons.1 hm with rfl | hm
        · exact absurd hv hn
        · exact h.2 ⟨v, hm, hn⟩
    · rw [if_neg hv]
      exact ⟨fun ha => absurd (ha x (by simp)) hv, fun _ => rfl⟩
theorem sz_00 : Sz 0 (9 * 0 + 1) (8 * 0 + 1) := by constructor <;> (rw [lim_length_le]; decide)
theorem add_add3 (ad : Addr) (k i : Nat) : (ad.add (k * 3)).add (i * 3) = ad.add ((k + i) * 3) ∨ i = 0 := by
  rcases Nat.eq_zero_or_pos i with h | h
  · exact .inr h
  · left
    have ho : (ad.add (k * 3)).off = ad.off + k * 3 := by
      unfold Addr.add
      split
      · rename_i h0; rw [h0]; rfl
      · rfl
    rw [show ad.add ((k + i) * 3) = ⟨ad.block, ad.off + (k + i) * 3, none⟩ from if_neg (by omega),
      show (ad.add (k * 3)).add (i * 3) = ⟨(ad.add (k * 3)).block, (ad.add (k * 3)).off + i * 3, none⟩ from if_neg (by omega), block_of_add, ho, Nat.add_assoc, Nat.add_mul]
theorem RdF.take {w : World} {A : Option Addr} {vs : List Fx} (h : RdF w A vs) (k : Nat) : RdF w A (vs.take k) := fun hn => by
  obtain ⟨ad, e, hl, hc⟩ := h (by simp at hn; omega)
  refine ⟨ad, e, hl, fun i hi => ?_⟩
  rw [List.getElem_take]
  exact hc i (by simp at hi; omega)
theorem RdF.drop {w : World} {ad : Addr} {vs : List Fx} (h : RdF w (some ad) vs) (k : Nat) : RdF w (some (ad.add (k * 3))) (vs.drop k) := fun hn => by
  have hk : k < vs.length := by simp at hn; omega
  obtain ⟨ad', e, hl, hc⟩ := h (by omega)
  injection e with e
  subst e
  refine ⟨_, rfl, by rw [block_of_add]; exact hl, fun i hi => ?_⟩
  have hki : k + i < vs.length := by simp at hi; omega
  have h1 := hc (k + i) hki
  rw [List.getElem_drop]
  rcases add_add3 ad k i with e | rfl
  · rw [e]; exact h1
  · rw [show (ad.add (k * 3)).add (0 * 3) = ad.add (k * 3) from by rw [Nat.zero_mul]; exact if_pos rfl]; exact h1
set_option maxRecDepth 100000 in
set_option maxHeartbeats 1600000 in
theorem sums_many (w : World) (A : Option Addr) (n c : Nat) (a : Int) (hn : 12 < n) (hm : n ≤ maxLen) :
    Calls Try.prog 4 #[.slice A n c, .int .u8 a] w fun e w' => e = .returned (.bool true) ∧ Below w.heap.size w w' := by
  have bw := Below.refl w.heap.size w
  have h12 : decide ((12 : Int) < (n : Int)) = true := decide_eq_true (by omega)
  go_enter Try.func4, Try.ntmps4
  go_wp2_with fail
  refine (awakef_any _).mono ?_
  rintro e wn ⟨rfl, bb⟩
  try replace a1 := a1.below bb
  try replace a2 := a2.below bb
  try replace a3 := a3.below bb
  try replace a4 := a4.below bb
  try replace a5 := a5.below bb
  try replace a6 := a6.below bb
  try replace a7 := a7.below bb
  try replace a8 := a8.below bb
  try replace a9 := a9.below bb
  try replace a10 := a10.below bb
  try replace a11 := a11.below bb
  try replace a12 := a12.below bb
  try replace a13 := a13.below bb
  try replace a14 := a14.below bb
  try replace a15 := a15.below bb
  try replace a16 := a16.below bb
  try replace a17 := a17.below bb
  try replace a18 := a18.below bb
  try replace a19 := a19.below bb
  try replace a20 := a20.below bb
  replace bw := below_on bw bb bw.size
  clear bb
  go_wp2_with fail
  go_ret
  exact ⟨rfl, bw⟩
set_option maxRecDepth 100000 in
set_option maxHeartbeats 1600000 in
theorem sums_long (w : World) (A : Option Addr) (n c : Nat) (a : Int) (vs : List Fx) (hn : n = vs.length) (h12 : vs.length ≤ 12) (hrd : RdF w A vs) (hl : lensB vs) (h : longB vs = true) :
    Calls Try.prog 4 #[.slice A n c, .int .u8 a] w fun e w' => e = .returned (.bool true) ∧ Below w.heap.size w w' := by
  have bw := Below.refl w.heap.size w
  have HL := Lib.hid hl
  have H := Lib.hid h
  have h13 : decide ((12 : Int) < (vs.length : Int)) = false := decide_eq_false (by omega)
  clear hl h
  subst hn
  go_enter Try.func4, Try.ntmps4
  go_wp2_with fail
  refine (flong_any w A _ c vs true hrd rfl (by omega) (fun v hv => HL.out v hv) H.out).mono ?_
  rintro e wl ⟨rfl, rfl⟩
  go_wp2_with fail
  refine (awakef_any _).mono ?_
  rintro e wn ⟨rfl, bb⟩
  try replace a1 := a1.below bb
  try replace a2 := a2.below bb
  try replace a3 := a3.below bb
  try replace a4 := a4.below bb
  try replace a5 := a5.below bb
  try replace a6 := a6.below bb
  try replace a7 := a7.below bb
  try replace a8 := a8.below bb
  try replace a9 := a9.below bb
  try replace a10 := a10.below bb
  try replace a11 := a11.below bb
  try replace a12 := a12.below bb
  try replace a13 := a13.below bb
  try replace a14 := a14.below bb
  try replace a15 := a15.below bb
  try replace a16 := a16.below bb
  try replace a17 := a17.below bb
  try replace a18 := a18.below bb
  try replace a19 := a19.below bb
  try replace a20 := a20.below bb
  replace bw := below_on bw bb bw.size
  clear bb
  go_wp2_with fail
  go_ret
  exact ⟨rfl, bw⟩
def long8 (vs : List Fx) : Bool := vs.any (fun v => decide (8 < v.xs.length) || decide (8 < v.ys.length))
set_option maxRecDepth 100000 in
set_option maxHeartbeats 8000000 in
theorem sums_main (w : World) (A : Option Addr) (n c : Nat) (a : Nat) (vs : List Fx) (hn : n = vs.length) (h12 : vs.length ≤ 12) (ha : a ≤ 255) (hcc : n ≤ c) (hcm : c ≤ maxLen) (hrd : RdF w A vs) (hok : OkF w vs) (hl : lensB vs) (h : longB vs = false) (hz : ∀ v ∈ vs, v.xs.length ≤ 8 → v.ys.length ≤ 8 → v.v → Sz v.q 8 8) :
    Calls Try.prog 4 #[.slice A n c, .int .u8 a] w fun e w' => e = .returned (.bool true) ∧ Below w.heap.size w w' := by
  have bw := Below.refl w.heap.size w
  have HL := Lib.hid hl
  have H := Lib.hid h
  have HRD := Lib.hid hrd
  have HOK := Lib.hid hok
  have HZ := Lib.hid hz
  have h13 : decide ((12 : Int) < (vs.length : Int)) = false := decide_eq_false (by omega)
  obtain ⟨S, hS⟩ : ∃ S, sumS vs 0 = S := ⟨_, rfl⟩
  have HS := Lib.hid hS
  clear hl h hok hz hS
  subst hn
  go_enter Try.func4, Try.ntmps4
  go_wp2_with fail
  refine (flong_any w A _ c vs false hrd rfl (by omega) (fun v hv => HL.out v hv) H.out).mono ?_
  rintro e wl ⟨rfl, rfl⟩
  clear hrd
  go_wp2_with fail
  refine (fsum_any _ A _ c vs S (HRD.out.below bw) (HOK.out.below bw) rfl (by omega) HS.out).mono ?_
  rintro e wn ⟨x3, rfl, hs3, ok3, bb⟩
  have HS3 := Lib.hid hs3
  clear hs3
  skip
  try replace a1 := a1.below bb
  try replace a2 := a2.below bb
  try replace a3 := a3.below bb
  try replace a4 := a4.below bb
  try replace a5 := a5.below bb
  try replace a6 := a6.below bb
  try replace a7 := a7.below bb
  try replace a8 := a8.below bb
  try replace a9 := a9.below bb
  try replace a10 := a10.below bb
  try replace a11 := a11.below bb
  try replace a12 := a12.below bb
  try replace a13 := a13.below bb
  try replace a14 := a14.below bb
  try replace a15 := a15.below bb
  try replace a16 := a16.below bb
  try replace a17 := a17.below bb
  try replace a18 := a18.below bb
  try replace a19 := a19.below bb
  try replace a20 := a20.below bb
  replace bw := below_on bw bb bw.size
  clear bb
  go_upto_region 4 with fail
  have a3 := (fa_alloc ok3).1
  have bb := (fa_alloc ok3).2
  clear ok3
  generalize (wn.alloc (.cells #[.bool x3.b, .slice x3.A x3.xs.length x3.c, .slice x3.D x3.ys.length x3.d] 25)) = wm at a3 bb ⊢
  try replace a1 := a1.below bb
  try replace a2 := a2.below bb
  try replace a3 := a3.below bb
  try replace a4 := a4.below bb
  try replace a5 := a5.below bb
  try replace a6 := a6.below bb
  try replace a7 := a7.below bb
  try replace a8 := a8.below bb
  try replace a9 := a9.below bb
  try replace a10 := a10.below bb
  try replace a11 := a11.below bb
  try replace a12 := a12.below bb
  try replace a13 := a13.below bb
  try replace a14 := a14.below bb
  try replace a15 := a15.below bb
  try replace a16 := a16.below bb
  try replace a17 := a17.below bb
  try replace a18 := a18.below bb
  try replace a19 := a19.below bb
  try replace a20 := a20.below bb
  replace bw := below_on bw bb bw.size
  clear bb
  generalize wn.heap.size = g3 at a3 ⊢
  go_wp2_with fail
  refine (rfsum_any _ A _ c vs S (HRD.out.below bw) (HOK.out.below bw) rfl (by omega) HS.out).mono ?_
  rintro e wn ⟨x4, rfl, hs4, ok4, bb⟩
  have HS4 := Lib.hid hs4
  clear hs4
  skip
  try replace a1 := a1.below bb
  try replace a2 := a2.below bb
  try replace a3 := a3.below bb
  try replace a4 := a4.below bb
  try replace a5 := a5.below bb
  try replace a6 := a6.below bb
  try replace a7 := a7.below bb
  try replace a8 := a8.below bb
  try replace a9 := a9.below bb
  try replace a10 := a10.below bb
  try replace a11 := a11.below bb
  try replace a12 := a12.below bb
  try replace a13 := a13.below bb
  try replace a14 := a14.below bb
  try replace a15 := a15.below bb
  try replace a16 := a16.below bb
  try replace a17 := a17.below bb
  try replace a18 := a18.below bb
  try replace a19 := a19.below bb
  try replace a20 := a20.below bb
  replace bw := below_on bw bb bw.size
  clear bb
  go_upto_region 5 with fail
  have a4 := (fa_alloc ok4).1
  have bb := (fa_alloc ok4).2
  clear ok4
  generalize (wn.alloc (.cells #[.bool x4.b, .slice x4.A x4.xs.length x4.c, .slice x4.D x4.ys.length x4.d] 25)) = wm at a4 bb ⊢
  try replace a1 := a1.below bb
  try replace a2 := a2.below bb
  try replace a3 := a3.below bb
  try replace a4 := a4.below bb
  try replace a5 := a5.below bb
  try replace a6 := a6.below bb
  try replace a7 := a7.below bb
  try replace a8 := a8.below bb
  try replace a9 := a9.below bb
  try replace a10 := a10.below bb
  try replace a11 := a11.below bb
  try replace a12 := a12.below bb
  try replace a13 := a13.below bb
  try replace a14 := a14.below bb
  try replace a15 := a15.below bb
  try replace a16 := a16.below bb
  try replace a17 := a17.below bb
  try replace a18 := a18.below bb
  try replace a19 := a19.below bb
  try replace a20 := a20.below bb
  replace bw := below_on bw bb bw.size
  clear bb
  generalize wn.heap.size = g4 at a4 ⊢
  have ci0 := a3.c0
  have ci1 := a3.c1
  have ci2 := a3.c2
  have cj0 := a4.c0
  have cj1 := a4.c1
  have cj2 := a4.c2
  go_wp2_with fail
  clear ci0 ci1 ci2 cj0 cj1 cj2
  refine (samef_any _ x3 x4 true a3.ok a4.ok (sm HS3.out HS4.out)).mono ?_
  rintro e wn ⟨rfl, bb⟩
  try replace a1 := a1.below bb
  try replace a2 := a2.below bb
  try replace a3 := a3.below bb
  try replace a4 := a4.below bb
  try replace a5 := a5.below bb
  try replace a6 := a6.below bb
  try replace a7 := a7.below bb
  try replace a8 := a8.below bb
  try replace a9 := a9.below bb
  try replace a10 := a10.below bb
  try replace a11 := a11.below bb
  try replace a12 := a12.below bb
  try replace a13 := a13.below bb
  try replace a14 := a14.below bb
  try replace a15 := a15.below bb
  try replace a16 := a16.below bb
  try replace a17 := a17.below bb
  try replace a18 := a18.below bb
  try replace a19 := a19.below bb
  try replace a20 := a20.below bb
  replace bw := below_on bw bb bw.size
  clear bb
  go_upto_region 7 with fail
  clear a4
  go_wp2_with fail
  go_loop [9] (fun i => ∃ k : Nat, k ≤ vs.length ∧ i = .int .i64 k ∧ long8 (vs.take k) = false) (fun i => vs.length - (intOf i).toNat)
  case atStart => exact ⟨0, by omega, rfl, rfl⟩
  case round =>
    obtain ⟨k, hk, rfl, hA⟩ := hrel
    have HA := Lib.hid hA
    clear hA
    by_cases hlt : k < vs.length
    · have h' := HRD.out.below bw
      obtain ⟨ad, rfl, _, hcl⟩ := h' (by omega)
      obtain ⟨_, hc1, hc2⟩ := hcl k hlt
      have hle := HL.out _ (List.getElem_mem hlt)
      clear hcl h'
      by_cases h60 : 8 < vs[k].xs.length
      · skip
        go_wp2_with fail
        refine (awakef_any _).mono ?_
        rintro e wn ⟨rfl, bb⟩
        try replace a1 := a1.below bb
        try replace a2 := a2.below bb
        try replace a3 := a3.below bb
        try replace a4 := a4.below bb
        try replace a5 := a5.below bb
        try replace a6 := a6.below bb
        try replace a7 := a7.below bb
        try replace a8 := a8.below bb
        try replace a9 := a9.below bb
        try replace a10 := a10.below bb
        try replace a11 := a11.below bb
        try replace a12 := a12.below bb
        try replace a13 := a13.below bb
        try replace a14 := a14.below bb
        try replace a15 := a15.below bb
        try replace a16 := a16.below bb
        try replace a17 := a17.below bb
        try replace a18 := a18.below bb
        try replace a19 := a19.below bb
        try replace a20 := a20.below bb
        replace bw := below_on bw bb bw.size
        clear bb
        go_wp2_with fail
        go_ret
        exact ⟨rfl, bw⟩
      · by_cases h61 : 8 < vs[k].ys.length
        · skip
          go_wp2_with fail
          refine (awakef_any _).mono ?_
          rintro e wn ⟨rfl, bb⟩
          try replace a1 := a1.below bb
          try replace a2 := a2.below bb
          try replace a3 := a3.below bb
          try replace a4 := a4.below bb
          try replace a5 := a5.below bb
          try replace a6 := a6.below bb
          try replace a7 := a7.below bb
          try replace a8 := a8.below bb
          try replace a9 := a9.below bb
          try replace a10 := a10.below bb
          try replace a11 := a11.below bb
          try replace a12 := a12.below bb
          try replace a13 := a13.below bb
          try replace a14 := a14.below bb
          try replace a15 := a15.below bb
          try replace a16 := a16.below bb
          try replace a17 := a17.below bb
          try replace a18 := a18.below bb
          try replace a19 := a19.below bb
          try replace a20 := a20.below bb
          replace bw := below_on bw bb bw.size
          clear bb
          go_wp2_with fail
          go_ret
          exact ⟨rfl, bw⟩
        · go_wp2_with fail
          go_round
          case rel => exact ⟨k + 1, by omega, by go_num, by have := HA.out; unfold long8 at *; rw [List.take_succ_eq_append_getElem hlt, List.any_append, this]; simp; omega⟩
          case measure => simp [intOf]; omega
    · have h8 : ∀ v ∈ vs, v.xs.length ≤ 8 ∧ v.ys.length ≤ 8 := by
        have h1 := HA.out
        rw [List.take_of_length_le (by omega)] at h1
        intro v hv
        unfold long8 at h1
        have := List.any_eq_false.1 h1 v hv
        simp at this
        exact this
      have hsum := sum_ok vs 0 0 sz_00 (by omega) (fun v hv hvv => HZ.out v hv (h8 v hv).1 (h8 v hv).2 hvv)
      have H8 := Lib.hid h8
      clear h8
      by_cases hv : ∀ v ∈ vs, v.v
      · have HV := Lib.hid hv
        have hs0 := (hsum.1 hv).1.symm.trans HS.out
        have e0 : S.2.2.2 = 0 := by rw [← hs0]; rfl
        have htot : 0 + totQ vs = totQ vs := Rat.zero_add _
        rw [htot] at hs0
        have HSS := Lib.hid hs0
        have HZT := Lib.hid (hsum.1 hv).2
        rw [htot] at HZT
        clear hsum hv hs0 htot
        have hw1 : IntKind.i64.wrap (a : Int) = a := IntWalk.i64_in _ (by omega)
        have hw2 : IntKind.i64.wrap ((vs.length : Int) + 1) = (vs.length : Int) + 1 := IntWalk.i64_in _ (by omega)
        obtain ⟨m, hm⟩ : ∃ m, m = a % (vs.length + 1) := ⟨_, rfl⟩
        have hml : m ≤ vs.length := by rw [hm]; have := Nat.mod_lt a (show 0 < vs.length + 1 by omega); omega
        have hm1 : (a : Int) % ((vs.length : Int) + 1) = m := by rw [hm, Int.natCast_emod]; rfl
        have hm2 : (a : Int).tmod ((vs.length : Int) + 1) = m := by rw [Int.tmod_eq_emod_of_nonneg (by omega), hm1]
        have hw3 : IntKind.i64.wrap (m : Int) = m := IntWalk.i64_in _ (by omega)
        have hne : ((vs.length : Int) + 1) ≠ 0 := by omega
        clear hm
        go_upto_region 15 with fail
        have sub : ∀ us : List Fx, (∀ v ∈ us, v ∈ vs) → us.length ≤ 12 → sumS us 0 = okS (totQ us) ∧ Sz (totQ us) 128 128 := by
          intro us hm hl
          have h1 := (sum_ok us 0 0 sz_00 (by omega) (fun v hv hvv => HZ.out v (hm v hv) (H8.out v (hm v hv)).1 (H8.out v (hm v hv)).2 hvv)).1 (fun v hv => HV.out v (hm v hv))
          rwa [Rat.zero_add] at h1
        have ht := sub (vs.take m) (fun v hv => List.mem_of_mem_take hv) (by rw [List.length_take]; omega)
        have hd := sub (vs.drop m) (fun v hv => List.mem_of_mem_drop hv) (by rw [List.length_drop]; omega)
        have hr := sub (vs.drop m ++ vs.take m) (fun v hv => by rcases List.mem_append.1 hv with h | h; exact List.mem_of_mem_drop h; exact List.mem_of_mem_take h) (by simp; omega)
        have htd : totQ (vs.take m) + totQ (vs.drop m) = totQ vs := by rw [← totQ_append, List.take_append_drop]
        have hrt : totQ (vs.drop m ++ vs.take m) = totQ vs := by rw [totQ_append, Rat.add_comm, htd]
        rw [hrt] at hr
        have HT := Lib.hid ht.1
        have ZT := Lib.hid ht.2
        have HD := Lib.hid hd.1
        have ZD := Lib.hid hd.2
        have HR := Lib.hid hr.1
        have HTD := Lib.hid htd
        have lT : m = (vs.take m).length := by rw [List.length_take]; omega
        have LT := Lib.hid lT
        have e1 : ∀ q, (okS q).2.2.2 = 0 := fun q => rfl
        clear ht hd hr htd hrt sub lT
        go_wp2_with fail
        refine (fsum_any _ A m c (vs.take m) (okS (totQ (vs.take m))) ((HRD.out.below bw).take m) (fun v hv => (HOK.out.below bw) v (List.mem_of_mem_take hv)) LT.out (by rw [List.length_take]; omega) HT.out).mono ?_
        rintro e wn ⟨x5, rfl, hs5, ok5, bb⟩
        have HS5 := Lib.hid hs5
        clear hs5
        skip
        try replace a1 := a1.below bb
        try replace a2 := a2.below bb
        try replace a3 := a3.below bb
        try replace a4 := a4.below bb
        try replace a5 := a5.below bb
        try replace a6 := a6.below bb
        try replace a7 := a7.below bb
        try replace a8 := a8.below bb
        try replace a9 := a9.below bb
        try replace a10 := a10.below bb
        try replace a11 := a11.below bb
        try replace a12 := a12.below bb
        try replace a13 := a13.below bb
        try replace a14 := a14.below bb
        try replace a15 := a15.below bb
        try replace a16 := a16.below bb
        try replace a17 := a17.below bb
        try replace a18 := a18.below bb
        try replace a19 := a19.below bb
        try replace a20 := a20.below bb
        replace bw := below_on bw bb bw.size
        clear bb
        go_upto_region 16 with fail
        have a5 := (fa_alloc ok5).1
        have bb := (fa_alloc ok5).2
        clear ok5
        generalize (wn.alloc (.cells #[.bool x5.b, .slice x5.A x5.xs.length x5.c, .slice x5.D x5.ys.length x5.d] 25)) = wm at a5 bb ⊢
        try replace a1 := a1.below bb
        try replace a2 := a2.below bb
        try replace a3 := a3.below bb
        try replace a4 := a4.below bb
        try replace a5 := a5.below bb
        try replace a6 := a6.below bb
        try replace a7 := a7.below bb
        try replace a8 := a8.below bb
        try replace a9 := a9.below bb
        try replace a10 := a10.below bb
        try replace a11 := a11.below bb
        try replace a12 := a12.below bb
        try replace a13 := a13.below bb
        try replace a14 := a14.below bb
        try replace a15 := a15.below bb
        try replace a16 := a16.below bb
        try replace a17 := a17.below bb
        try replace a18 := a18.below bb
        try replace a19 := a19.below bb
        try replace a20 := a20.below bb
        replace bw := below_on bw bb bw.size
        clear bb
        generalize wn.heap.size = g5 at a5 ⊢
        obtain ⟨D, hD⟩ : ∃ D, (if c = m then A else Option.map (fun x => x.add (m * 3)) A) = D := ⟨_, rfl⟩
        have hrdD : RdF w D (vs.drop m) := by
          rw [← hD]
          split
          · rename_i hcm2
            intro hn; rw [List.length_drop] at hn; omega
          · cases A with
            | none =>
              intro hn
              have h0 : 0 < vs.length := by rw [List.length_drop] at hn; omega
              obtain ⟨ad, e, _⟩ := HRD.out h0
              cases e
            | some ad => exact HRD.out.drop m
        have HRDD := Lib.hid hrdD
        have lD : vs.length - m = (vs.drop m).length := by rw [List.length_drop]
        have LD := Lib.hid lD
        clear hrdD lD
        go_wp2_with fail
        refine (fsum_any _ D (vs.length - m) (c - m) (vs.drop m) (okS (totQ (vs.drop m))) (HRDD.out.below bw) (fun v hv => (HOK.out.below bw) v (List.mem_of_mem_drop hv)) LD.out (by rw [List.length_drop]; omega) HD.out).mono ?_
        rintro e wn ⟨x6, rfl, hs6, ok6, bb⟩
        have HS6 := Lib.hid hs6
        clear hs6
        skip
        try replace a1 := a1.below bb
        try replace a2 := a2.below bb
        try replace a3 := a3.below bb
        try replace a4 := a4.below bb
        try replace a5 := a5.below bb
        try replace a6 := a6.below bb
        try replace a7 := a7.below bb
        try replace a8 := a8.below bb
        try replace a9 := a9.below bb
        try replace a10 := a10.below bb
        try replace a11 := a11.below bb
        try replace a12 := a12.below bb
        try replace a13 := a13.below bb
        try replace a14 := a14.below bb
        try replace a15 := a15.below bb
        try replace a16 := a16.below bb
        try replace a17 := a17.below bb
        try replace a18 := a18.below bb
        try replace a19 := a19.below bb
        try replace a20 := a20.below bb
        replace bw := below_on bw bb bw.size
        clear bb
        go_upto_region 17 with fail
        have a6 := (fa_alloc ok6).1
        have bb := (fa_alloc ok6).2
        clear ok6
        generalize (wn.alloc (.cells #[.bool x6.b, .slice x6.A x6.xs.length x6.c, .slice x6.D x6.ys.length x6.d] 25)) = wm at a6 bb ⊢
        try replace a1 := a1.below bb
        try replace a2 := a2.below bb
        try replace a3 := a3.below bb
        try replace a4 := a4.below bb
        try replace a5 := a5.below bb
        try replace a6 := a6.below bb
        try replace a7 := a7.below bb
        try replace a8 := a8.below bb
        try replace a9 := a9.below bb
        try replace a10 := a10.below bb
        try replace a11 := a11.below bb
        try replace a12 := a12.below bb
        try replace a13 := a13.below bb
        try replace a14 := a14.below bb
        try replace a15 := a15.below bb
        try replace a16 := a16.below bb
        try replace a17 := a17.below bb
        try replace a18 := a18.below bb
        try replace a19 := a19.below bb
        try replace a20 := a20.below bb
        replace bw := below_on bw bb bw.size
        clear bb
        generalize wn.heap.size = g6 at a6 ⊢
        have R5 := Rp.of HS5.out
        have l5 := R5.l1 ZT.out
        have m5 := R5.l2 ZT.out
        have R6 := Rp.of HS6.out
        have l6 := R6.l1 ZD.out
        have m6 := R6.l2 ZD.out
        have HTT : Hid (totQ (vs.drop m) + totQ (vs.take m) = totQ vs) := Lib.hid (by rw [Rat.add_comm]; exact HTD.out)
        have HADD : Hid (addF x6 x5 = okS (totQ vs)) := Lib.hid (by rw [← HTT.out]; exact addF_ok (R6.v ZD.out) (R5.v ZT.out) R6.q R5.q (by rw [HTT.out]; exact HZT.out))
        have ci0 := a6.c0
        have ci1 := a6.c1
        have ci2 := a6.c2
        have cj0 := a5.c0
        have cj1 := a5.c1
        have cj2 := a5.c2
        go_wp2_with fail
        clear ci0 ci1 ci2 cj0 cj1 cj2
        refine (fadd_any _ x6 x5 (okS (totQ vs)) a6.ok a5.ok l6 m6 l5 m5 HADD.out).mono ?_
        rintro e wn ⟨x7, rfl, hs7, ok7, bb⟩
        have HS7 := Lib.hid hs7
        clear hs7
        try replace a1 := a1.below bb
        try replace a2 := a2.below bb
        try replace a3 := a3.below bb
        try replace a4 := a4.below bb
        try replace a5 := a5.below bb
        try replace a6 := a6.below bb
        try replace a7 := a7.below bb
        try replace a8 := a8.below bb
        try replace a9 := a9.below bb
        try replace a10 := a10.below bb
        try replace a11 := a11.below bb
        try replace a12 := a12.below bb
        try replace a13 := a13.below bb
        try replace a14 := a14.below bb
        try replace a15 := a15.below bb
        try replace a16 := a16.below bb
        try replace a17 := a17.below bb
        try replace a18 := a18.below bb
        try replace a19 := a19.below bb
        try replace a20 := a20.below bb
        replace bw := below_on bw bb bw.size
        clear bb
        go_upto_region 18 with fail
        have a7 := (fa_alloc ok7).1
        have bb := (fa_alloc ok7).2
        clear ok7
        generalize (wn.alloc (.cells #[.bool x7.b, .slice x7.A x7.xs.length x7.c, .slice x7.D x7.ys.length x7.d] 25)) = wm at a7 bb ⊢
        try replace a1 := a1.below bb
        try replace a2 := a2.below bb
        try replace a3 := a3.below bb
        try replace a4 := a4.below bb
        try replace a5 := a5.below bb
        try replace a6 := a6.below bb
        try replace a7 := a7.below bb
        try replace a8 := a8.below bb
        try replace a9 := a9.below bb
        try replace a10 := a10.below bb
        try replace a11 := a11.below bb
        try replace a12 := a12.below bb
        try replace a13 := a13.below bb
        try replace a14 := a14.below bb
        try replace a15 := a15.below bb
        try replace a16 := a16.below bb
        try replace a17 := a17.below bb
        try replace a18 := a18.below bb
        try replace a19 := a19.below bb
        try replace a20 := a20.below bb
        replace bw := below_on bw bb bw.size
        clear bb
        generalize wn.heap.size = g7 at a7 ⊢
        have o3 := a3.lt
        have o7 := a7.lt
        have hwm := bw.size
        have hmc : m ≤ c := by omega
        clear a5 a6
        go_region_law (first
          | (refine step_append_frac _ rfl _ _ rfl rfl (B := wm.heap.size) (xs := []) rfl rfl ?_ D _ _ (vs.drop m) rfl LD.out ?_ ?_ ?_ ?_
             · first
               | exact (fr_lit _ _ (by first | omega | (simp; omega) | (simp; done))).below (by with_reducible first | exact brf | exact (bdr brf) | exact (bal brf) | exact (bal (bdr brf)) | exact (bdr (bal brf)) | exact (bdr (bal (bdr brf))) | exact (bal (bal brf)) | exact (bal (bal (bdr brf))) | exact (bal (bdr (bal brf))) | exact (bal (bdr (bal (bdr brf)))) | exact (bdr (bal (bal brf))) | exact (bdr (bal (bal (bdr brf)))) | exact (bdr (bal (bdr (bal brf)))) | exact (bdr (bal (bdr (bal (bdr brf))))))
               | (have q := fr_lit (wm.alloc (.cells #[.bool false, .slice none 0 0, .slice none 0 0] 25)) wm.heap.size (by first | omega | (simp; omega) | (simp; done))
                  simp only [size_box, heap_drew] at q
                  exact q.below (by with_reducible first | exact brf | exact (bdr brf) | exact (bal brf) | exact (bal (bdr brf)) | exact (bdr (bal brf)) | exact (bdr (bal (bdr brf))) | exact (bal (bal brf)) | exact (bal (bal (bdr brf))) | exact (bal (bdr (bal brf))) | exact (bal (bdr (bal (bdr brf)))) | exact (bdr (bal (bal brf))) | exact (bdr (bal (bal (bdr brf)))) | exact (bdr (bal (bdr (bal brf)))) | exact (bdr (bal (bdr (bal (bdr brf)))))))
               | (have q := fr_lit (wm.drew.alloc (.cells #[.bool false, .slice none 0 0, .slice none 0 0] 25)) wm.heap.size (by first | omega | (simp; omega) | (simp; done))
                  simp only [size_box, heap_drew] at q
                  exact q.below (by with_reducible first | exact brf | exact (bdr brf) | exact (bal brf) | exact (bal (bdr brf)) | exact (bdr (bal brf)) | exact (bdr (bal (bdr brf))) | exact (bal (bal brf)) | exact (bal (bal (bdr brf))) | exact (bal (bdr (bal brf))) | exact (bal (bdr (bal (bdr brf)))) | exact (bdr (bal (bal brf))) | exact (bdr (bal (bal (bdr brf)))) | exact (bdr (bal (bdr (bal brf)))) | exact (bdr (bal (bdr (bal (bdr brf)))))))
               | (have q := fr_lit (wm.alloc (.cells #[.bool false, .slice none 0 0, .slice none 0 0] 25)).drew wm.heap.size (by first | omega | (simp; omega) | (simp; done))
                  simp only [size_box, heap_drew] at q
                  exact q.below (by with_reducible first | exact brf | exact (bdr brf) | exact (bal brf) | exact (bal (bdr brf)) | exact (bdr (bal brf)) | exact (bdr (bal (bdr brf))) | exact (bal (bal brf)) | exact (bal (bal (bdr brf))) | exact (bal (bdr (bal brf))) | exact (bal (bdr (bal (bdr brf)))) | exact (bdr (bal (bal brf))) | exact (bdr (bal (bal (bdr brf)))) | exact (bdr (bal (bdr (bal brf)))) | exact (bdr (bal (bdr (bal (bdr brf)))))))
               | (have q := fr_lit (wm.drew.alloc (.cells #[.bool false, .slice none 0 0, .slice none 0 0] 25)).drew wm.heap.size (by first | omega | (simp; omega) | (simp; done))
                  simp only [size_box, heap_drew] at q
                  exact q.below (by with_reducible first | exact brf | exact (bdr brf) | exact (bal brf) | exact (bal (bdr brf)) | exact (bdr (bal brf)) | exact (bdr (bal (bdr brf))) | exact (bal (bal brf)) | exact (bal (bal (bdr brf))) | exact (bal (bdr (bal brf))) | exact (bal (bdr (bal (bdr brf)))) | exact (bdr (bal (bal brf))) | exact (bdr (bal (bal (bdr brf)))) | exact (bdr (bal (bdr (bal brf)))) | exact (bdr (bal (bdr (bal (bdr brf)))))))
             · exact HRDD.out.below (below_on bw (by with_reducible first | exact brf | exact (bdr brf) | exact (bal brf) | exact (bal (bdr brf)) | exact (bdr (bal brf)) | exact (bdr (bal (bdr brf))) | exact (bal (bal brf)) | exact (bal (bal (bdr brf))) | exact (bal (bdr (bal brf))) | exact (bal (bdr (bal (bdr brf)))) | exact (bdr (bal (bal brf))) | exact (bdr (bal (bal (bdr brf)))) | exact (bdr (bal (bdr (bal brf)))) | exact (bdr (bal (bdr (bal (bdr brf)))))) bw.size)
             · omega
             · first | omega | (simp; omega) | (simp; done)
             intro A1 c1 w1 fr1 bb1 gr1 at1
             have bm1 : Below wm.heap.size wm w1 := Below.trans (by with_reducible first | exact brf | exact (bdr brf) | exact (bal brf) | exact (bal (bdr brf)) | exact (bdr (bal brf)) | exact (bdr (bal (bdr brf))) | exact (bal (bal brf)) | exact (bal (bal (bdr brf))) | exact (bal (bdr (bal brf))) | exact (bal (bdr (bal (bdr brf)))) | exact (bdr (bal (bal brf))) | exact (bdr (bal (bal (bdr brf)))) | exact (bdr (bal (bdr (bal brf)))) | exact (bdr (bal (bdr (bal (bdr brf)))))) bb1
             have s1 := bm1.size
             first
               | (have nk := ((bk3_new wm).below (by with_reducible first | exact brf | exact (bdr brf) | exact (bal brf) | exact (bal (bdr brf)) | exact (bdr (bal brf)) | exact (bdr (bal (bdr brf))) | exact (bal (bal brf)) | exact (bal (bal (bdr brf))) | exact (bal (bdr (bal brf))) | exact (bal (bdr (bal (bdr brf)))) | exact (bdr (bal (bal brf))) | exact (bdr (bal (bal (bdr brf)))) | exact (bdr (bal (bdr (bal brf)))) | exact (bdr (bal (bdr (bal (bdr brf))))))).grown gr1 (by simp))
               | (have nk := ((bk3_new wm.drew).below (by with_reducible first | exact brf | exact (bdr brf) | exact (bal brf) | exact (bal (bdr brf)) | exact (bdr (bal brf)) | exact (bdr (bal (bdr brf))) | exact (bal (bal brf)) | exact (bal (bal (bdr brf))) | exact (bal (bdr (bal brf))) | exact (bal (bdr (bal (bdr brf)))) | exact (bdr (bal (bal brf))) | exact (bdr (bal (bal (bdr brf)))) | exact (bdr (bal (bdr (bal brf)))) | exact (bdr (bal (bdr (bal (bdr brf))))))).grown gr1 (by simp))
               | (have nk := ((bk3_new (wm.alloc (.cells #[] 25))).below (by with_reducible first | exact brf | exact (bdr brf) | exact (bal brf) | exact (bal (bdr brf)) | exact (bdr (bal brf)) | exact (bdr (bal (bdr brf))) | exact (bal (bal brf)) | exact (bal (bal (bdr brf))) | exact (bal (bdr (bal brf))) | exact (bal (bdr (bal (bdr brf)))) | exact (bdr (bal (bal brf))) | exact (bdr (bal (bal (bdr brf)))) | exact (bdr (bal (bdr (bal brf)))) | exact (bdr (bal (bdr (bal (bdr brf))))))).grown gr1 (by simp))
               | (have nk := ((bk3_new (wm.drew.alloc (.cells #[] 25))).below (by with_reducible first | exact brf | exact (bdr brf) | exact (bal brf) | exact (bal (bdr brf)) | exact (bdr (bal brf)) | exact (bdr (bal (bdr brf))) | exact (bal (bal brf)) | exact (bal (bal (bdr brf))) | exact (bal (bdr (bal brf))) | exact (bal (bdr (bal (bdr brf)))) | exact (bdr (bal (bal brf))) | exact (bdr (bal (bal (bdr brf)))) | exact (bdr (bal (bdr (bal brf)))) | exact (bdr (bal (bdr (bal (bdr brf))))))).grown gr1 (by simp))
               | (have nk := ((bk3_new (wm.alloc (.cells #[] 25)).drew).below (by with_reducible first | exact brf | exact (bdr brf) | exact (bal brf) | exact (bal (bdr brf)) | exact (bdr (bal brf)) | exact (bdr (bal (bdr brf))) | exact (bal (bal brf)) | exact (bal (bal (bdr brf))) | exact (bal (bdr (bal brf))) | exact (bal (bdr (bal (bdr brf)))) | exact (bdr (bal (bal brf))) | exact (bdr (bal (bal (bdr brf)))) | exact (bdr (bal (bdr (bal brf)))) | exact (bdr (bal (bdr (bal (bdr brf))))))).grown gr1 (by simp))
               | (have nk := ((bk3_new (wm.drew.alloc (.cells #[] 25)).drew).below (by with_reducible first | exact brf | exact (bdr brf) | exact (bal brf) | exact (bal (bdr brf)) | exact (bdr (bal brf)) | exact (bdr (bal (bdr brf))) | exact (bal (bal brf)) | exact (bal (bal (bdr brf))) | exact (bal (bdr (bal brf))) | exact (bal (bdr (bal (bdr brf)))) | exact (bdr (bal (bal brf))) | exact (bdr (bal (bal (bdr brf)))) | exact (bdr (bal (bdr (bal brf)))) | exact (bdr (bal (bdr (bal (bdr brf))))))).grown gr1 (by simp))
               | skip)
          | (refine step_append_frac _ rfl _ _ rfl rfl (B := wm.heap.size) (A := A1) (c := c1) (xs := vs.drop m) rfl (by first | omega | (simp; omega) | (simp; done)) ?_ A _ _ (vs.take m) rfl LT.out ?_ ?_ ?_ ?_
             · exact fr1.below (by with_reducible first | exact brf | exact (bdr brf) | exact (bal brf) | exact (bal (bdr brf)) | exact (bdr (bal brf)) | exact (bdr (bal (bdr brf))) | exact (bal (bal brf)) | exact (bal (bal (bdr brf))) | exact (bal (bdr (bal brf))) | exact (bal (bdr (bal (bdr brf)))) | exact (bdr (bal (bal brf))) | exact (bdr (bal (bal (bdr brf)))) | exact (bdr (bal (bdr (bal brf)))) | exact (bdr (bal (bdr (bal (bdr brf))))))
             · exact ((HRD.out.below bw).take m).below (below_on bm1 (by with_reducible first | exact brf | exact (bdr brf) | exact (bal brf) | exact (bal (bdr brf)) | exact (bdr (bal brf)) | exact (bdr (bal (bdr brf))) | exact (bal (bal brf)) | exact (bal (bal (bdr brf))) | exact (bal (bdr (bal brf))) | exact (bal (bdr (bal (bdr brf)))) | exact (bdr (bal (bal brf))) | exact (bdr (bal (bal (bdr brf)))) | exact (bdr (bal (bdr (bal brf)))) | exact (bdr (bal (bdr (bal (bdr brf)))))) bm1.size)
             · omega
             · first | omega | (simp; omega) | (simp; done)
             intro A2 c2 w2 fr2 bb2 gr2 at2
             have bm2 : Below wm.heap.size wm w2 := Below.trans (below_on bm1 (by with_reducible first | exact brf | exact (bdr brf) | exact (bal brf) | exact (bal (bdr brf)) | exact (bdr (bal brf)) | exact (bdr (bal (bdr brf))) | exact (bal (bal brf)) | exact (bal (bal (bdr brf))) | exact (bal (bdr (bal brf))) | exact (bal (bdr (bal (bdr brf)))) | exact (bdr (bal (bal brf))) | exact (bdr (bal (bal (bdr brf)))) | exact (bdr (bal (bdr (bal brf)))) | exact (bdr (bal (bdr (bal (bdr brf)))))) bm1.size) bb2
             have s2 := bm2.size
             first
               | (replace nk := (nk.below (by with_reducible first | exact brf | exact (bdr brf) | exact (bal brf) | exact (bal (bdr brf)) | exact (bdr (bal brf)) | exact (bdr (bal (bdr brf))) | exact (bal (bal brf)) | exact (bal (bal (bdr brf))) | exact (bal (bdr (bal brf))) | exact (bal (bdr (bal (bdr brf)))) | exact (bdr (bal (bal brf))) | exact (bdr (bal (bal (bdr brf)))) | exact (bdr (bal (bdr (bal brf)))) | exact (bdr (bal (bdr (bal (bdr brf))))))).grown gr2 (by rcases at1 with h | h <;> rw [h] <;> simp <;> omega))
               | (have nk := (bk3_new w1).grown gr2 (by intro e; have h9 := fr1.lt _ e.symm; omega))
               | (have nk := (bk3_new w1.drew).grown gr2 (by intro e; have h9 := fr1.lt _ e.symm; rw [heap_drew] at h9; omega))
               | (have nk := ((bk3_new w1).below (by with_reducible first | exact brf | exact (bdr brf) | exact (bal brf) | exact (bal (bdr brf)) | exact (bdr (bal brf)) | exact (bdr (bal (bdr brf))) | exact (bal (bal brf)) | exact (bal (bal (bdr brf))) | exact (bal (bdr (bal brf))) | exact (bal (bdr (bal (bdr brf)))) | exact (bdr (bal (bal brf))) | exact (bdr (bal (bal (bdr brf)))) | exact (bdr (bal (bdr (bal brf)))) | exact (bdr (bal (bdr (bal (bdr brf))))))).grown gr2 (by intro e; have h9 := fr1.lt _ e.symm; omega))
               | (have nk := ((bk3_new w1.drew).below (by with_reducible first | exact brf | exact (bdr brf) | exact (bal brf) | exact (bal (bdr brf)) | exact (bdr (bal brf)) | exact (bdr (bal (bdr brf))) | exact (bal (bal brf)) | exact (bal (bal (bdr brf))) | exact (bal (bdr (bal brf))) | exact (bal (bdr (bal (bdr brf)))) | exact (bdr (bal (bal brf))) | exact (bdr (bal (bal (bdr brf)))) | exact (bdr (bal (bdr (bal brf)))) | exact (bdr (bal (bdr (bal (bdr brf))))))).grown gr2 (by intro e; have h9 := fr1.lt _ e.symm; rw [heap_drew] at h9; omega))
               | skip)
          | (go_simp
             go_at_call 18
             have hq : ∀ v ∈ vs.drop m ++ vs.take m, v ∈ vs := fun v hv => by
               rcases List.mem_append.1 hv with h | h
               · exact List.mem_of_mem_drop h
               · exact List.mem_of_mem_take h
             have bw2 := below_on bw bm2 bw.size
             refine (fsum_any _ A2 _ c2 (vs.drop m ++ vs.take m) (okS (totQ vs)) (fr2.below (by with_reducible first | exact brf | exact (bdr brf) | exact (bal brf) | exact (bal (bdr brf)) | exact (bdr (bal brf)) | exact (bdr (bal (bdr brf))) | exact (bal (bal brf)) | exact (bal (bal (bdr brf))) | exact (bal (bdr (bal brf))) | exact (bal (bdr (bal (bdr brf)))) | exact (bdr (bal (bal brf))) | exact (bdr (bal (bal (bdr brf)))) | exact (bdr (bal (bdr (bal brf)))) | exact (bdr (bal (bdr (bal (bdr brf))))))).rd (fun v hv => (HOK.out.below (below_on bw2 (by with_reducible first | exact brf | exact (bdr brf) | exact (bal brf) | exact (bal (bdr brf)) | exact (bdr (bal brf)) | exact (bdr (bal (bdr brf))) | exact (bal (bal brf)) | exact (bal (bal (bdr brf))) | exact (bal (bdr (bal brf))) | exact (bal (bdr (bal (bdr brf)))) | exact (bdr (bal (bal brf))) | exact (bdr (bal (bal (bdr brf)))) | exact (bdr (bal (bdr (bal brf)))) | exact (bdr (bal (bdr (bal (bdr brf)))))) bw2.size)) v (hq v hv)) (by first | omega | (simp; omega) | (simp; done)) (by first | omega | (simp; omega) | (simp; done)) HR.out).mono ?_
             rintro e w3 ⟨x8, rfl, hs8, ok8, bb⟩
             have HS8 := Lib.hid hs8
             clear hs8 hq bw2
             repeat replace bb := below_undrew bb
             try have nk := (bk3_new _).below bb
             repeat (first | replace bb := below_unalloc bb | replace bb := below_undrew bb)
             try replace nk := nk.below bb
             have bm3 := below_on bm2 bb bm2.size
             have s3 := bb.size
             clear bb
             try simp only [size_box, heap_drew] at nk
             try (have tk := nk; obtain ⟨k0, k1, k2, kf0, kf1, kf2, klt, _⟩ := tk)))
        all_goals (try go_upto_region 19 with fail)
        all_goals first
          | (skip
             have hk : Fa w3 (wm.heap.size) Fx.nil := ⟨nk, Fx.nil_ok _⟩
             have a8 := hk.put ok8
             have b3 := (a3.below bm3).far hk (a := .bool x8.b) (b := .slice x8.A x8.xs.length x8.c) (c := .slice x8.D x8.ys.length x8.d) (by omega)
             have b7 := (a7.below bm3).far hk (a := .bool x8.b) (b := .slice x8.A x8.xs.length x8.c) (c := .slice x8.D x8.ys.length x8.d) (by omega)
             have bz := set3g (G := wm.heap.size) (a := .bool x8.b) (b := .slice x8.A x8.xs.length x8.c) (c := .slice x8.D x8.ys.length x8.d) (below_on bw bm3 bw.size) (by omega)
             clear a3 a7 bw k0 k1 k2 kf0 kf1 kf2 nk hk ok8
             generalize (((w3.setCell ⟨wm.heap.size, 0, none⟩ (.bool x8.b)).setCell ⟨wm.heap.size, 1, none⟩ (.slice x8.A x8.xs.length x8.c)).setCell ⟨wm.heap.size, 2, none⟩ (.slice x8.D x8.ys.length x8.d)) = wz at *
             have a3 := b3
             have a7 := b7
             have bw := bz
             clear b3 b7 bz
             have ci0 := a7.c0
             have ci1 := a7.c1
             have ci2 := a7.c2
             have cj0 := a3.c0
             have cj1 := a3.c1
             have cj2 := a3.c2
             go_wp2_with fail
             clear ci0 ci1 ci2 cj0 cj1 cj2
             refine (samef_any _ x7 x3 true a7.ok a3.ok (sm HS7.out (by rw [HSS.out]; exact HS3.out))).mono ?_
             rintro e wn ⟨rfl, bb⟩
             try replace a1 := a1.below bb
             try replace a2 := a2.below bb
             try replace a3 := a3.below bb
             try replace a4 := a4.below bb
             try replace a5 := a5.below bb
             try replace a6 := a6.below bb
             try replace a7 := a7.below bb
             try replace a8 := a8.below bb
             try replace a9 := a9.below bb
             try replace a10 := a10.below bb
             try replace a11 := a11.below bb
             try replace a12 := a12.below bb
             try replace a13 := a13.below bb
             try replace a14 := a14.below bb
             try replace a15 := a15.below bb
             try replace a16 := a16.below bb
             try replace a17 := a17.below bb
             try replace a18 := a18.below bb
             try replace a19 := a19.below bb
             try replace a20 := a20.below bb
             replace bw := below_on bw bb bw.size
             clear bb
             have ci0 := a8.c0
             have ci1 := a8.c1
             have ci2 := a8.c2
             have cj0 := a3.c0
             have cj1 := a3.c1
             have cj2 := a3.c2
             go_wp2_with fail
             clear ci0 ci1 ci2 cj0 cj1 cj2
             refine (samef_any _ x8 x3 true a8.ok a3.ok (sm HS8.out (by rw [HSS.out]; exact HS3.out))).mono ?_
             rintro e wn ⟨rfl, bb⟩
             try replace a1 := a1.below bb
             try replace a2 := a2.below bb
             try replace a3 := a3.below bb
             try replace a4 := a4.below bb
             try replace a5 := a5.below bb
             try replace a6 := a6.below bb
             try replace a7 := a7.below bb
             try replace a8 := a8.below bb
             try replace a9 := a9.below bb
             try replace a10 := a10.below bb
             try replace a11 := a11.below bb
             try replace a12 := a12.below bb
             try replace a13 := a13.below bb
             try replace a14 := a14.below bb
             try replace a15 := a15.below bb
             try replace a16 := a16.below bb
             try replace a17 := a17.below bb
             try replace a18 := a18.below bb
             try replace a19 := a19.below bb
             try replace a20 := a20.below bb
             replace bw := below_on bw bb bw.size
             clear bb
             go_wp2_with fail
             refine (awakef_any _).mono ?_
             rintro e wn ⟨rfl, bb⟩
             try replace a1 := a1.below bb
             try replace a2 := a2.below bb
             try replace a3 := a3.below bb
             try replace a4 := a4.below bb
             try replace a5 := a5.below bb
             try replace a6 := a6.below bb
             try replace a7 := a7.below bb
             try replace a8 := a8.below bb
             try replace a9 := a9.below bb
             try replace a10 := a10.below bb
             try replace a11 := a11.below bb
             try replace a12 := a12.below bb
             try replace a13 := a13.below bb
             try replace a14 := a14.below bb
             try replace a15 := a15.below bb
             try replace a16 := a16.below bb
             try replace a17 := a17.below bb
             try replace a18 := a18.below bb
             try replace a19 := a19.below bb
             try replace a20 := a20.below bb
             replace bw := below_on bw bb bw.size
             clear bb
             go_wp2_with fail
             go_ret
             exact ⟨rfl, bw⟩
             skip)
          | (skip
             have hk : Fa w3 (wm.heap.size + 1) Fx.nil := ⟨nk, Fx.nil_ok _⟩
             have a8 := hk.put ok8
             have b3 := (a3.below bm3).far hk (a := .bool x8.b) (b := .slice x8.A x8.xs.length x8.c) (c := .slice x8.D x8.ys.length x8.d) (by omega)
             have b7 := (a7.below bm3).far hk (a := .bool x8.b) (b := .slice x8.A x8.xs.length x8.c) (c := .slice x8.D x8.ys.length x8.d) (by omega)
             have bz := set3g (G := wm.heap.size + 1) (a := .bool x8.b) (b := .slice x8.A x8.xs.length x8.c) (c := .slice x8.D x8.ys.length x8.d) (below_on bw bm3 bw.size) (by omega)
             clear a3 a7 bw k0 k1 k2 kf0 kf1 kf2 nk hk ok8
             generalize (((w3.setCell ⟨wm.heap.size + 1, 0, none⟩ (.bool x8.b)).setCell ⟨wm.heap.size + 1, 1, none⟩ (.slice x8.A x8.xs.length x8.c)).setCell ⟨wm.heap.size + 1, 2, none⟩ (.slice x8.D x8.ys.length x8.d)) = wz at *
             have a3 := b3
             have a7 := b7
             have bw := bz
             clear b3 b7 bz
             have ci0 := a7.c0
             have ci1 := a7.c1
             have ci2 := a7.c2
             have cj0 := a3.c0
             have cj1 := a3.c1
             have cj2 := a3.c2
             go_wp2_with fail
             clear ci0 ci1 ci2 cj0 cj1 cj2
             refine (samef_any _ x7 x3 true a7.ok a3.ok (sm HS7.out (by rw [HSS.out]; exact HS3.out))).mono ?_
             rintro e wn ⟨rfl, bb⟩
             try replace a1 := a1.below bb
             try replace a2 := a2.below bb
             try replace a3 := a3.below bb
             try replace a4 := a4.below bb
             try replace a5 := a5.below bb
             try replace a6 := a6.below bb
             try replace a7 := a7.below bb
             try replace a8 := a8.below bb
             try replace a9 := a9.below bb
             try replace a10 := a10.below bb
             try replace a11 := a11.below bb
             try replace a12 := a12.below bb
             try replace a13 := a13.below bb
             try replace a14 := a14.below bb
             try replace a15 := a15.below bb
             try replace a16 := a16.below bb
             try replace a17 := a17.below bb
             try replace a18 := a18.below bb
             try replace a19 := a19.below bb
             try replace a20 := a20.below bb
             replace bw := below_on bw bb bw.size
             clear bb
             have ci0 := a8.c0
             have ci1 := a8.c1
             have ci2 := a8.c2
             have cj0 := a3.c0
             have cj1 := a3.c1
             have cj2 := a3.c2
             go_wp2_with fail
             clear ci0 ci1 ci2 cj0 cj1 cj2
             refine (samef_any _ x8 x3 true a8.ok a3.ok (sm HS8.out (by rw [HSS.out]; exact HS3.out))).mono ?_
             rintro e wn ⟨rfl, bb⟩
             try replace a1 := a1.below bb
             try replace a2 := a2.below bb
             try replace a3 := a3.below bb
             try replace a4 := a4.below bb
             try replace a5 := a5.below bb
             try replace a6 := a6.below bb
             try replace a7 := a7.below bb
             try replace a8 := a8.below bb
             try replace a9 := a9.below bb
             try replace a10 := a10.below bb
             try replace a11 := a11.below bb
             try replace a12 := a12.below bb
             try replace a13 := a13.below bb
             try replace a14 := a14.below bb
             try replace a15 := a15.below bb
             try replace a16 := a16.below bb
             try replace a17 := a17.below bb
             try replace a18 := a18.below bb
             try replace a19 := a19.below bb
             try replace a20 := a20.below bb
             replace bw := below_on bw bb bw.size
             clear bb
             go_wp2_with fail
             refine (awakef_any _).mono ?_
             rintro e wn ⟨rfl, bb⟩
             try replace a1 := a1.below bb
             try replace a2 := a2.below bb
             try replace a3 := a3.below bb
             try replace a4 := a4.below bb
             try replace a5 := a5.below bb
             try replace a6 := a6.below bb
             try replace a7 := a7.below bb
             try replace a8 := a8.below bb
             try replace a9 := a9.below bb
             try replace a10 := a10.below bb
             try replace a11 := a11.below bb
             try replace a12 := a12.below bb
             try replace a13 := a13.below bb
             try replace a14 := a14.below bb
             try replace a15 := a15.below bb
             try replace a16 := a16.below bb
             try replace a17 := a17.below bb
             try replace a18 := a18.below bb
             try replace a19 := a19.below bb
             try replace a20 := a20.below bb
             replace bw := below_on bw bb bw.size
             clear bb
             go_wp2_with fail
             go_ret
             exact ⟨rfl, bw⟩
             skip)
          | (skip
             have hk : Fa w3 (w1.heap.size) Fx.nil := ⟨nk, Fx.nil_ok _⟩
             have a8 := hk.put ok8
             have b3 := (a3.below bm3).far hk (a := .bool x8.b) (b := .slice x8.A x8.xs.length x8.c) (c := .slice x8.D x8.ys.length x8.d) (by omega)
             have b7 := (a7.below bm3).far hk (a := .bool x8.b) (b := .slice x8.A x8.xs.length x8.c) (c := .slice x8.D x8.ys.length x8.d) (by omega)
             have bz := set3g (G := w1.heap.size) (a := .bool x8.b) (b := .slice x8.A x8.xs.length x8.c) (c := .slice x8.D x8.ys.length x8.d) (below_on bw bm3 bw.size) (by omega)
             clear a3 a7 bw k0 k1 k2 kf0 kf1 kf2 nk hk ok8
             generalize (((w3.setCell ⟨w1.heap.size, 0, none⟩ (.bool x8.b)).setCell ⟨w1.heap.size, 1, none⟩ (.slice x8.A x8.xs.length x8.c)).setCell ⟨w1.heap.size, 2, none⟩ (.slice x8.D x8.ys.length x8.d)) = wz at *
             have a3 := b3
             have a7 := b7
             have bw := bz
             clear b3 b7 bz
             have ci0 := a7.c0
             have ci1 := a7.c1
             have ci2 := a7.c2
             have cj0 := a3.c0
             have cj1 := a3.c1
             have cj2 := a3.c2
             go_wp2_with fail
             clear ci0 ci1 ci2 cj0 cj1 cj2
             refine (samef_any _ x7 x3 true a7.ok a3.ok (sm HS7.out (by rw [HSS.out]; exact HS3.out))).mono ?_
             rintro e wn ⟨rfl, bb⟩
             try replace a1 := a1.below bb
             try replace a2 := a2.below bb
             try replace a3 := a3.below bb
             try replace a4 := a4.below bb
             try replace a5 := a5.below bb
             try replace a6 := a6.below bb
             try replace a7 := a7.below bb
             try replace a8 := a8.below bb
             try replace a9 := a9.below bb
             try replace a10 := a10.below bb
             try replace a11 := a11.below bb
             try replace a12 := a12.below bb
             try replace a13 := a13.below bb
             try replace a14 := a14.below bb
             try replace a15 := a15.below bb
             try replace a16 := a16.below bb
             try replace a17 := a17.below bb
             try replace a18 := a18.below bb
             try replace a19 := a19.below bb
             try replace a20 := a20.below bb
             replace bw := below_on bw bb bw.size
             clear bb
             have ci0 := a8.c0
             have ci1 := a8.c1
             have ci2 := a8.c2
             have cj0 := a3.c0
             have cj1 := a3.c1
             have cj2 := a3.c2
             go_wp2_with fail
             clear ci0 ci1 ci2 cj0 cj1 cj2
             refine (samef_any _ x8 x3 true a8.ok a3.ok (sm HS8.out (by rw [HSS.out]; exact HS3.out))).mono ?_
             rintro e wn ⟨rfl, bb⟩
             try replace a1 := a1.below bb
             try replace a2 := a2.below bb
             try replace a3 := a3.below bb
             try replace a4 := a4.below bb
             try replace a5 := a5.below bb
             try replace a6 := a6.below bb
             try replace a7 := a7.below bb
             try replace a8 := a8.below bb
             try replace a9 := a9.below bb
             try replace a10 := a10.below bb
             try replace a11 := a11.below bb
             try replace a12 := a12.below bb
             try replace a13 := a13.below bb
             try replace a14 := a14.below bb
             try replace a15 := a15.below bb
             try replace a16 := a16.below bb
             try replace a17 := a17.below bb
             try replace a18 := a18.below bb
             try replace a19 := a19.below bb
             try replace a20 := a20.below bb
             replace bw := below_on bw bb bw.size
             clear bb
             go_wp2_with fail
             refine (awakef_any _).mono ?_
             rintro e wn ⟨rfl, bb⟩
             try replace a1 := a1.below bb
             try replace a2 := a2.below bb
             try replace a3 := a3.below bb
             try replace a4 := a4.below bb
             try replace a5 := a5.below bb
             try replace a6 := a6.below bb
             try replace a7 := a7.below bb
             try replace a8 := a8.below bb
             try replace a9 := a9.below bb
             try replace a10 := a10.below bb
             try replace a11 := a11.below bb
             try replace a12 := a12.below bb
             try replace a13 := a13.below bb
             try replace a14 := a14.below bb
             try replace a15 := a15.below bb
             try replace a16 := a16.below bb
             try replace a17 := a17.below bb
             try replace a18 := a18.below bb
             try replace a19 := a19.below bb
             try replace a20 := a20.below bb
             replace bw := below_on bw bb bw.size
             clear bb
             go_wp2_with fail
             go_ret
             exact ⟨rfl, bw⟩
             skip)
          | (skip
             have hk : Fa w3 (w2.heap.size) Fx.nil := ⟨nk, Fx.nil_ok _⟩
             have a8 := hk.put ok8
             have b3 := (a3.below bm3).far hk (a := .bool x8.b) (b := .slice x8.A x8.xs.length x8.c) (c := .slice x8.D x8.ys.length x8.d) (by omega)
             have b7 := (a7.below bm3).far hk (a := .bool x8.b) (b := .slice x8.A x8.xs.length x8.c) (c := .slice x8.D x8.ys.length x8.d) (by omega)
             have bz := set3g (G := w2.heap.size) (a := .bool x8.b) (b := .slice x8.A x8.xs.length x8.c) (c := .slice x8.D x8.ys.length x8.d) (below_on bw bm3 bw.size) (by omega)
             clear a3 a7 bw k0 k1 k2 kf0 kf1 kf2 nk hk ok8
             generalize (((w3.setCell ⟨w2.heap.size, 0, none⟩ (.bool x8.b)).setCell ⟨w2.heap.size, 1, none⟩ (.slice x8.A x8.xs.length x8.c)).setCell ⟨w2.heap.size, 2, none⟩ (.slice x8.D x8.ys.length x8.d)) = wz at *
             have a3 := b3
             have a7 := b7
             have bw := bz
             clear b3 b7 bz
             have ci0 := a7.c0
             have ci1 := a7.c1
             have ci2 := a7.c2
             have cj0 := a3.c0
             have cj1 := a3.c1
             have cj2 := a3.c2
             go_wp2_with fail
             clear ci0 ci1 ci2 cj0 cj1 cj2
             refine (samef_any _ x7 x3 true a7.ok a3.ok (sm HS7.out (by rw [HSS.out]; exact HS3.out))).mono ?_
             rintro e wn ⟨rfl, bb⟩
             try replace a1 := a1.below bb
             try replace a2 := a2.below bb
             try replace a3 := a3.below bb
             try replace a4 := a4.below bb
             try replace a5 := a5.below bb
             try replace a6 := a6.below bb
             try replace a7 := a7.below bb
             try replace a8 := a8.below bb
             try replace a9 := a9.below bb
             try replace a10 := a10.below bb
             try replace a11 := a11.below bb
             try replace a12 := a12.below bb
             try replace a13 := a13.below bb
             try replace a14 := a14.below bb
             try replace a15 := a15.below bb
             try replace a16 := a16.below bb
             try replace a17 := a17.below bb
             try replace a18 := a18.below bb
             try replace a19 := a19.below bb
             try replace a20 := a20.below bb
             replace bw := below_on bw bb bw.size
             clear bb
             have ci0 := a8.c0
             have ci1 := a8.c1
             have ci2 := a8.c2
             have cj0 := a3.c0
             have cj1 := a3.c1
             have cj2 := a3.c2
             go_wp2_with fail
             clear ci0 ci1 ci2 cj0 cj1 cj2
             refine (samef_any _ x8 x3 true a8.ok a3.ok (sm HS8.out (by rw [HSS.out]; exact HS3.out))).mono ?_
             rintro e wn ⟨rfl, bb⟩
             try replace a1 := a1.below bb
             try replace a2 := a2.below bb
             try replace a3 := a3.below bb
             try replace a4 := a4.below bb
             try replace a5 := a5.below bb
             try replace a6 := a6.below bb
             try replace a7 := a7.below bb
             try replace a8 := a8.below bb
             try replace a9 := a9.below bb
             try replace a10 := a10.below bb
             try replace a11 := a11.below bb
             try replace a12 := a12.below bb
             try replace a13 := a13.below bb
             try replace a14 := a14.below bb
             try replace a15 := a15.below bb
             try replace a16 := a16.below bb
             try replace a17 := a17.below bb
             try replace a18 := a18.below bb
             try replace a19 := a19.below bb
             try replace a20 := a20.below bb
             replace bw := below_on bw bb bw.size
             clear bb
             go_wp2_with fail
             refine (awakef_any _).mono ?_
             rintro e wn ⟨rfl, bb⟩
             try replace a1 := a1.below bb
             try replace a2 := a2.below bb
             try replace a3 := a3.below bb
             try replace a4 := a4.below bb
             try replace a5 := a5.below bb
             try replace a6 := a6.below bb
             try replace a7 := a7.below bb
             try replace a8 := a8.below bb
             try replace a9 := a9.below bb
             try replace a10 := a10.below bb
             try replace a11 := a11.below bb
             try replace a12 := a12.below bb
             try replace a13 := a13.below bb
             try replace a14 := a14.below bb
             try replace a15 := a15.below bb
             try replace a16 := a16.below bb
             try replace a17 := a17.below bb
             try replace a18 := a18.below bb
             try replace a19 := a19.below bb
             try replace a20 := a20.below bb
             replace bw := below_on bw bb bw.size
             clear bb
             go_wp2_with fail
             go_ret
             exact ⟨rfl, bw⟩
             skip)
          | (have a8 := (fa_alloc ok8).1
             have bb := (fa_alloc ok8).2
             replace a3 := a3.below bm3
             replace a7 := a7.below bm3
             replace bw := below_on bw bm3 bw.size
             clear ok8
             generalize (w3.alloc (.cells #[.bool x8.b, .slice x8.A x8.xs.length x8.c, .slice x8.D x8.ys.length x8.d] 25)) = wz at a8 bb ⊢
             skip
             try replace a1 := a1.below bb
             try replace a2 := a2.below bb
             try replace a3 := a3.below bb
             try replace a4 := a4.below bb
             try replace a5 := a5.below bb
             try replace a6 := a6.below bb
             try replace a7 := a7.below bb
             try replace a8 := a8.below bb
             try replace a9 := a9.below bb
             try replace a10 := a10.below bb
             try replace a11 := a11.below bb
             try replace a12 := a12.below bb
             try replace a13 := a13.below bb
             try replace a14 := a14.below bb
             try replace a15 := a15.below bb
             try replace a16 := a16.below bb
             try replace a17 := a17.below bb
             try replace a18 := a18.below bb
             try replace a19 := a19.below bb
             try replace a20 := a20.below bb
             replace bw := below_on bw bb bw.size
             clear bb
             generalize w3.heap.size = g8 at a8 ⊢
             skip
             have ci0 := a7.c0
             have ci1 := a7.c1
             have ci2 := a7.c2
             have cj0 := a3.c0
             have cj1 := a3.c1
             have cj2 := a3.c2
             go_wp2_with fail
             clear ci0 ci1 ci2 cj0 cj1 cj2
             refine (samef_any _ x7 x3 true a7.ok a3.ok (sm HS7.out (by rw [HSS.out]; exact HS3.out))).mono ?_
             rintro e wn ⟨rfl, bb⟩
             try replace a1 := a1.below bb
             try replace a2 := a2.below bb
             try replace a3 := a3.below bb
             try replace a4 := a4.below bb
             try replace a5 := a5.below bb
             try replace a6 := a6.below bb
             try replace a7 := a7.below bb
             try replace a8 := a8.below bb
             try replace a9 := a9.below bb
             try replace a10 := a10.below bb
             try replace a11 := a11.below bb
             try replace a12 := a12.below bb
             try replace a13 := a13.below bb
             try replace a14 := a14.below bb
             try replace a15 := a15.below bb
             try replace a16 := a16.below bb
             try replace a17 := a17.below bb
             try replace a18 := a18.below bb
             try replace a19 := a19.below bb
             try replace a20 := a20.below bb
             replace bw := below_on bw bb bw.size
             clear bb
             have ci0 := a8.c0
             have ci1 := a8.c1
             have ci2 := a8.c2
             have cj0 := a3.c0
             have cj1 := a3.c1
             have cj2 := a3.c2
             go_wp2_with fail
             clear ci0 ci1 ci2 cj0 cj1 cj2
             refine (samef_any _ x8 x3 true a8.ok a3.ok (sm HS8.out (by rw [HSS.out]; exact HS3.out))).mono ?_
             rintro e wn ⟨rfl, bb⟩
             try replace a1 := a1.below bb
             try replace a2 := a2.below bb
             try replace a3 := a3.below bb
             try replace a4 := a4.below bb
             try replace a5 := a5.below bb
             try replace a6 := a6.below bb
             try replace a7 := a7.below bb
             try replace a8 := a8.below bb
             try replace a9 := a9.below bb
             try replace a10 := a10.below bb
             try replace a11 := a11.below bb
             try replace a12 := a12.below bb
             try replace a13 := a13.below bb
             try replace a14 := a14.below bb
             try replace a15 := a15.below bb
             try replace a16 := a16.below bb
             try replace a17 := a17.below bb
             try replace a18 := a18.below bb
             try replace a19 := a19.below bb
             try replace a20 := a20.below bb
             replace bw := below_on bw bb bw.size
             clear bb
             go_wp2_with fail
             refine (awakef_any _).mono ?_
             rintro e wn ⟨rfl, bb⟩
             try replace a1 := a1.below bb
             try replace a2 := a2.below bb
             try replace a3 := a3.below bb
             try replace a4 := a4.below bb
             try replace a5 := a5.below bb
             try replace a6 := a6.below bb
             try replace a7 := a7.below bb
             try replace a8 := a8.below bb
             try replace a9 := a9.below bb
             try replace a10 := a10.below bb
             try replace a11 := a11.below bb
             try replace a12 := a12.below bb
             try replace a13 := a13.below bb
             try replace a14 := a14.below bb
             try replace a15 := a15.below bb
             try replace a16 := a16.below bb
             try replace a17 := a17.below bb
             try replace a18 := a18.below bb
             try replace a19 := a19.below bb
             try replace a20 := a20.below bb
             replace bw := below_on bw bb bw.size
             clear bb
             go_wp2_with fail
             go_ret
             exact ⟨rfl, bw⟩
             skip)
      · have hv2 : ∃ v ∈ vs, ¬ v.v := by
          false_or_by_contra
          rename_i hc
          exact hv (fun v hm => by
            false_or_by_contra
            rename_i h2
            exact hc ⟨v, hm, h2⟩)
        have hs0 := (hsum.2 hv2).symm.trans HS.out
        have e0 : S.2.2.2 = 1 := by rw [← hs0]; rfl
        clear hsum hv hv2 hs0
        skip
        go_wp2_with fail
        refine (awakef_any _).mono ?_
        rintro e wn ⟨rfl, bb⟩
        try replace a1 := a1.below bb
        try replace a2 := a2.below bb
        try replace a3 := a3.below bb
        try replace a4 := a4.below bb
        try replace a5 := a5.below bb
        try replace a6 := a6.below bb
        try replace a7 := a7.below bb
        try replace a8 := a8.below bb
        try replace a9 := a9.below bb
        try replace a10 := a10.below bb
        try replace a11 := a11.below bb
        try replace a12 := a12.below bb
        try replace a13 := a13.below bb
        try replace a14 := a14.below bb
        try replace a15 := a15.below bb
        try replace a16 := a16.below bb
        try replace a17 := a17.below bb
        try replace a18 := a18.below bb
        try replace a19 := a19.below bb
        try replace a20 := a20.below bb
        replace bw := below_on bw bb bw.size
        clear bb
        go_wp2_with fail
        go_ret
        exact ⟨rfl, bw⟩
theorem sums_walk (w : World) (A : Option Addr) (c : Nat) (vs : List Fx) (a : Int) (hrd : RdF w A vs) (hcc : vs.length ≤ c) (hcm : c ≤ maxLen) (hok : ∀ v ∈ vs, v.ok w) (ha : (Lit.int .u8 a).wf = true) :
    Calls Try.prog 4 #[.slice A vs.length c, .int .u8 a] w fun e w' => e = .returned (.bool true) ∧ Below w.heap.size w w' := by
  simp [Lit.wf, IntKind.min, IntKind.max, IntKind.signed, IntKind.bits] at ha
  obtain ⟨a', rfl⟩ : ∃ k : Nat, a = k := ⟨a.toNat, by omega⟩
  have hL : lensB vs := fun v hv => lens_ok (hok v hv)
  by_cases h12 : 12 < vs.length
  · exact sums_many w A _ c _ h12 (by omega)
  · cases h : longB vs
    · have h24 := longB_no h
      exact sums_main w A _ c a' vs rfl (by omega) (by omega) hcc hcm hrd (fun v hv => ⟨hok v hv, by have := h24 v hv; omega, by have := h24 v hv; omega⟩) hL h
        (fun v hv h1 h2 hvv => Sz.of_v hvv h1 h2 (hok v hv).num.u (hok v hv).den.u)
    · exact sums_long w A _ c _ vs rfl (by omega) hrd hL h
end Go.Proofs.Ytodopppoikdglaa
