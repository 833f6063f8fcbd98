/- The walk of drydockref02.Parse. -/
import Derived.Test.YtodopppoikdglaaFrJ
import Derived.Test.YtodopppoikdglaaRefC
import Derived.Test.YtodopppoikdglaaRfB
import Derived.Test.YtodopppoikdglaaRfC
namespace Go.Proofs.Ytodopppoikdglaa
open Go.RowKit

theorem dgs_take (l : List Nat) : dgs (l.take (dgs l)) = dgs l := by
  have h := dgs_is l
  refine (Dgs.eq ⟨?_, ?_, ?_⟩).symm
  · rw [List.length_take]; have := h.le; omega
  · intro j hj hlt
    rw [List.getElem_take]
    exact h.dig j (by rw [List.length_take] at hj; omega) hlt
  · intro h2
    rw [List.length_take] at h2; omega
theorem parseS_canon (l : List Nat) (h : (parseS l).2 = 0) : (parseS l).1.length = 0 ↔ nv (parseS l).1 = 0 := by
  unfold parseS at *
  split at h
  · simp at h
  · split at h
    · simp at h
    · rename_i h1 h2
      rw [if_neg h1, if_neg h2]
      unfold sizS at *
      split at h
      · simp at h
      · rename_i h3
        rw [if_neg h3]
        show (lim _).length = 0 ↔ nv (lim _) = 0
        rw [nv_lim]
        have := lim_length_pos (n := dval l)
        omega
set_option maxRecDepth 100000 in
set_option maxHeartbeats 8000000 in
theorem rfparse_any (w : World) (s : ByteArray) (S : Bool × List Nat × List Nat × Int) (hs : s.size ≤ 9223372036854775807) (hS : parseF (bl s) = S) : Calls Try.prog 37 #[.string s] w (FracRes w S) := by
  by_cases hm : (bl s)[0]? = some 45
  · have h0 : 0 < s.size := by
      rcases Nat.eq_zero_or_pos s.size with h | h
      · rw [List.getElem?_eq_none (by rw [bl_len]; omega)] at hm; cases hm
      · exact h
    have hm2 : s[0].toNat = 45 := by
      rw [List.getElem?_eq_getElem (by rw [bl_len]; exact h0), bl_at s 0 h0] at hm
      exact Option.some.inj hm
    have he : s.toList.isEmpty = false := by
      rw [str_empty]; apply decide_eq_false; intro h; rw [h] at hm; cases hm
    obtain ⟨T, hT⟩ : ∃ T, s.extract 1 s.size = T := ⟨_, rfl⟩
    have hbT : bl T = (bl s).drop 1 := by rw [← hT, bl_ext, List.take_of_length_le (by rw [bl_len]; exact Nat.le_refl _)]
    have hsz : T.size ≤ 9223372036854775807 := by rw [← bl_len, hbT, List.length_drop, bl_len]; omega
    have HS0 : Hid (parsG true (splitF (bl T)).1 (splitF (bl T)).2 = S) := Lib.hid (by rw [← hS, parseF, if_pos hm, hbT])
    clear hm hS hbT
    go_enter Try.func37, Try.ntmps37
    go_upto_region 1 with fail
    have bw := (Below.refl w.heap.size w).alloc (Nat.le_refl _) (.cells #[.bool false, .slice none 0 0, .slice none 0 0] 25)
    have bk := bk3_new w
    generalize (w.alloc (.cells #[.bool false, .slice none 0 0, .slice none 0 0] 25)) = wn at bw bk ⊢
    go_upto_region 4 with fail
    clear hT h0 hm2 he hs
    skip
    obtain ⟨n, hn⟩ : ∃ n, dgs (bl T) = n := ⟨_, rfl⟩
    have HN : Hid (dgs ((bl T).drop 0) = n) := Lib.hid hn
    have hnl := (dgs_is (bl T)).le
    have htk := dgs_take (bl T)
    rw [hn, bl_len] at hnl
    rw [hn] at htk
    obtain ⟨A, hA⟩ : ∃ A, (T).extract 0 n = A := ⟨_, rfl⟩
    have hbA : bl A = (bl T).take n := by rw [← hA, bl_ext]; rfl
    have hla : (bl A).length = n := by rw [hbA, List.length_take, bl_len]; omega
    have sza : A.size ≤ 9223372036854775807 := by rw [← bl_len, hla]; omega
    have hga : goodL (bl A) ↔ n ≠ 0 := by
      have e : dgs (bl A) = n := by rw [hbA]; exact htk
      constructor
      · intro h h0; exact h.1 (List.eq_nil_of_length_eq_zero (by omega))
      · intro h; exact ⟨fun h1 => h (by rw [← hla, h1]; rfl), by rw [e, hla]⟩
    by_cases hlt : n < (T).size
    · have hw1 : IntKind.i64.wrap ((n : Int) + 1) = (n : Int) + 1 := IntWalk.i64_in _ (by omega)
      obtain ⟨m, hm⟩ : ∃ m, dgs ((bl T).drop (n + 1)) = m := ⟨_, rfl⟩
      have HM := Lib.hid hm
      have hml := (dgs_is ((bl T).drop (n + 1))).le
      rw [hm, List.length_drop, bl_len] at hml
      obtain ⟨B, hB⟩ : ∃ B, (T).extract (n + 1) (T).size = B := ⟨_, rfl⟩
      have hbB : bl B = (bl T).drop (n + 1) := by rw [← hB, bl_ext, List.take_of_length_le (by rw [bl_len]; exact Nat.le_refl _)]
      have hlb : (bl B).length = (T).size - (n + 1) := by rw [hbB, List.length_drop, bl_len]
      have szb : B.size ≤ 9223372036854775807 := by rw [← bl_len, hlb]; omega
      have hgb : goodL (bl B) ↔ m ≠ 0 ∧ n + 1 + m = (T).size := by
        have e : dgs (bl B) = m := by rw [hbB]; exact hm
        constructor
        · intro h
          have h2 := h.2
          rw [e, hlb] at h2
          have h3 : (bl B).length ≠ 0 := fun h3 => h.1 (List.eq_nil_of_length_eq_zero h3)
          omega
        · intro h
          exact ⟨fun h1 => by have h2 : (bl B).length = 0 := (by rw [h1]; rfl); omega, by rw [e, hlb]; omega⟩
      have hw2 : IntKind.i64.wrap ((n : Int) + 1 + (m : Int)) = (n : Int) + 1 + (m : Int) := IntWalk.i64_in _ (by omega)
      have hw3 : (((n + 1 : Nat) : Int)) = (n : Int) + 1 := by omega
      have hm0 := rdigits_any wn (T) 0 n hsz (by omega) HN.out
      have hm1 := rdigits_any wn (T) (n + 1) m hsz (by omega) HM.out
      rw [hw3] at hm1
      by_cases h47 : (T)[n].toNat = 47
      · have HS : Hid (parsG true (bl A) (bl B) = S) := Lib.hid (by rw [← HS0.out, splitF, hn, if_pos (by rw [List.getElem?_eq_getElem (by rw [bl_len]; exact hlt), bl_at _ n hlt, h47]), hbA, hbB])
        by_cases hbd : m = 0
        · have HG : Hid (¬ (goodL (bl A) ∧ goodL (bl B))) := Lib.hid (fun h => (hgb.1 h.2).1 hbd)
          subst hbd
          clear hn htk hbA hla hga hm hml hbB hlb hgb HS0
          go_wp2_with fail
          refine hm0.mono ?_
          rintro e wn' ⟨rfl, rfl⟩
          go_wp2_with fail
          refine hm1.mono ?_
          rintro e wn' ⟨rfl, rfl⟩
          have tk := bk
          obtain ⟨k0, k1, k2, kf0, kf1, kf2, klt, kb⟩ := tk
          clear kb
          go_wp2_with fail
          refine bodyPost_ret (v := .tuple #[(Fx.nil : Fx).val, .int .i64 6]) (by simp [results, Try.results37, go_sem, k0, k1, k2]) rfl ?_
          rw [← HS.out]
          rw [parsG, if_neg HG.out]
          exact ⟨Fx.nil, rfl, ⟨rfl, rfl, rfl⟩, Fx.nil_ok _, set3g bw (by omega)⟩
        · have hbd1 : ((m : Int) == 0) = false := beq_eq_false_iff_ne.2 (by omega)
          by_cases hfl : n + 1 + m = (T).size
          · have hf1 : (((n : Int) + 1 + (m : Int)) != ((T).size : Int)) = false := by rw [bne_eq_false_iff_eq]; omega
            have hf2 : ((n : Int) + 1 + (m : Int)) = ((T).size : Int) := by omega
            by_cases h0 : n = 0
            · have HG : Hid (¬ (goodL (bl A) ∧ goodL (bl B))) := Lib.hid (fun h => (hga.1 h.1) h0)
              have h00 : ((n : Int) == 0) = true := by rw [h0]; rfl
              clear hn htk hbA hla hga hm hml hbB hlb hgb HS0 h0
              go_wp2_with fail
              refine hm0.mono ?_
              rintro e wn' ⟨rfl, rfl⟩
              go_wp2_with fail
              refine hm1.mono ?_
              rintro e wn' ⟨rfl, rfl⟩
              have tk := bk
              obtain ⟨k0, k1, k2, kf0, kf1, kf2, klt, kb⟩ := tk
              clear kb
              go_wp2_with fail
              refine bodyPost_ret (v := .tuple #[(Fx.nil : Fx).val, .int .i64 6]) (by simp [results, Try.results37, go_sem, k0, k1, k2]) rfl ?_
              rw [← HS.out]
              rw [parsG, if_neg HG.out]
              exact ⟨Fx.nil, rfl, ⟨rfl, rfl, rfl⟩, Fx.nil_ok _, set3g bw (by omega)⟩
            · have HG : Hid (goodL (bl A) ∧ goodL (bl B)) := Lib.hid ⟨hga.2 h0, hgb.2 ⟨hbd, hfl⟩⟩
              have h00 : ((n : Int) == 0) = false := beq_eq_false_iff_ne.2 (by omega)
              clear hn htk hbA hla hga hm hml hbB hlb hgb HS0 h0
              go_wp2_with fail
              refine hm0.mono ?_
              rintro e wn' ⟨rfl, rfl⟩
              go_wp2_with fail
              refine hm1.mono ?_
              rintro e wn' ⟨rfl, rfl⟩
              go_wp2_with fail
              obtain ⟨RA, EA, hpa⟩ : ∃ RA EA, parseS (bl A) = (RA, EA) := ⟨_, _, rfl⟩
              obtain ⟨RB, EB, hpb⟩ : ∃ RB EB, parseS (bl B) = (RB, EB) := ⟨_, _, rfl⟩
              have HPA := Lib.hid hpa
              have HPB := Lib.hid hpb
              clear hpa hpb
              refine (rparse_any _ A RA EA sza HPA.out).mono ?_
              rintro e wn ⟨AN, cN, rfl, na, bb⟩
              try replace bx := bx.below bb
              try replace by_ := by_.below bb
              try replace bk := bk.below bb
              try replace okx := okx.below bb
              try replace oky := oky.below bb
              try replace ok1 := ok1.below bb
              try replace ok2 := ok2.below bb
              try replace ok3 := ok3.below bb
              try replace na := na.below bb
              try replace nb := nb.below bb
              try replace nc := nc.below bb
              try replace nd := nd.below bb
              try replace ne := ne.below bb
              replace bw := below_on bw bb bw.size
              clear bb
              go_wp2_with fail
              refine (rparse_any _ B RB EB szb HPB.out).mono ?_
              rintro e wn ⟨AD, cD, rfl, nb, bb⟩
              try replace bx := bx.below bb
              try replace by_ := by_.below bb
              try replace bk := bk.below bb
              try replace okx := okx.below bb
              try replace oky := oky.below bb
              try replace ok1 := ok1.below bb
              try replace ok2 := ok2.below bb
              try replace ok3 := ok3.below bb
              try replace na := na.below bb
              try replace nb := nb.below bb
              try replace nc := nc.below bb
              try replace nd := nd.below bb
              try replace ne := ne.below bb
              replace bw := below_on bw bb bw.size
              clear bb
              by_cases ha0 : EA = 0
              · by_cases hb0 : EB = 0
                · have la := parseS_lim (bl A) (by rw [HPA.out]; exact ha0)
                  have lb := parseS_lim (bl B) (by rw [HPB.out]; exact hb0)
                  rw [HPA.out] at la
                  rw [HPB.out] at lb
                  have la1 : (lim (nv RA)).length ≤ 512 := la.1
                  have la2 : RA.length ≤ 512 := la.2
                  have lb1 : (lim (nv RB)).length ≤ 512 := lb.1
                  have lb2 : RB.length ≤ 512 := lb.2
                  have HA0 := Lib.hid ha0
                  have HB0 := Lib.hid hb0
                  clear la lb
                  have hcn := parseS_canon (bl B) (by rw [HPB.out]; exact hb0)
                  rw [HPB.out] at hcn
                  have hcn2 : RB.length = 0 ↔ nv RB = 0 := hcn
                  clear hcn
                  by_cases hz : nv RB = 0
                  · have hbz : RB.length = 0 := hcn2.2 hz
                    have HZ := Lib.hid hz
                    clear hz hcn2
                    skip
                    have tk := bk
                    obtain ⟨k0, k1, k2, kf0, kf1, kf2, klt, kb⟩ := tk
                    clear kb
                    go_wp2_with fail
                    refine bodyPost_ret (v := .tuple #[(Fx.nil : Fx).val, .int .i64 3]) (by simp [results, Try.results37, go_sem, k0, k1, k2]) rfl ?_
                    rw [← HS.out]
                    rw [parsG, if_pos HG.out, valS, HPA.out, HPB.out, if_neg (no2 HA0.out HB0.out), if_pos HZ.out]
                    exact ⟨Fx.nil, rfl, ⟨rfl, rfl, rfl⟩, Fx.nil_ok _, set3g bw (by omega)⟩
                  · have hbz : ((RB.length : Int) == 0) = false := beq_eq_false_iff_ne.2 (by have := mt hcn2.1 hz; omega)
                    have HZ : Hid (¬ nv RB = 0) := hz
                    clear hz hcn2
                    go_wp2_with fail
                    refine (rflowest_any _ true AN AD cN cD _ _ RA RB na nb rfl rfl HZ.out (by omega) (by omega) la1 lb1).mono ?_
                    rintro e wn ⟨x0, rfl, hs0, ok0, bb⟩
                    have HF0 := Lib.hid (low_fits hs0 HZ.out la1 lb1)
                    clear hs0
                    try replace bx := bx.below bb
                    try replace by_ := by_.below bb
                    try replace bk := bk.below bb
                    try replace okx := okx.below bb
                    try replace oky := oky.below bb
                    try replace ok1 := ok1.below bb
                    try replace ok2 := ok2.below bb
                    try replace ok3 := ok3.below bb
                    try replace na := na.below bb
                    try replace nb := nb.below bb
                    try replace nc := nc.below bb
                    try replace nd := nd.below bb
                    try replace ne := ne.below bb
                    replace bw := below_on bw bb bw.size
                    clear bb
                    go_wp2_with fail
                    refine (rffits_any _ x0 _ ok0 HF0.out.2.1 HF0.out.2.2 HF0.out.1).mono ?_
                    rintro e wn ⟨x1, rfl, hs1, ok1, bb⟩
                    have HS1 := Lib.hid hs1
                    clear hs1
                    try replace bx := bx.below bb
                    try replace by_ := by_.below bb
                    try replace bk := bk.below bb
                    try replace okx := okx.below bb
                    try replace oky := oky.below bb
                    try replace ok1 := ok1.below bb
                    try replace ok2 := ok2.below bb
                    try replace ok3 := ok3.below bb
                    try replace na := na.below bb
                    try replace nb := nb.below bb
                    try replace nc := nc.below bb
                    try replace nd := nd.below bb
                    try replace ne := ne.below bb
                    replace bw := below_on bw bb bw.size
                    clear bb
                    have tk := bk
                    obtain ⟨k0, k1, k2, kf0, kf1, kf2, klt, kb⟩ := tk
                    clear kb
                    go_wp2_with fail
                    refine bodyPost_ret (v := .tuple #[(x1 : Fx).val, .int .i64 (frS (qv true (nv RA) (nv RB))).2.2.2]) (by simp [results, Try.results37, go_sem, k0, k1, k2]) rfl ?_
                    have hSS : S = frS (qv true (nv RA) (nv RB)) := by
                      rw [← HS.out, parsG, if_pos HG.out, valS, HPA.out, HPB.out, if_neg (no2 HA0.out HB0.out), if_neg HZ.out]
                    rw [hSS]
                    exact ⟨x1, rfl, HS1.out, set3_ok ok1 bk rfl rfl rfl, set3g bw (by omega)⟩
                · have hb1 : (EB == 0) = false := beq_eq_false_iff_ne.2 hb0
                  have hb2 : (EB != 0) = true := bne_iff_ne.2 hb0
                  have HB0 : Hid (¬ EB = 0) := hb0
                  have HA0 := Lib.hid ha0
                  clear hb0
                  skip
                  have tk := bk
                  obtain ⟨k0, k1, k2, kf0, kf1, kf2, klt, kb⟩ := tk
                  clear kb
                  go_wp2_with fail
                  refine bodyPost_ret (v := .tuple #[(Fx.nil : Fx).val, .int .i64 2]) (by simp [results, Try.results37, go_sem, k0, k1, k2]) rfl ?_
                  rw [← HS.out]
                  rw [parsG, if_pos HG.out, valS, HPA.out, HPB.out, if_pos (.inr HB0.out)]
                  exact ⟨Fx.nil, rfl, ⟨rfl, rfl, rfl⟩, Fx.nil_ok _, set3g bw (by omega)⟩
              · have hb1 : (EA == 0) = false := beq_eq_false_iff_ne.2 ha0
                have hb2 : (EA != 0) = true := bne_iff_ne.2 ha0
                have HA0 : Hid (¬ EA = 0) := ha0
                clear ha0
                skip
                have tk := bk
                obtain ⟨k0, k1, k2, kf0, kf1, kf2, klt, kb⟩ := tk
                clear kb
                go_wp2_with fail
                refine bodyPost_ret (v := .tuple #[(Fx.nil : Fx).val, .int .i64 2]) (by simp [results, Try.results37, go_sem, k0, k1, k2]) rfl ?_
                rw [← HS.out]
                rw [parsG, if_pos HG.out, valS, HPA.out, HPB.out, if_pos (.inl HA0.out)]
                exact ⟨Fx.nil, rfl, ⟨rfl, rfl, rfl⟩, Fx.nil_ok _, set3g bw (by omega)⟩
          · have hf1 : (((n : Int) + 1 + (m : Int)) != ((T).size : Int)) = true := by rw [bne_iff_ne]; omega
            have HG : Hid (¬ (goodL (bl A) ∧ goodL (bl B))) := Lib.hid (fun h => hfl (hgb.1 h.2).2)
            clear hn htk hbA hla hga hm hml hbB hlb hgb HS0
            go_wp2_with fail
            refine hm0.mono ?_
            rintro e wn' ⟨rfl, rfl⟩
            go_wp2_with fail
            refine hm1.mono ?_
            rintro e wn' ⟨rfl, rfl⟩
            have tk := bk
            obtain ⟨k0, k1, k2, kf0, kf1, kf2, klt, kb⟩ := tk
            clear kb
            go_wp2_with fail
            refine bodyPost_ret (v := .tuple #[(Fx.nil : Fx).val, .int .i64 6]) (by simp [results, Try.results37, go_sem, k0, k1, k2]) rfl ?_
            rw [← HS.out]
            rw [parsG, if_neg HG.out]
            exact ⟨Fx.nil, rfl, ⟨rfl, rfl, rfl⟩, Fx.nil_ok _, set3g bw (by omega)⟩
      · have h47b : (((T)[n].toNat : Int) == 47) = false := beq_eq_false_iff_ne.2 (by omega)
        have h47c : (((T)[n].toNat : Int) != 47) = true := bne_iff_ne.2 (by omega)
        have HS : Hid (errF 6 = S) := Lib.hid (by
          rw [← HS0.out, splitF, hn, if_neg (fun h => h47 (by rw [List.getElem?_eq_getElem (by rw [bl_len]; exact hlt), bl_at _ n hlt] at h; exact Option.some.inj h)), parsG, if_neg]
          intro h
          have := h.1.2
          rw [hn, bl_len] at this
          omega)
        clear hn htk hbA hla hga hm hml hbB hlb hgb HS0
        go_wp2_with fail
        refine hm0.mono ?_
        rintro e wn' ⟨rfl, rfl⟩
        go_wp2_with fail
        refine hm1.mono ?_
        rintro e wn' ⟨rfl, rfl⟩
        have tk := bk
        obtain ⟨k0, k1, k2, kf0, kf1, kf2, klt, kb⟩ := tk
        clear kb
        go_wp2_with fail
        refine bodyPost_ret (v := .tuple #[(Fx.nil : Fx).val, .int .i64 6]) (by simp [results, Try.results37, go_sem, k0, k1, k2]) rfl ?_
        rw [← HS.out]
        skip
        exact ⟨Fx.nil, rfl, ⟨rfl, rfl, rfl⟩, Fx.nil_ok _, set3g bw (by omega)⟩
    · have hm0 := rdigits_any wn (T) 0 n hsz (by omega) HN.out
      have hbA2 : bl A = bl T := by rw [hbA, List.take_of_length_le (by rw [bl_len]; omega)]
      obtain ⟨B, hB⟩ : ∃ B, (⟨#[49]⟩ : ByteArray) = B := ⟨_, rfl⟩
      have hbB : bl B = [49] := by rw [← hB]; rfl
      have hgb : goodL (bl B) := by rw [hbB]; decide
      have szb : B.size ≤ 9223372036854775807 := by rw [← bl_len, hbB]; simp
      have HS : Hid (parsG true (bl A) (bl B) = S) := Lib.hid (by rw [← HS0.out, splitF, hn, if_neg (by rw [List.getElem?_eq_none (by rw [bl_len]; omega)]; simp), hbA2, hbB])
      by_cases h0 : n = 0
      · have HG : Hid (¬ (goodL (bl A) ∧ goodL (bl B))) := Lib.hid (fun h => (hga.1 h.1) h0)
        have h00 : ((n : Int) == 0) = true := by rw [h0]; rfl
        clear hn htk hbA hla hga hbB hgb hbA2 HS0 h0
        go_wp2_with fail
        refine hm0.mono ?_
        rintro e wn' ⟨rfl, rfl⟩
        have tk := bk
        obtain ⟨k0, k1, k2, kf0, kf1, kf2, klt, kb⟩ := tk
        clear kb
        go_wp2_with fail
        refine bodyPost_ret (v := .tuple #[(Fx.nil : Fx).val, .int .i64 6]) (by simp [results, Try.results37, go_sem, k0, k1, k2]) rfl ?_
        rw [← HS.out]
        rw [parsG, if_neg HG.out]
        exact ⟨Fx.nil, rfl, ⟨rfl, rfl, rfl⟩, Fx.nil_ok _, set3g bw (by omega)⟩
      · have HG : Hid (goodL (bl A) ∧ goodL (bl B)) := Lib.hid ⟨hga.2 h0, hgb⟩
        have h00 : ((n : Int) == 0) = false := beq_eq_false_iff_ne.2 (by omega)
        clear hn htk hbA hla hga hbB hgb hbA2 HS0 h0
        go_wp2_with fail
        refine hm0.mono ?_
        rintro e wn' ⟨rfl, rfl⟩
        go_wp2_with fail
        obtain ⟨RA, EA, hpa⟩ : ∃ RA EA, parseS (bl A) = (RA, EA) := ⟨_, _, rfl⟩
        obtain ⟨RB, EB, hpb⟩ : ∃ RB EB, parseS (bl B) = (RB, EB) := ⟨_, _, rfl⟩
        have HPA := Lib.hid hpa
        have HPB := Lib.hid hpb
        clear hpa hpb
        refine (rparse_any _ A RA EA sza HPA.out).mono ?_
        rintro e wn ⟨AN, cN, rfl, na, bb⟩
        try replace bx := bx.below bb
        try replace by_ := by_.below bb
        try replace bk := bk.below bb
        try replace okx := okx.below bb
        try replace oky := oky.below bb
        try replace ok1 := ok1.below bb
        try replace ok2 := ok2.below bb
        try replace ok3 := ok3.below bb
        try replace na := na.below bb
        try replace nb := nb.below bb
        try replace nc := nc.below bb
        try replace nd := nd.below bb
        try replace ne := ne.below bb
        replace bw := below_on bw bb bw.size
        clear bb
        go_wp2_with fail
        refine (rparse_any _ B RB EB szb HPB.out).mono ?_
        rintro e wn ⟨AD, cD, rfl, nb, bb⟩
        try replace bx := bx.below bb
        try replace by_ := by_.below bb
        try replace bk := bk.below bb
        try replace okx := okx.below bb
        try replace oky := oky.below bb
        try replace ok1 := ok1.below bb
        try replace ok2 := ok2.below bb
        try replace ok3 := ok3.below bb
        try replace na := na.below bb
        try replace nb := nb.below bb
        try replace nc := nc.below bb
        try replace nd := nd.below bb
        try replace ne := ne.below bb
        replace bw := below_on bw bb bw.size
        clear bb
        by_cases ha0 : EA = 0
        · by_cases hb0 : EB = 0
          · have la := parseS_lim (bl A) (by rw [HPA.out]; exact ha0)
            have lb := parseS_lim (bl B) (by rw [HPB.out]; exact hb0)
            rw [HPA.out] at la
            rw [HPB.out] at lb
            have la1 : (lim (nv RA)).length ≤ 512 := la.1
            have la2 : RA.length ≤ 512 := la.2
            have lb1 : (lim (nv RB)).length ≤ 512 := lb.1
            have lb2 : RB.length ≤ 512 := lb.2
            have HA0 := Lib.hid ha0
            have HB0 := Lib.hid hb0
            clear la lb
            have hcn := parseS_canon (bl B) (by rw [HPB.out]; exact hb0)
            rw [HPB.out] at hcn
            have hcn2 : RB.length = 0 ↔ nv RB = 0 := hcn
            clear hcn
            by_cases hz : nv RB = 0
            · have hbz : RB.length = 0 := hcn2.2 hz
              have HZ := Lib.hid hz
              clear hz hcn2
              skip
              have tk := bk
              obtain ⟨k0, k1, k2, kf0, kf1, kf2, klt, kb⟩ := tk
              clear kb
              go_wp2_with fail
              refine bodyPost_ret (v := .tuple #[(Fx.nil : Fx).val, .int .i64 3]) (by simp [results, Try.results37, go_sem, k0, k1, k2]) rfl ?_
              rw [← HS.out]
              rw [parsG, if_pos HG.out, valS, HPA.out, HPB.out, if_neg (no2 HA0.out HB0.out), if_pos HZ.out]
              exact ⟨Fx.nil, rfl, ⟨rfl, rfl, rfl⟩, Fx.nil_ok _, set3g bw (by omega)⟩
            · have hbz : ((RB.length : Int) == 0) = false := beq_eq_false_iff_ne.2 (by have := mt hcn2.1 hz; omega)
              have HZ : Hid (¬ nv RB = 0) := hz
              clear hz hcn2
              go_wp2_with fail
              refine (rflowest_any _ true AN AD cN cD _ _ RA RB na nb rfl rfl HZ.out (by omega) (by omega) la1 lb1).mono ?_
              rintro e wn ⟨x0, rfl, hs0, ok0, bb⟩
              have HF0 := Lib.hid (low_fits hs0 HZ.out la1 lb1)
              clear hs0
              try replace bx := bx.below bb
              try replace by_ := by_.below bb
              try replace bk := bk.below bb
              try replace okx := okx.below bb
              try replace oky := oky.below bb
              try replace ok1 := ok1.below bb
              try replace ok2 := ok2.below bb
              try replace ok3 := ok3.below bb
              try replace na := na.below bb
              try replace nb := nb.below bb
              try replace nc := nc.below bb
              try replace nd := nd.below bb
              try replace ne := ne.below bb
              replace bw := below_on bw bb bw.size
              clear bb
              go_wp2_with fail
              refine (rffits_any _ x0 _ ok0 HF0.out.2.1 HF0.out.2.2 HF0.out.1).mono ?_
              rintro e wn ⟨x1, rfl, hs1, ok1, bb⟩
              have HS1 := Lib.hid hs1
              clear hs1
              try replace bx := bx.below bb
              try replace by_ := by_.below bb
              try replace bk := bk.below bb
              try replace okx := okx.below bb
              try replace oky := oky.below bb
              try replace ok1 := ok1.below bb
              try replace ok2 := ok2.below bb
              try replace ok3 := ok3.below bb
              try replace na := na.below bb
              try replace nb := nb.below bb
              try replace nc := nc.below bb
              try replace nd := nd.below bb
              try replace ne := ne.below bb
              replace bw := below_on bw bb bw.size
              clear bb
              have tk := bk
              obtain ⟨k0, k1, k2, kf0, kf1, kf2, klt, kb⟩ := tk
              clear kb
              go_wp2_with fail
              refine bodyPost_ret (v := .tuple #[(x1 : Fx).val, .int .i64 (frS (qv true (nv RA) (nv RB))).2.2.2]) (by simp [results, Try.results37, go_sem, k0, k1, k2]) rfl ?_
              have hSS : S = frS (qv true (nv RA) (nv RB)) := by
                rw [← HS.out, parsG, if_pos HG.out, valS, HPA.out, HPB.out, if_neg (no2 HA0.out HB0.out), if_neg HZ.out]
              rw [hSS]
              exact ⟨x1, rfl, HS1.out, set3_ok ok1 bk rfl rfl rfl, set3g bw (by omega)⟩
          · have hb1 : (EB == 0) = false := beq_eq_false_iff_ne.2 hb0
            have hb2 : (EB != 0) = true := bne_iff_ne.2 hb0
            have HB0 : Hid (¬ EB = 0) := hb0
            have HA0 := Lib.hid ha0
            clear hb0
            skip
            have tk := bk
            obtain ⟨k0, k1, k2, kf0, kf1, kf2, klt, kb⟩ := tk
            clear kb
            go_wp2_with fail
            refine bodyPost_ret (v := .tuple #[(Fx.nil : Fx).val, .int .i64 2]) (by simp [results, Try.results37, go_sem, k0, k1, k2]) rfl ?_
            rw [← HS.out]
            rw [parsG, if_pos HG.out, valS, HPA.out, HPB.out, if_pos (.inr HB0.out)]
            exact ⟨Fx.nil, rfl, ⟨rfl, rfl, rfl⟩, Fx.nil_ok _, set3g bw (by omega)⟩
        · have hb1 : (EA == 0) = false := beq_eq_false_iff_ne.2 ha0
          have hb2 : (EA != 0) = true := bne_iff_ne.2 ha0
          have HA0 : Hid (¬ EA = 0) := ha0
          clear ha0
          skip
          have tk := bk
          obtain ⟨k0, k1, k2, kf0, kf1, kf2, klt, kb⟩ := tk
          clear kb
          go_wp2_with fail
          refine bodyPost_ret (v := .tuple #[(Fx.nil : Fx).val, .int .i64 2]) (by simp [results, Try.results37, go_sem, k0, k1, k2]) rfl ?_
          rw [← HS.out]
          rw [parsG, if_pos HG.out, valS, HPA.out, HPB.out, if_pos (.inl HA0.out)]
          exact ⟨Fx.nil, rfl, ⟨rfl, rfl, rfl⟩, Fx.nil_ok _, set3g bw (by omega)⟩
  · have HS0 : Hid (parsG false (splitF (bl s)).1 (splitF (bl s)).2 = S) := Lib.hid (by rw [← hS, parseF, if_neg hm])
    have hsz := hs
    by_cases h0 : s.size = 0
    · have he : s.toList.isEmpty = true := by
        rw [str_empty]; apply decide_eq_true; exact List.eq_nil_of_length_eq_zero (by rw [bl_len]; exact h0)
      clear hm hS
      skip
      go_enter Try.func37, Try.ntmps37
      go_upto_region 1 with fail
      have bw := (Below.refl w.heap.size w).alloc (Nat.le_refl _) (.cells #[.bool false, .slice none 0 0, .slice none 0 0] 25)
      have bk := bk3_new w
      generalize (w.alloc (.cells #[.bool false, .slice none 0 0, .slice none 0 0] 25)) = wn at bw bk ⊢
      go_upto_region 4 with fail
      clear he h0
      skip
      obtain ⟨n, hn⟩ : ∃ n, dgs (bl s) = n := ⟨_, rfl⟩
      have HN : Hid (dgs ((bl s).drop 0) = n) := Lib.hid hn
      have hnl := (dgs_is (bl s)).le
      have htk := dgs_take (bl s)
      rw [hn, bl_len] at hnl
      rw [hn] at htk
      obtain ⟨A, hA⟩ : ∃ A, (s).extract 0 n = A := ⟨_, rfl⟩
      have hbA : bl A = (bl s).take n := by rw [← hA, bl_ext]; rfl
      have hla : (bl A).length = n := by rw [hbA, List.length_take, bl_len]; omega
      have sza : A.size ≤ 9223372036854775807 := by rw [← bl_len, hla]; omega
      have hga : goodL (bl A) ↔ n ≠ 0 := by
        have e : dgs (bl A) = n := by rw [hbA]; exact htk
        constructor
        · intro h h0; exact h.1 (List.eq_nil_of_length_eq_zero (by omega))
        · intro h; exact ⟨fun h1 => h (by rw [← hla, h1]; rfl), by rw [e, hla]⟩
      by_cases hlt : n < (s).size
      · have hw1 : IntKind.i64.wrap ((n : Int) + 1) = (n : Int) + 1 := IntWalk.i64_in _ (by omega)
        obtain ⟨m, hm⟩ : ∃ m, dgs ((bl s).drop (n + 1)) = m := ⟨_, rfl⟩
        have HM := Lib.hid hm
        have hml := (dgs_is ((bl s).drop (n + 1))).le
        rw [hm, List.length_drop, bl_len] at hml
        obtain ⟨B, hB⟩ : ∃ B, (s).extract (n + 1) (s).size = B := ⟨_, rfl⟩
        have hbB : bl B = (bl s).drop (n + 1) := by rw [← hB, bl_ext, List.take_of_length_le (by rw [bl_len]; exact Nat.le_refl _)]
        have hlb : (bl B).length = (s).size - (n + 1) := by rw [hbB, List.length_drop, bl_len]
        have szb : B.size ≤ 9223372036854775807 := by rw [← bl_len, hlb]; omega
        have hgb : goodL (bl B) ↔ m ≠ 0 ∧ n + 1 + m = (s).size := by
          have e : dgs (bl B) = m := by rw [hbB]; exact hm
          constructor
          · intro h
            have h2 := h.2
            rw [e, hlb] at h2
            have h3 : (bl B).length ≠ 0 := fun h3 => h.1 (List.eq_nil_of_length_eq_zero h3)
            omega
          · intro h
            exact ⟨fun h1 => by have h2 : (bl B).length = 0 := (by rw [h1]; rfl); omega, by rw [e, hlb]; omega⟩
        have hw2 : IntKind.i64.wrap ((n : Int) + 1 + (m : Int)) = (n : Int) + 1 + (m : Int) := IntWalk.i64_in _ (by omega)
        have hw3 : (((n + 1 : Nat) : Int)) = (n : Int) + 1 := by omega
        have hm0 := rdigits_any wn (s) 0 n hsz (by omega) HN.out
        have hm1 := rdigits_any wn (s) (n + 1) m hsz (by omega) HM.out
        rw [hw3] at hm1
        by_cases h47 : (s)[n].toNat = 47
        · have HS : Hid (parsG false (bl A) (bl B) = S) := Lib.hid (by rw [← HS0.out, splitF, hn, if_pos (by rw [List.getElem?_eq_getElem (by rw [bl_len]; exact hlt), bl_at _ n hlt, h47]), hbA, hbB])
          by_cases hbd : m = 0
          · have HG : Hid (¬ (goodL (bl A) ∧ goodL (bl B))) := Lib.hid (fun h => (hgb.1 h.2).1 hbd)
            subst hbd
            clear hn htk hbA hla hga hm hml hbB hlb hgb HS0
            go_wp2_with fail
            refine hm0.mono ?_
            rintro e wn' ⟨rfl, rfl⟩
            go_wp2_with fail
            refine hm1.mono ?_
            rintro e wn' ⟨rfl, rfl⟩
            have tk := bk
            obtain ⟨k0, k1, k2, kf0, kf1, kf2, klt, kb⟩ := tk
            clear kb
            go_wp2_with fail
            refine bodyPost_ret (v := .tuple #[(Fx.nil : Fx).val, .int .i64 6]) (by simp [results, Try.results37, go_sem, k0, k1, k2]) rfl ?_
            rw [← HS.out]
            rw [parsG, if_neg HG.out]
            exact ⟨Fx.nil, rfl, ⟨rfl, rfl, rfl⟩, Fx.nil_ok _, set3g bw (by omega)⟩
          · have hbd1 : ((m : Int) == 0) = false := beq_eq_false_iff_ne.2 (by omega)
            by_cases hfl : n + 1 + m = (s).size
            · have hf1 : (((n : Int) + 1 + (m : Int)) != ((s).size : Int)) = false := by rw [bne_eq_false_iff_eq]; omega
              have hf2 : ((n : Int) + 1 + (m : Int)) = ((s).size : Int) := by omega
              by_cases h0 : n = 0
              · have HG : Hid (¬ (goodL (bl A) ∧ goodL (bl B))) := Lib.hid (fun h => (hga.1 h.1) h0)
                have h00 : ((n : Int) == 0) = true := by rw [h0]; rfl
                clear hn htk hbA hla hga hm hml hbB hlb hgb HS0 h0
                go_wp2_with fail
                refine hm0.mono ?_
                rintro e wn' ⟨rfl, rfl⟩
                go_wp2_with fail
                refine hm1.mono ?_
                rintro e wn' ⟨rfl, rfl⟩
                have tk := bk
                obtain ⟨k0, k1, k2, kf0, kf1, kf2, klt, kb⟩ := tk
                clear kb
                go_wp2_with fail
                refine bodyPost_ret (v := .tuple #[(Fx.nil : Fx).val, .int .i64 6]) (by simp [results, Try.results37, go_sem, k0, k1, k2]) rfl ?_
                rw [← HS.out]
                rw [parsG, if_neg HG.out]
                exact ⟨Fx.nil, rfl, ⟨rfl, rfl, rfl⟩, Fx.nil_ok _, set3g bw (by omega)⟩
              · have HG : Hid (goodL (bl A) ∧ goodL (bl B)) := Lib.hid ⟨hga.2 h0, hgb.2 ⟨hbd, hfl⟩⟩
                have h00 : ((n : Int) == 0) = false := beq_eq_false_iff_ne.2 (by omega)
                clear hn htk hbA hla hga hm hml hbB hlb hgb HS0 h0
                go_wp2_with fail
                refine hm0.mono ?_
                rintro e wn' ⟨rfl, rfl⟩
                go_wp2_with fail
                refine hm1.mono ?_
                rintro e wn' ⟨rfl, rfl⟩
                go_wp2_with fail
                obtain ⟨RA, EA, hpa⟩ : ∃ RA EA, parseS (bl A) = (RA, EA) := ⟨_, _, rfl⟩
                obtain ⟨RB, EB, hpb⟩ : ∃ RB EB, parseS (bl B) = (RB, EB) := ⟨_, _, rfl⟩
                have HPA := Lib.hid hpa
                have HPB := Lib.hid hpb
                clear hpa hpb
                refine (rparse_any _ A RA EA sza HPA.out).mono ?_
                rintro e wn ⟨AN, cN, rfl, na, bb⟩
                try replace bx := bx.below bb
                try replace by_ := by_.below bb
                try replace bk := bk.below bb
                try replace okx := okx.below bb
                try replace oky := oky.below bb
                try replace ok1 := ok1.below bb
                try replace ok2 := ok2.below bb
                try replace ok3 := ok3.below bb
                try replace na := na.below bb
                try replace nb := nb.below bb
                try replace nc := nc.below bb
                try replace nd := nd.below bb
                try replace ne := ne.below bb
                replace bw := below_on bw bb bw.size
                clear bb
                go_wp2_with fail
                refine (rparse_any _ B RB EB szb HPB.out).mono ?_
                rintro e wn ⟨AD, cD, rfl, nb, bb⟩
                try replace bx := bx.below bb
                try replace by_ := by_.below bb
                try replace bk := bk.below bb
                try replace okx := okx.below bb
                try replace oky := oky.below bb
                try replace ok1 := ok1.below bb
                try replace ok2 := ok2.below bb
                try replace ok3 := ok3.below bb
                try replace na := na.below bb
                try replace nb := nb.below bb
                try replace nc := nc.below bb
                try replace nd := nd.below bb
                try replace ne := ne.below bb
                replace bw := below_on bw bb bw.size
                clear bb
                by_cases ha0 : EA = 0
                · by_cases hb0 : EB = 0
                  · have la := parseS_lim (bl A) (by rw [HPA.out]; exact ha0)
                    have lb := parseS_lim (bl B) (by rw [HPB.out]; exact hb0)
                    rw [HPA.out] at la
                    rw [HPB.out] at lb
                    have la1 : (lim (nv RA)).length ≤ 512 := la.1
                    have la2 : RA.length ≤ 512 := la.2
                    have lb1 : (lim (nv RB)).length ≤ 512 := lb.1
                    have lb2 : RB.length ≤ 512 := lb.2
                    have HA0 := Lib.hid ha0
                    have HB0 := Lib.hid hb0
                    clear la lb
                    have hcn := parseS_canon (bl B) (by rw [HPB.out]; exact hb0)
                    rw [HPB.out] at hcn
                    have hcn2 : RB.length = 0 ↔ nv RB = 0 := hcn
                    clear hcn
                    by_cases hz : nv RB = 0
                    · have hbz : RB.length = 0 := hcn2.2 hz
                      have HZ := Lib.hid hz
                      clear hz hcn2
                      skip
                      have tk := bk
                      obtain ⟨k0, k1, k2, kf0, kf1, kf2, klt, kb⟩ := tk
                      clear kb
                      go_wp2_with fail
                      refine bodyPost_ret (v := .tuple #[(Fx.nil : Fx).val, .int .i64 3]) (by simp [results, Try.results37, go_sem, k0, k1, k2]) rfl ?_
                      rw [← HS.out]
                      rw [parsG, if_pos HG.out, valS, HPA.out, HPB.out, if_neg (no2 HA0.out HB0.out), if_pos HZ.out]
                      exact ⟨Fx.nil, rfl, ⟨rfl, rfl, rfl⟩, Fx.nil_ok _, set3g bw (by omega)⟩
                    · have hbz : ((RB.length : Int) == 0) = false := beq_eq_false_iff_ne.2 (by have := mt hcn2.1 hz; omega)
                      have HZ : Hid (¬ nv RB = 0) := hz
                      clear hz hcn2
                      go_wp2_with fail
                      refine (rflowest_any _ false AN AD cN cD _ _ RA RB na nb rfl rfl HZ.out (by omega) (by omega) la1 lb1).mono ?_
                      rintro e wn ⟨x0, rfl, hs0, ok0, bb⟩
                      have HF0 := Lib.hid (low_fits hs0 HZ.out la1 lb1)
                      clear hs0
                      try replace bx := bx.below bb
                      try replace by_ := by_.below bb
                      try replace bk := bk.below bb
                      try replace okx := okx.below bb
                      try replace oky := oky.below bb
                      try replace ok1 := ok1.below bb
                      try replace ok2 := ok2.below bb
                      try replace ok3 := ok3.below bb
                      try replace na := na.below bb
                      try replace nb := nb.below bb
                      try replace nc := nc.below bb
                      try replace nd := nd.below bb
                      try replace ne := ne.below bb
                      replace bw := below_on bw bb bw.size
                      clear bb
                      go_wp2_with fail
                      refine (rffits_any _ x0 _ ok0 HF0.out.2.1 HF0.out.2.2 HF0.out.1).mono ?_
                      rintro e wn ⟨x1, rfl, hs1, ok1, bb⟩
                      have HS1 := Lib.hid hs1
                      clear hs1
                      try replace bx := bx.below bb
                      try replace by_ := by_.below bb
                      try replace bk := bk.below bb
                      try replace okx := okx.below bb
                      try replace oky := oky.below bb
                      try replace ok1 := ok1.below bb
                      try replace ok2 := ok2.below bb
                      try replace ok3 := ok3.below bb
                      try replace na := na.below bb
                      try replace nb := nb.below bb
                      try replace nc := nc.below bb
                      try replace nd := nd.below bb
                      try replace ne := ne.below bb
                      replace bw := below_on bw bb bw.size
                      clear bb
                      have tk := bk
                      obtain ⟨k0, k1, k2, kf0, kf1, kf2, klt, kb⟩ := tk
                      clear kb
                      go_wp2_with fail
                      refine bodyPost_ret (v := .tuple #[(x1 : Fx).val, .int .i64 (frS (qv false (nv RA) (nv RB))).2.2.2]) (by simp [results, Try.results37, go_sem, k0, k1, k2]) rfl ?_
                      have hSS : S = frS (qv false (nv RA) (nv RB)) := by
                        rw [← HS.out, parsG, if_pos HG.out, valS, HPA.out, HPB.out, if_neg (no2 HA0.out HB0.out), if_neg HZ.out]
                      rw [hSS]
                      exact ⟨x1, rfl, HS1.out, set3_ok ok1 bk rfl rfl rfl, set3g bw (by omega)⟩
                  · have hb1 : (EB == 0) = false := beq_eq_false_iff_ne.2 hb0
                    have hb2 : (EB != 0) = true := bne_iff_ne.2 hb0
                    have HB0 : Hid (¬ EB = 0) := hb0
                    have HA0 := Lib.hid ha0
                    clear hb0
                    skip
                    have tk := bk
                    obtain ⟨k0, k1, k2, kf0, kf1, kf2, klt, kb⟩ := tk
                    clear kb
                    go_wp2_with fail
                    refine bodyPost_ret (v := .tuple #[(Fx.nil : Fx).val, .int .i64 2]) (by simp [results, Try.results37, go_sem, k0, k1, k2]) rfl ?_
                    rw [← HS.out]
                    rw [parsG, if_pos HG.out, valS, HPA.out, HPB.out, if_pos (.inr HB0.out)]
                    exact ⟨Fx.nil, rfl, ⟨rfl, rfl, rfl⟩, Fx.nil_ok _, set3g bw (by omega)⟩
                · have hb1 : (EA == 0) = false := beq_eq_false_iff_ne.2 ha0
                  have hb2 : (EA != 0) = true := bne_iff_ne.2 ha0
                  have HA0 : Hid (¬ EA = 0) := ha0
                  clear ha0
                  skip
                  have tk := bk
                  obtain ⟨k0, k1, k2, kf0, kf1, kf2, klt, kb⟩ := tk
                  clear kb
                  go_wp2_with fail
                  refine bodyPost_ret (v := .tuple #[(Fx.nil : Fx).val, .int .i64 2]) (by simp [results, Try.results37, go_sem, k0, k1, k2]) rfl ?_
                  rw [← HS.out]
                  rw [parsG, if_pos HG.out, valS, HPA.out, HPB.out, if_pos (.inl HA0.out)]
                  exact ⟨Fx.nil, rfl, ⟨rfl, rfl, rfl⟩, Fx.nil_ok _, set3g bw (by omega)⟩
            · have hf1 : (((n : Int) + 1 + (m : Int)) != ((s).size : Int)) = true := by rw [bne_iff_ne]; omega
              have HG : Hid (¬ (goodL (bl A) ∧ goodL (bl B))) := Lib.hid (fun h => hfl (hgb.1 h.2).2)
              clear hn htk hbA hla hga hm hml hbB hlb hgb HS0
              go_wp2_with fail
              refine hm0.mono ?_
              rintro e wn' ⟨rfl, rfl⟩
              go_wp2_with fail
              refine hm1.mono ?_
              rintro e wn' ⟨rfl, rfl⟩
              have tk := bk
              obtain ⟨k0, k1, k2, kf0, kf1, kf2, klt, kb⟩ := tk
              clear kb
              go_wp2_with fail
              refine bodyPost_ret (v := .tuple #[(Fx.nil : Fx).val, .int .i64 6]) (by simp [results, Try.results37, go_sem, k0, k1, k2]) rfl ?_
              rw [← HS.out]
              rw [parsG, if_neg HG.out]
              exact ⟨Fx.nil, rfl, ⟨rfl, rfl, rfl⟩, Fx.nil_ok _, set3g bw (by omega)⟩
        · have h47b : (((s)[n].toNat : Int) == 47) = false := beq_eq_false_iff_ne.2 (by omega)
          have h47c : (((s)[n].toNat : Int) != 47) = true := bne_iff_ne.2 (by omega)
          have HS : Hid (errF 6 = S) := Lib.hid (by
            rw [← HS0.out, splitF, hn, if_neg (fun h => h47 (by rw [List.getElem?_eq_getElem (by rw [bl_len]; exact hlt), bl_at _ n hlt] at h; exact Option.some.inj h)), parsG, if_neg]
            intro h
            have := h.1.2
            rw [hn, bl_len] at this
            omega)
          clear hn htk hbA hla hga hm hml hbB hlb hgb HS0
          go_wp2_with fail
          refine hm0.mono ?_
          rintro e wn' ⟨rfl, rfl⟩
          go_wp2_with fail
          refine hm1.mono ?_
          rintro e wn' ⟨rfl, rfl⟩
          have tk := bk
          obtain ⟨k0, k1, k2, kf0, kf1, kf2, klt, kb⟩ := tk
          clear kb
          go_wp2_with fail
          refine bodyPost_ret (v := .tuple #[(Fx.nil : Fx).val, .int .i64 6]) (by simp [results, Try.results37, go_sem, k0, k1, k2]) rfl ?_
          rw [← HS.out]
          skip
          exact ⟨Fx.nil, rfl, ⟨rfl, rfl, rfl⟩, Fx.nil_ok _, set3g bw (by omega)⟩
      · have hm0 := rdigits_any wn (s) 0 n hsz (by omega) HN.out
        have hbA2 : bl A = bl s := by rw [hbA, List.take_of_length_le (by rw [bl_len]; omega)]
        obtain ⟨B, hB⟩ : ∃ B, (⟨#[49]⟩ : ByteArray) = B := ⟨_, rfl⟩
        have hbB : bl B = [49] := by rw [← hB]; rfl
        have hgb : goodL (bl B) := by rw [hbB]; decide
        have szb : B.size ≤ 9223372036854775807 := by rw [← bl_len, hbB]; simp
        have HS : Hid (parsG false (bl A) (bl B) = S) := Lib.hid (by rw [← HS0.out, splitF, hn, if_neg (by rw [List.getElem?_eq_none (by rw [bl_len]; omega)]; simp), hbA2, hbB])
        by_cases h0 : n = 0
        · have HG : Hid (¬ (goodL (bl A) ∧ goodL (bl B))) := Lib.hid (fun h => (hga.1 h.1) h0)
          have h00 : ((n : Int) == 0) = true := by rw [h0]; rfl
          clear hn htk hbA hla hga hbB hgb hbA2 HS0 h0
          go_wp2_with fail
          refine hm0.mono ?_
          rintro e wn' ⟨rfl, rfl⟩
          have tk := bk
          obtain ⟨k0, k1, k2, kf0, kf1, kf2, klt, kb⟩ := tk
          clear kb
          go_wp2_with fail
          refine bodyPost_ret (v := .tuple #[(Fx.nil : Fx).val, .int .i64 6]) (by simp [results, Try.results37, go_sem, k0, k1, k2]) rfl ?_
          rw [← HS.out]
          rw [parsG, if_neg HG.out]
          exact ⟨Fx.nil, rfl, ⟨rfl, rfl, rfl⟩, Fx.nil_ok _, set3g bw (by omega)⟩
        · have HG : Hid (goodL (bl A) ∧ goodL (bl B)) := Lib.hid ⟨hga.2 h0, hgb⟩
          have h00 : ((n : Int) == 0) = false := beq_eq_false_iff_ne.2 (by omega)
          clear hn htk hbA hla hga hbB hgb hbA2 HS0 h0
          go_wp2_with fail
          refine hm0.mono ?_
          rintro e wn' ⟨rfl, rfl⟩
          go_wp2_with fail
          obtain ⟨RA, EA, hpa⟩ : ∃ RA EA, parseS (bl A) = (RA, EA) := ⟨_, _, rfl⟩
          obtain ⟨RB, EB, hpb⟩ : ∃ RB EB, parseS (bl B) = (RB, EB) := ⟨_, _, rfl⟩
          have HPA := Lib.hid hpa
          have HPB := Lib.hid hpb
          clear hpa hpb
          refine (rparse_any _ A RA EA sza HPA.out).mono ?_
          rintro e wn ⟨AN, cN, rfl, na, bb⟩
          try replace bx := bx.below bb
          try replace by_ := by_.below bb
          try replace bk := bk.below bb
          try replace okx := okx.below bb
          try replace oky := oky.below bb
          try replace ok1 := ok1.below bb
          try replace ok2 := ok2.below bb
          try replace ok3 := ok3.below bb
          try replace na := na.below bb
          try replace nb := nb.below bb
          try replace nc := nc.below bb
          try replace nd := nd.below bb
          try replace ne := ne.below bb
          replace bw := below_on bw bb bw.size
          clear bb
          go_wp2_with fail
          refine (rparse_any _ B RB EB szb HPB.out).mono ?_
          rintro e wn ⟨AD, cD, rfl, nb, bb⟩
          try replace bx := bx.below bb
          try replace by_ := by_.below bb
          try replace bk := bk.below bb
          try replace okx := okx.below bb
          try replace oky := oky.below bb
          try replace ok1 := ok1.below bb
          try replace ok2 := ok2.below bb
          try replace ok3 := ok3.below bb
          try replace na := na.below bb
          try replace nb := nb.below bb
          try replace nc := nc.below bb
          try replace nd := nd.below bb
          try replace ne := ne.below bb
          replace bw := below_on bw bb bw.size
          clear bb
          by_cases ha0 : EA = 0
          · by_cases hb0 : EB = 0
            · have la := parseS_lim (bl A) (by rw [HPA.out]; exact ha0)
              have lb := parseS_lim (bl B) (by rw [HPB.out]; exact hb0)
              rw [HPA.out] at la
              rw [HPB.out] at lb
              have la1 : (lim (nv RA)).length ≤ 512 := la.1
              have la2 : RA.length ≤ 512 := la.2
              have lb1 : (lim (nv RB)).length ≤ 512 := lb.1
              have lb2 : RB.length ≤ 512 := lb.2
              have HA0 := Lib.hid ha0
              have HB0 := Lib.hid hb0
              clear la lb
              have hcn := parseS_canon (bl B) (by rw [HPB.out]; exact hb0)
              rw [HPB.out] at hcn
              have hcn2 : RB.length = 0 ↔ nv RB = 0 := hcn
              clear hcn
              by_cases hz : nv RB = 0
              · have hbz : RB.length = 0 := hcn2.2 hz
                have HZ := Lib.hid hz
                clear hz hcn2
                skip
                have tk := bk
                obtain ⟨k0, k1, k2, kf0, kf1, kf2, klt, kb⟩ := tk
                clear kb
                go_wp2_with fail
                refine bodyPost_ret (v := .tuple #[(Fx.nil : Fx).val, .int .i64 3]) (by simp [results, Try.results37, go_sem, k0, k1, k2]) rfl ?_
                rw [← HS.out]
                rw [parsG, if_pos HG.out, valS, HPA.out, HPB.out, if_neg (no2 HA0.out HB0.out), if_pos HZ.out]
                exact ⟨Fx.nil, rfl, ⟨rfl, rfl, rfl⟩, Fx.nil_ok _, set3g bw (by omega)⟩
              · have hbz : ((RB.length : Int) == 0) = false := beq_eq_false_iff_ne.2 (by have := mt hcn2.1 hz; omega)
                have HZ : Hid (¬ nv RB = 0) := hz
                clear hz hcn2
                go_wp2_with fail
                refine (rflowest_any _ false AN AD cN cD _ _ RA RB na nb rfl rfl HZ.out (by omega) (by omega) la1 lb1).mono ?_
                rintro e wn ⟨x0, rfl, hs0, ok0, bb⟩
                have HF0 := Lib.hid (low_fits hs0 HZ.out la1 lb1)
                clear hs0
                try replace bx := bx.below bb
                try replace by_ := by_.below bb
                try replace bk := bk.below bb
                try replace okx := okx.below bb
                try replace oky := oky.below bb
                try replace ok1 := ok1.below bb
                try replace ok2 := ok2.below bb
                try replace ok3 := ok3.below bb
                try replace na := na.below bb
                try replace nb := nb.below bb
                try replace nc := nc.below bb
                try replace nd := nd.below bb
                try replace ne := ne.below bb
                replace bw := below_on bw bb bw.size
                clear bb
                go_wp2_with fail
                refine (rffits_any _ x0 _ ok0 HF0.out.2.1 HF0.out.2.2 HF0.out.1).mono ?_
                rintro e wn ⟨x1, rfl, hs1, ok1, bb⟩
                have HS1 := Lib.hid hs1
                clear hs1
                try replace bx := bx.below bb
                try replace by_ := by_.below bb
                try replace bk := bk.below bb
                try replace okx := okx.below bb
                try replace oky := oky.below bb
                try replace ok1 := ok1.below bb
                try replace ok2 := ok2.below bb
                try replace ok3 := ok3.below bb
                try replace na := na.below bb
                try replace nb := nb.below bb
                try replace nc := nc.below bb
                try replace nd := nd.below bb
                try replace ne := ne.below bb
                replace bw := below_on bw bb bw.size
                clear bb
                have tk := bk
                obtain ⟨k0, k1, k2, kf0, kf1, kf2, klt, kb⟩ := tk
                clear kb
                go_wp2_with fail
                refine bodyPost_ret (v := .tuple #[(x1 : Fx).val, .int .i64 (frS (qv false (nv RA) (nv RB))).2.2.2]) (by simp [results, Try.results37, go_sem, k0, k1, k2]) rfl ?_
                have hSS : S = frS (qv false (nv RA) (nv RB)) := by
                  rw [← HS.out, parsG, if_pos HG.out, valS, HPA.out, HPB.out, if_neg (no2 HA0.out HB0.out), if_neg HZ.out]
                rw [hSS]
                exact ⟨x1, rfl, HS1.out, set3_ok ok1 bk rfl rfl rfl, set3g bw (by omega)⟩
            · have hb1 : (EB == 0) = false := beq_eq_false_iff_ne.2 hb0
              have hb2 : (EB != 0) = true := bne_iff_ne.2 hb0
              have HB0 : Hid (¬ EB = 0) := hb0
              have HA0 := Lib.hid ha0
              clear hb0
              skip
              have tk := bk
              obtain ⟨k0, k1, k2, kf0, kf1, kf2, klt, kb⟩ := tk
              clear kb
              go_wp2_with fail
              refine bodyPost_ret (v := .tuple #[(Fx.nil : Fx).val, .int .i64 2]) (by simp [results, Try.results37, go_sem, k0, k1, k2]) rfl ?_
              rw [← HS.out]
              rw [parsG, if_pos HG.out, valS, HPA.out, HPB.out, if_pos (.inr HB0.out)]
              exact ⟨Fx.nil, rfl, ⟨rfl, rfl, rfl⟩, Fx.nil_ok _, set3g bw (by omega)⟩
          · have hb1 : (EA == 0) = false := beq_eq_false_iff_ne.2 ha0
            have hb2 : (EA != 0) = true := bne_iff_ne.2 ha0
            have HA0 : Hid (¬ EA = 0) := ha0
            clear ha0
            skip
            have tk := bk
            obtain ⟨k0, k1, k2, kf0, kf1, kf2, klt, kb⟩ := tk
            clear kb
            go_wp2_with fail
            refine bodyPost_ret (v := .tuple #[(Fx.nil : Fx).val, .int .i64 2]) (by simp [results, Try.results37, go_sem, k0, k1, k2]) rfl ?_
            rw [← HS.out]
            rw [parsG, if_pos HG.out, valS, HPA.out, HPB.out, if_pos (.inl HA0.out)]
            exact ⟨Fx.nil, rfl, ⟨rfl, rfl, rfl⟩, Fx.nil_ok _, set3g bw (by omega)⟩
    · have h1 : 0 < s.size := by omega
      have he : s.toList.isEmpty = false := by
        rw [str_empty]; apply decide_eq_false; intro h; exact h0 (by rw [← bl_len, h]; rfl)
      have hm2 : ¬ s[0].toNat = 45 := fun h => hm (by rw [List.getElem?_eq_getElem (by rw [bl_len]; exact h1), bl_at s 0 h1, h])
      have hm3 : ((s[0].toNat : Int) == 45) = false := beq_eq_false_iff_ne.2 (by omega)
      clear hm hS
      skip
      go_enter Try.func37, Try.ntmps37
      go_upto_region 1 with fail
      have bw := (Below.refl w.heap.size w).alloc (Nat.le_refl _) (.cells #[.bool false, .slice none 0 0, .slice none 0 0] 25)
      have bk := bk3_new w
      generalize (w.alloc (.cells #[.bool false, .slice none 0 0, .slice none 0 0] 25)) = wn at bw bk ⊢
      go_upto_region 4 with fail
      clear he hm2 hm3
      skip
      obtain ⟨n, hn⟩ : ∃ n, dgs (bl s) = n := ⟨_, rfl⟩
      have HN : Hid (dgs ((bl s).drop 0) = n) := Lib.hid hn
      have hnl := (dgs_is (bl s)).le
      have htk := dgs_take (bl s)
      rw [hn, bl_len] at hnl
      rw [hn] at htk
      obtain ⟨A, hA⟩ : ∃ A, (s).extract 0 n = A := ⟨_, rfl⟩
      have hbA : bl A = (bl s).take n := by rw [← hA, bl_ext]; rfl
      have hla : (bl A).length = n := by rw [hbA, List.length_take, bl_len]; omega
      have sza : A.size ≤ 9223372036854775807 := by rw [← bl_len, hla]; omega
      have hga : goodL (bl A) ↔ n ≠ 0 := by
        have e : dgs (bl A) = n := by rw [hbA]; exact htk
        constructor
        · intro h h0; exact h.1 (List.eq_nil_of_length_eq_zero (by omega))
        · intro h; exact ⟨fun h1 => h (by rw [← hla, h1]; rfl), by rw [e, hla]⟩
      by_cases hlt : n < (s).size
      · have hw1 : IntKind.i64.wrap ((n : Int) + 1) = (n : Int) + 1 := IntWalk.i64_in _ (by omega)
        obtain ⟨m, hm⟩ : ∃ m, dgs ((bl s).drop (n + 1)) = m := ⟨_, rfl⟩
        have HM := Lib.hid hm
        have hml := (dgs_is ((bl s).drop (n + 1))).le
        rw [hm, List.length_drop, bl_len] at hml
        obtain ⟨B, hB⟩ : ∃ B, (s).extract (n + 1) (s).size = B := ⟨_, rfl⟩
        have hbB : bl B = (bl s).drop (n + 1) := by rw [← hB, bl_ext, List.take_of_length_le (by rw [bl_len]; exact Nat.le_refl _)]
        have hlb : (bl B).length = (s).size - (n + 1) := by rw [hbB, List.length_drop, bl_len]
        have szb : B.size ≤ 9223372036854775807 := by rw [← bl_len, hlb]; omega
        have hgb : goodL (bl B) ↔ m ≠ 0 ∧ n + 1 + m = (s).size := by
          have e : dgs (bl B) = m := by rw [hbB]; exact hm
          constructor
          · intro h
            have h2 := h.2
            rw [e, hlb] at h2
            have h3 : (bl B).length ≠ 0 := fun h3 => h.1 (List.eq_nil_of_length_eq_zero h3)
            omega
          · intro h
            exact ⟨fun h1 => by have h2 : (bl B).length = 0 := (by rw [h1]; rfl); omega, by rw [e, hlb]; omega⟩
        have hw2 : IntKind.i64.wrap ((n : Int) + 1 + (m : Int)) = (n : Int) + 1 + (m : Int) := IntWalk.i64_in _ (by omega)
        have hw3 : (((n + 1 : Nat) : Int)) = (n : Int) + 1 := by omega
        have hm0 := rdigits_any wn (s) 0 n hsz (by omega) HN.out
        have hm1 := rdigits_any wn (s) (n + 1) m hsz (by omega) HM.out
        rw [hw3] at hm1
        by_cases h47 : (s)[n].toNat = 47
        · have HS : Hid (parsG false (bl A) (bl B) = S) := Lib.hid (by rw [← HS0.out, splitF, hn, if_pos (by rw [List.getElem?_eq_getElem (by rw [bl_len]; exact hlt), bl_at _ n hlt, h47]), hbA, hbB])
          by_cases hbd : m = 0
          · have HG : Hid (¬ (goodL (bl A) ∧ goodL (bl B))) := Lib.hid (fun h => (hgb.1 h.2).1 hbd)
            subst hbd
            clear hn htk hbA hla hga hm hml hbB hlb hgb HS0
            go_wp2_with fail
            refine hm0.mono ?_
            rintro e wn' ⟨rfl, rfl⟩
            go_wp2_with fail
            refine hm1.mono ?_
            rintro e wn' ⟨rfl, rfl⟩
            have tk := bk
            obtain ⟨k0, k1, k2, kf0, kf1, kf2, klt, kb⟩ := tk
            clear kb
            go_wp2_with fail
            refine bodyPost_ret (v := .tuple #[(Fx.nil : Fx).val, .int .i64 6]) (by simp [results, Try.results37, go_sem, k0, k1, k2]) rfl ?_
            rw [← HS.out]
            rw [parsG, if_neg HG.out]
            exact ⟨Fx.nil, rfl, ⟨rfl, rfl, rfl⟩, Fx.nil_ok _, set3g bw (by omega)⟩
          · have hbd1 : ((m : Int) == 0) = false := beq_eq_false_iff_ne.2 (by omega)
            by_cases hfl : n + 1 + m = (s).size
            · have hf1 : (((n : Int) + 1 + (m : Int)) != ((s).size : Int)) = false := by rw [bne_eq_false_iff_eq]; omega
              have hf2 : ((n : Int) + 1 + (m : Int)) = ((s).size : Int) := by omega
              by_cases h0 : n = 0
              · have HG : Hid (¬ (goodL (bl A) ∧ goodL (bl B))) := Lib.hid (fun h => (hga.1 h.1) h0)
                have h00 : ((n : Int) == 0) = true := by rw [h0]; rfl
                clear hn htk hbA hla hga hm hml hbB hlb hgb HS0 h0
                go_wp2_with fail
                refine hm0.mono ?_
                rintro e wn' ⟨rfl, rfl⟩
                go_wp2_with fail
                refine hm1.mono ?_
                rintro e wn' ⟨rfl, rfl⟩
                have tk := bk
                obtain ⟨k0, k1, k2, kf0, kf1, kf2, klt, kb⟩ := tk
                clear kb
                go_wp2_with fail
                refine bodyPost_ret (v := .tuple #[(Fx.nil : Fx).val, .int .i64 6]) (by simp [results, Try.results37, go_sem, k0, k1, k2]) rfl ?_
                rw [← HS.out]
                rw [parsG, if_neg HG.out]
                exact ⟨Fx.nil, rfl, ⟨rfl, rfl, rfl⟩, Fx.nil_ok _, set3g bw (by omega)⟩
              · have HG : Hid (goodL (bl A) ∧ goodL (bl B)) := Lib.hid ⟨hga.2 h0, hgb.2 ⟨hbd, hfl⟩⟩
                have h00 : ((n : Int) == 0) = false := beq_eq_false_iff_ne.2 (by omega)
                clear hn htk hbA hla hga hm hml hbB hlb hgb HS0 h0
                go_wp2_with fail
                refine hm0.mono ?_
                rintro e wn' ⟨rfl, rfl⟩
                go_wp2_with fail
                refine hm1.mono ?_
                rintro e wn' ⟨rfl, rfl⟩
                go_wp2_with fail
                obtain ⟨RA, EA, hpa⟩ : ∃ RA EA, parseS (bl A) = (RA, EA) := ⟨_, _, rfl⟩
                obtain ⟨RB, EB, hpb⟩ : ∃ RB EB, parseS (bl B) = (RB, EB) := ⟨_, _, rfl⟩
                have HPA := Lib.hid hpa
                have HPB := Lib.hid hpb
                clear hpa hpb
                refine (rparse_any _ A RA EA sza HPA.out).mono ?_
                rintro e wn ⟨AN, cN, rfl, na, bb⟩
                try replace bx := bx.below bb
                try replace by_ := by_.below bb
                try replace bk := bk.below bb
                try replace okx := okx.below bb
                try replace oky := oky.below bb
                try replace ok1 := ok1.below bb
                try replace ok2 := ok2.below bb
                try replace ok3 := ok3.below bb
                try replace na := na.below bb
                try replace nb := nb.below bb
                try replace nc := nc.below bb
                try replace nd := nd.below bb
                try replace ne := ne.below bb
                replace bw := below_on bw bb bw.size
                clear bb
                go_wp2_with fail
                refine (rparse_any _ B RB EB szb HPB.out).mono ?_
                rintro e wn ⟨AD, cD, rfl, nb, bb⟩
                try replace bx := bx.below bb
                try replace by_ := by_.below bb
                try replace bk := bk.below bb
                try replace okx := okx.below bb
                try replace oky := oky.below bb
                try replace ok1 := ok1.below bb
                try replace ok2 := ok2.below bb
                try replace ok3 := ok3.below bb
                try replace na := na.below bb
                try replace nb := nb.below bb
                try replace nc := nc.below bb
                try replace nd := nd.below bb
                try replace ne := ne.below bb
                replace bw := below_on bw bb bw.size
                clear bb
                by_cases ha0 : EA = 0
                · by_cases hb0 : EB = 0
                  · have la := parseS_lim (bl A) (by rw [HPA.out]; exact ha0)
                    have lb := parseS_lim (bl B) (by rw [HPB.out]; exact hb0)
                    rw [HPA.out] at la
                    rw [HPB.out] at lb
                    have la1 : (lim (nv RA)).length ≤ 512 := la.1
                    have la2 : RA.length ≤ 512 := la.2
                    have lb1 : (lim (nv RB)).length ≤ 512 := lb.1
                    have lb2 : RB.length ≤ 512 := lb.2
                    have HA0 := Lib.hid ha0
                    have HB0 := Lib.hid hb0
                    clear la lb
                    have hcn := parseS_canon (bl B) (by rw [HPB.out]; exact hb0)
                    rw [HPB.out] at hcn
                    have hcn2 : RB.length = 0 ↔ nv RB = 0 := hcn
                    clear hcn
                    by_cases hz : nv RB = 0
                    · have hbz : RB.length = 0 := hcn2.2 hz
                      have HZ := Lib.hid hz
                      clear hz hcn2
                      skip
                      have tk := bk
                      obtain ⟨k0, k1, k2, kf0, kf1, kf2, klt, kb⟩ := tk
                      clear kb
                      go_wp2_with fail
                      refine bodyPost_ret (v := .tuple #[(Fx.nil : Fx).val, .int .i64 3]) (by simp [results, Try.results37, go_sem, k0, k1, k2]) rfl ?_
                      rw [← HS.out]
                      rw [parsG, if_pos HG.out, valS, HPA.out, HPB.out, if_neg (no2 HA0.out HB0.out), if_pos HZ.out]
                      exact ⟨Fx.nil, rfl, ⟨rfl, rfl, rfl⟩, Fx.nil_ok _, set3g bw (by omega)⟩
                    · have hbz : ((RB.length : Int) == 0) = false := beq_eq_false_iff_ne.2 (by have := mt hcn2.1 hz; omega)
                      have HZ : Hid (¬ nv RB = 0) := hz
                      clear hz hcn2
                      go_wp2_with fail
                      refine (rflowest_any _ false AN AD cN cD _ _ RA RB na nb rfl rfl HZ.out (by omega) (by omega) la1 lb1).mono ?_
                      rintro e wn ⟨x0, rfl, hs0, ok0, bb⟩
                      have HF0 := Lib.hid (low_fits hs0 HZ.out la1 lb1)
                      clear hs0
                      try replace bx := bx.below bb
                      try replace by_ := by_.below bb
                      try replace bk := bk.below bb
                      try replace okx := okx.below bb
                      try replace oky := oky.below bb
                      try replace ok1 := ok1.below bb
                      try replace ok2 := ok2.below bb
                      try replace ok3 := ok3.below bb
                      try replace na := na.below bb
                      try replace nb := nb.below bb
                      try replace nc := nc.below bb
                      try replace nd := nd.below bb
                      try replace ne := ne.below bb
                      replace bw := below_on bw bb bw.size
                      clear bb
                      go_wp2_with fail
                      refine (rffits_any _ x0 _ ok0 HF0.out.2.1 HF0.out.2.2 HF0.out.1).mono ?_
                      rintro e wn ⟨x1, rfl, hs1, ok1, bb⟩
                      have HS1 := Lib.hid hs1
                      clear hs1
                      try replace bx := bx.below bb
                      try replace by_ := by_.below bb
                      try replace bk := bk.below bb
                      try replace okx := okx.below bb
                      try replace oky := oky.below bb
                      try replace ok1 := ok1.below bb
                      try replace ok2 := ok2.below bb
                      try replace ok3 := ok3.below bb
                      try replace na := na.below bb
                      try replace nb := nb.below bb
                      try replace nc := nc.below bb
                      try replace nd := nd.below bb
                      try replace ne := ne.below bb
                      replace bw := below_on bw bb bw.size
                      clear bb
                      have tk := bk
                      obtain ⟨k0, k1, k2, kf0, kf1, kf2, klt, kb⟩ := tk
                      clear kb
                      go_wp2_with fail
                      refine bodyPost_ret (v := .tuple #[(x1 : Fx).val, .int .i64 (frS (qv false (nv RA) (nv RB))).2.2.2]) (by simp [results, Try.results37, go_sem, k0, k1, k2]) rfl ?_
                      have hSS : S = frS (qv false (nv RA) (nv RB)) := by
                        rw [← HS.out, parsG, if_pos HG.out, valS, HPA.out, HPB.out, if_neg (no2 HA0.out HB0.out), if_neg HZ.out]
                      rw [hSS]
                      exact ⟨x1, rfl, HS1.out, set3_ok ok1 bk rfl rfl rfl, set3g bw (by omega)⟩
                  · have hb1 : (EB == 0) = false := beq_eq_false_iff_ne.2 hb0
                    have hb2 : (EB != 0) = true := bne_iff_ne.2 hb0
                    have HB0 : Hid (¬ EB = 0) := hb0
                    have HA0 := Lib.hid ha0
                    clear hb0
                    skip
                    have tk := bk
                    obtain ⟨k0, k1, k2, kf0, kf1, kf2, klt, kb⟩ := tk
                    clear kb
                    go_wp2_with fail
                    refine bodyPost_ret (v := .tuple #[(Fx.nil : Fx).val, .int .i64 2]) (by simp [results, Try.results37, go_sem, k0, k1, k2]) rfl ?_
                    rw [← HS.out]
                    rw [parsG, if_pos HG.out, valS, HPA.out, HPB.out, if_pos (.inr HB0.out)]
                    exact ⟨Fx.nil, rfl, ⟨rfl, rfl, rfl⟩, Fx.nil_ok _, set3g bw (by omega)⟩
                · have hb1 : (EA == 0) = false := beq_eq_false_iff_ne.2 ha0
                  have hb2 : (EA != 0) = true := bne_iff_ne.2 ha0
                  have HA0 : Hid (¬ EA = 0) := ha0
                  clear ha0
                  skip
                  have tk := bk
                  obtain ⟨k0, k1, k2, kf0, kf1, kf2, klt, kb⟩ := tk
                  clear kb
                  go_wp2_with fail
                  refine bodyPost_ret (v := .tuple #[(Fx.nil : Fx).val, .int .i64 2]) (by simp [results, Try.results37, go_sem, k0, k1, k2]) rfl ?_
                  rw [← HS.out]
                  rw [parsG, if_pos HG.out, valS, HPA.out, HPB.out, if_pos (.inl HA0.out)]
                  exact ⟨Fx.nil, rfl, ⟨rfl, rfl, rfl⟩, Fx.nil_ok _, set3g bw (by omega)⟩
            · have hf1 : (((n : Int) + 1 + (m : Int)) != ((s).size : Int)) = true := by rw [bne_iff_ne]; omega
              have HG : Hid (¬ (goodL (bl A) ∧ goodL (bl B))) := Lib.hid (fun h => hfl (hgb.1 h.2).2)
              clear hn htk hbA hla hga hm hml hbB hlb hgb HS0
              go_wp2_with fail
              refine hm0.mono ?_
              rintro e wn' ⟨rfl, rfl⟩
              go_wp2_with fail
              refine hm1.mono ?_
              rintro e wn' ⟨rfl, rfl⟩
              have tk := bk
              obtain ⟨k0, k1, k2, kf0, kf1, kf2, klt, kb⟩ := tk
              clear kb
              go_wp2_with fail
              refine bodyPost_ret (v := .tuple #[(Fx.nil : Fx).val, .int .i64 6]) (by simp [results, Try.results37, go_sem, k0, k1, k2]) rfl ?_
              rw [← HS.out]
              rw [parsG, if_neg HG.out]
              exact ⟨Fx.nil, rfl, ⟨rfl, rfl, rfl⟩, Fx.nil_ok _, set3g bw (by omega)⟩
        · have h47b : (((s)[n].toNat : Int) == 47) = false := beq_eq_false_iff_ne.2 (by omega)
          have h47c : (((s)[n].toNat : Int) != 47) = true := bne_iff_ne.2 (by omega)
          have HS : Hid (errF 6 = S) := Lib.hid (by
            rw [← HS0.out, splitF, hn, if_neg (fun h => h47 (by rw [List.getElem?_eq_getElem (by rw [bl_len]; exact hlt), bl_at _ n hlt] at h; exact Option.some.inj h)), parsG, if_neg]
            intro h
            have := h.1.2
            rw [hn, bl_len] at this
            omega)
          clear hn htk hbA hla hga hm hml hbB hlb hgb HS0
          go_wp2_with fail
          refine hm0.mono ?_
          rintro e wn' ⟨rfl, rfl⟩
          go_wp2_with fail
          refine hm1.mono ?_
          rintro e wn' ⟨rfl, rfl⟩
          have tk := bk
          obtain ⟨k0, k1, k2, kf0, kf1, kf2, klt, kb⟩ := tk
          clear kb
          go_wp2_with fail
          refine bodyPost_ret (v := .tuple #[(Fx.nil : Fx).val, .int .i64 6]) (by simp [results, Try.results37, go_sem, k0, k1, k2]) rfl ?_
          rw [← HS.out]
          skip
          exact ⟨Fx.nil, rfl, ⟨rfl, rfl, rfl⟩, Fx.nil_ok _, set3g bw (by omega)⟩
      · have hm0 := rdigits_any wn (s) 0 n hsz (by omega) HN.out
        have hbA2 : bl A = bl s := by rw [hbA, List.take_of_length_le (by rw [bl_len]; omega)]
        obtain ⟨B, hB⟩ : ∃ B, (⟨#[49]⟩ : ByteArray) = B := ⟨_, rfl⟩
        have hbB : bl B = [49] := by rw [← hB]; rfl
        have hgb : goodL (bl B) := by rw [hbB]; decide
        have szb : B.size ≤ 9223372036854775807 := by rw [← bl_len, hbB]; simp
        have HS : Hid (parsG false (bl A) (bl B) = S) := Lib.hid (by rw [← HS0.out, splitF, hn, if_neg (by rw [List.getElem?_eq_none (by rw [bl_len]; omega)]; simp), hbA2, hbB])
        by_cases h0 : n = 0
        · have HG : Hid (¬ (goodL (bl A) ∧ goodL (bl B))) := Lib.hid (fun h => (hga.1 h.1) h0)
          have h00 : ((n : Int) == 0) = true := by rw [h0]; rfl
          clear hn htk hbA hla hga hbB hgb hbA2 HS0 h0
          go_wp2_with fail
          refine hm0.mono ?_
          rintro e wn' ⟨rfl, rfl⟩
          have tk := bk
          obtain ⟨k0, k1, k2, kf0, kf1, kf2, klt, kb⟩ := tk
          clear kb
          go_wp2_with fail
          refine bodyPost_ret (v := .tuple #[(Fx.nil : Fx).val, .int .i64 6]) (by simp [results, Try.results37, go_sem, k0, k1, k2]) rfl ?_
          rw [← HS.out]
          rw [parsG, if_neg HG.out]
          exact ⟨Fx.nil, rfl, ⟨rfl, rfl, rfl⟩, Fx.nil_ok _, set3g bw (by omega)⟩
        · have HG : Hid (goodL (bl A) ∧ goodL (bl B)) := Lib.hid ⟨hga.2 h0, hgb⟩
          have h00 : ((n : Int) == 0) = false := beq_eq_false_iff_ne.2 (by omega)
          clear hn htk hbA hla hga hbB hgb hbA2 HS0 h0
          go_wp2_with fail
          refine hm0.mono ?_
          rintro e wn' ⟨rfl, rfl⟩
          go_wp2_with fail
          obtain ⟨RA, EA, hpa⟩ : ∃ RA EA, parseS (bl A) = (RA, EA) := ⟨_, _, rfl⟩
          obtain ⟨RB, EB, hpb⟩ : ∃ RB EB, parseS (bl B) = (RB, EB) := ⟨_, _, rfl⟩
          have HPA := Lib.hid hpa
          have HPB := Lib.hid hpb
          clear hpa hpb
          refine (rparse_any _ A RA EA sza HPA.out).mono ?_
          rintro e wn ⟨AN, cN, rfl, na, bb⟩
          try replace bx := bx.below bb
          try replace by_ := by_.below bb
          try replace bk := bk.below bb
          try replace okx := okx.below bb
          try replace oky := oky.below bb
          try replace ok1 := ok1.below bb
          try replace ok2 := ok2.below bb
          try replace ok3 := ok3.below bb
          try replace na := na.below bb
          try replace nb := nb.below bb
          try replace nc := nc.below bb
          try replace nd := nd.below bb
          try replace ne := ne.below bb
          replace bw := below_on bw bb bw.size
          clear bb
          go_wp2_with fail
          refine (rparse_any _ B RB EB szb HPB.out).mono ?_
          rintro e wn ⟨AD, cD, rfl, nb, bb⟩
          try replace bx := bx.below bb
          try replace by_ := by_.below bb
          try replace bk := bk.below bb
          try replace okx := okx.below bb
          try replace oky := oky.below bb
          try replace ok1 := ok1.below bb
          try replace ok2 := ok2.below bb
          try replace ok3 := ok3.below bb
          try replace na := na.below bb
          try replace nb := nb.below bb
          try replace nc := nc.below bb
          try replace nd := nd.below bb
          try replace ne := ne.below bb
          replace bw := below_on bw bb bw.size
          clear bb
          by_cases ha0 : EA = 0
          · by_cases hb0 : EB = 0
            · have la := parseS_lim (bl A) (by rw [HPA.out]; exact ha0)
              have lb := parseS_lim (bl B) (by rw [HPB.out]; exact hb0)
              rw [HPA.out] at la
              rw [HPB.out] at lb
              have la1 : (lim (nv RA)).length ≤ 512 := la.1
              have la2 : RA.length ≤ 512 := la.2
              have lb1 : (lim (nv RB)).length ≤ 512 := lb.1
              have lb2 : RB.length ≤ 512 := lb.2
              have HA0 := Lib.hid ha0
              have HB0 := Lib.hid hb0
              clear la lb
              have hcn := parseS_canon (bl B) (by rw [HPB.out]; exact hb0)
              rw [HPB.out] at hcn
              have hcn2 : RB.length = 0 ↔ nv RB = 0 := hcn
              clear hcn
              by_cases hz : nv RB = 0
              · have hbz : RB.length = 0 := hcn2.2 hz
                have HZ := Lib.hid hz
                clear hz hcn2
                skip
                have tk := bk
                obtain ⟨k0, k1, k2, kf0, kf1, kf2, klt, kb⟩ := tk
                clear kb
                go_wp2_with fail
                refine bodyPost_ret (v := .tuple #[(Fx.nil : Fx).val, .int .i64 3]) (by simp [results, Try.results37, go_sem, k0, k1, k2]) rfl ?_
                rw [← HS.out]
                rw [parsG, if_pos HG.out, valS, HPA.out, HPB.out, if_neg (no2 HA0.out HB0.out), if_pos HZ.out]
                exact ⟨Fx.nil, rfl, ⟨rfl, rfl, rfl⟩, Fx.nil_ok _, set3g bw (by omega)⟩
              · have hbz : ((RB.length : Int) == 0) = false := beq_eq_false_iff_ne.2 (by have := mt hcn2.1 hz; omega)
                have HZ : Hid (¬ nv RB = 0) := hz
                clear hz hcn2
                go_wp2_with fail
                refine (rflowest_any _ false AN AD cN cD _ _ RA RB na nb rfl rfl HZ.out (by omega) (by omega) la1 lb1).mono ?_
                rintro e wn ⟨x0, rfl, hs0, ok0, bb⟩
                have HF0 := Lib.hid (low_fits hs0 HZ.out la1 lb1)
                clear hs0
                try replace bx := bx.below bb
                try replace by_ := by_.below bb
                try replace bk := bk.below bb
                try replace okx := okx.below bb
                try replace oky := oky.below bb
                try replace ok1 := ok1.below bb
                try replace ok2 := ok2.below bb
                try replace ok3 := ok3.below bb
                try replace na := na.below bb
                try replace nb := nb.below bb
                try replace nc := nc.below bb
                try replace nd := nd.below bb
                try replace ne := ne.below bb
                replace bw := below_on bw bb bw.size
                clear bb
                go_wp2_with fail
                refine (rffits_any _ x0 _ ok0 HF0.out.2.1 HF0.out.2.2 HF0.out.1).mono ?_
                rintro e wn ⟨x1, rfl, hs1, ok1, bb⟩
                have HS1 := Lib.hid hs1
                clear hs1
                try replace bx := bx.below bb
                try replace by_ := by_.below bb
                try replace bk := bk.below bb
                try replace okx := okx.below bb
                try replace oky := oky.below bb
                try replace ok1 := ok1.below bb
                try replace ok2 := ok2.below bb
                try replace ok3 := ok3.below bb
                try replace na := na.below bb
                try replace nb := nb.below bb
                try replace nc := nc.below bb
                try replace nd := nd.below bb
                try replace ne := ne.below bb
                replace bw := below_on bw bb bw.size
                clear bb
                have tk := bk
                obtain ⟨k0, k1, k2, kf0, kf1, kf2, klt, kb⟩ := tk
                clear kb
                go_wp2_with fail
                refine bodyPost_ret (v := .tuple #[(x1 : Fx).val, .int .i64 (frS (qv false (nv RA) (nv RB))).2.2.2]) (by simp [results, Try.results37, go_sem, k0, k1, k2]) rfl ?_
                have hSS : S = frS (qv false (nv RA) (nv RB)) := by
                  rw [← HS.out, parsG, if_pos HG.out, valS, HPA.out, HPB.out, if_neg (no2 HA0.out HB0.out), if_neg HZ.out]
                rw [hSS]
                exact ⟨x1, rfl, HS1.out, set3_ok ok1 bk rfl rfl rfl, set3g bw (by omega)⟩
            · have hb1 : (EB == 0) = false := beq_eq_false_iff_ne.2 hb0
              have hb2 : (EB != 0) = true := bne_iff_ne.2 hb0
              have HB0 : Hid (¬ EB = 0) := hb0
              have HA0 := Lib.hid ha0
              clear hb0
              skip
              have tk := bk
              obtain ⟨k0, k1, k2, kf0, kf1, kf2, klt, kb⟩ := tk
              clear kb
              go_wp2_with fail
              refine bodyPost_ret (v := .tuple #[(Fx.nil : Fx).val, .int .i64 2]) (by simp [results, Try.results37, go_sem, k0, k1, k2]) rfl ?_
              rw [← HS.out]
              rw [parsG, if_pos HG.out, valS, HPA.out, HPB.out, if_pos (.inr HB0.out)]
              exact ⟨Fx.nil, rfl, ⟨rfl, rfl, rfl⟩, Fx.nil_ok _, set3g bw (by omega)⟩
          · have hb1 : (EA == 0) = false := beq_eq_false_iff_ne.2 ha0
            have hb2 : (EA != 0) = true := bne_iff_ne.2 ha0
            have HA0 : Hid (¬ EA = 0) := ha0
            clear ha0
            skip
            have tk := bk
            obtain ⟨k0, k1, k2, kf0, kf1, kf2, klt, kb⟩ := tk
            clear kb
            go_wp2_with fail
            refine bodyPost_ret (v := .tuple #[(Fx.nil : Fx).val, .int .i64 2]) (by simp [results, Try.results37, go_sem, k0, k1, k2]) rfl ?_
            rw [← HS.out]
            rw [parsG, if_pos HG.out, valS, HPA.out, HPB.out, if_pos (.inl HA0.out)]
            exact ⟨Fx.nil, rfl, ⟨rfl, rfl, rfl⟩, Fx.nil_ok _, set3g bw (by omega)⟩
end Go.Proofs.Ytodopppoikdglaa
