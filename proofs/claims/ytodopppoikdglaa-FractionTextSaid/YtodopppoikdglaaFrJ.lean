/- The walks of fraction.row and drydockref02.digits. The walk of fraction.Parse. -/
import Derived.Test.YtodopppoikdglaaRefB
import Derived.Test.YtodopppoikdglaaFrB
import Derived.Lib.Strings
namespace Go.Proofs.Ytodopppoikdglaa
open Go.RowKit

/-- so many digits stand at the beginning, and no more -/
structure Dgs (l : List Nat) (n : Nat) : Prop where
  le : n ≤ l.length
  dig : DigTo l n
  stop : ∀ h : n < l.length, isDig l[n] = false
theorem Dgs.uniq {l : List Nat} {n m : Nat} (h : Dgs l n) (k : Dgs l m) : n = m := by
  have a : ∀ {n m : Nat}, Dgs l n → Dgs l m → ¬ n < m := by
    intro n m h k hlt
    have h1 : n < l.length := by have := k.le; omega
    have h2 := h.stop h1
    have h3 := k.dig n h1 hlt
    rw [h3] at h2; cases h2
  have h1 := a h k
  have h2 := a k h
  omega
/-- the number of digits at the beginning -/
def dgs : List Nat → Nat
  | [] => 0
  | b :: l => if isDig b then dgs l + 1 else 0
theorem dgs_is (l : List Nat) : Dgs l (dgs l) := by
  induction l with
  | nil => exact ⟨Nat.le_refl _, fun j hj => absurd hj (by simp), fun h => absurd h (by simp)⟩
  | cons b l ih =>
    rw [dgs]
    split
    · rename_i hb
      refine ⟨by have := ih.le; simp; omega, ?_, ?_⟩
      · intro j hj hlt
        cases j with
        | zero => exact hb
        | succ j => exact ih.dig j (by simpa using hj) (by omega)
      · intro h
        exact ih.stop (by simpa using h)
    · rename_i hb
      exact ⟨by omega, fun j _ h => absurd h (by omega), fun h => by simpa using hb⟩
theorem Dgs.eq {l : List Nat} {n : Nat} (h : Dgs l n) : n = dgs l := h.uniq (dgs_is l)
theorem drop_at {l : List Nat} {a k : Nat} (h : a + k < l.length) (h2 : k < (l.drop a).length) : (l.drop a)[k] = l[a + k] := by simp
set_option maxRecDepth 100000 in
set_option maxHeartbeats 2000000 in
theorem frow_any (w : World) (s : ByteArray) (n : Nat) (hs : s.size ≤ 9223372036854775807) (hn : dgs (bl s) = n) : Calls Try.prog 71 #[.string s] w fun e w' => e = .returned (.int .i64 (n : Int)) ∧ w = w' := by
  have HN := Lib.hid hn
  have HBL := Lib.hid (bl_len s)
  clear hn
  go_enter Try.func71, Try.ntmps71
  go_wp2_with fail
  go_loop [3] (fun i => ∃ k : Nat, k ≤ s.size ∧ i = .int .i64 k ∧ DigTo (bl s) k) (fun i => s.size - (intOf i).toNat)
  case atStart => exact ⟨0, by omega, rfl, fun j _ h => absurd h (by omega)⟩
  case round =>
    obtain ⟨k, hk, rfl, hd⟩ := hrel
    have HD := Lib.hid hd
    clear hd
    by_cases hlt : k < s.size
    · have hkl : k < (bl s).length := by rw [HBL.out]; exact hlt
      have HA := Lib.hid (bl_at s k hlt hkl)
      by_cases hb1 : 48 ≤ s[k].toNat
      · have hb1' : decide ((48 : Int) ≤ (s[k].toNat : Int)) = true := decide_eq_true (by omega)
        by_cases hb2 : s[k].toNat ≤ 57
        · have hb2' : decide ((s[k].toNat : Int) ≤ 57) = true := decide_eq_true (by omega)
          have HX := Lib.hid (isDig_iff.2 (show 48 ≤ (bl s)[k] ∧ (bl s)[k] ≤ 57 by rw [HA.out]; exact ⟨hb1, hb2⟩))
          go_wp2_with fail
          go_round
          case rel => exact ⟨k + 1, by omega, by go_num, HD.out.step hkl HX.out⟩
          case measure => simp [intOf]; omega
        · have hb2' : decide ((s[k].toNat : Int) ≤ 57) = false := decide_eq_false (by omega)
          have HX := Lib.hid (isDig_false (b := (bl s)[k]) (by rw [HA.out]; omega))
          go_wp2_with fail
          go_ret
          exact ⟨ret_int (by rw [← HN.out]; have := Dgs.eq ⟨Nat.le_of_lt hkl, HD.out, fun _ => HX.out⟩; omega), rfl⟩
      · have hb1' : decide ((48 : Int) ≤ (s[k].toNat : Int)) = false := decide_eq_false (by omega)
        have HX := Lib.hid (isDig_false (b := (bl s)[k]) (by rw [HA.out]; omega))
        go_wp2_with fail
        go_ret
        exact ⟨ret_int (by rw [← HN.out]; have := Dgs.eq ⟨Nat.le_of_lt hkl, HD.out, fun _ => HX.out⟩; omega), rfl⟩
    · go_wp2_with fail
      go_ret
      exact ⟨ret_int (by rw [← HN.out]; have hl := HBL.out; have := Dgs.eq ⟨by omega, HD.out, fun h => absurd h (by omega)⟩; omega), rfl⟩
set_option maxRecDepth 100000 in
set_option maxHeartbeats 2000000 in
theorem rdigits_any (w : World) (s : ByteArray) (a n : Nat) (hs : s.size ≤ 9223372036854775807) (ha : a ≤ s.size) (hn : dgs ((bl s).drop a) = n) : Calls Try.prog 73 #[.string s, .int .i64 (a : Int)] w fun e w' => e = .returned (.int .i64 (n : Int)) ∧ w = w' := by
  have HN := Lib.hid hn
  have HBL := Lib.hid (bl_len s)
  have HDL : Hid (((bl s).drop a).length = s.size - a) := Lib.hid (by rw [List.length_drop, bl_len])
  clear hn
  go_enter Try.func73, Try.ntmps73
  go_wp2_with fail
  go_loop [5] (fun i => ∃ k : Nat, a + k ≤ s.size ∧ i = .int .i64 k ∧ DigTo ((bl s).drop a) k) (fun i => s.size - (intOf i).toNat)
  case atStart => exact ⟨0, by omega, rfl, fun j _ h => absurd h (by omega)⟩
  case round =>
    obtain ⟨k, hk, rfl, hd⟩ := hrel
    have HD := Lib.hid hd
    clear hd
    have hw : IntKind.i64.wrap ((a : Int) + (k : Int)) = (a : Int) + (k : Int) := IntWalk.i64_in _ (by omega)
    by_cases hlt : a + k < s.size
    · have hdl : k < ((bl s).drop a).length := by rw [HDL.out]; omega
      have hkl : a + k < (bl s).length := by rw [HBL.out]; exact hlt
      have HA : Hid (((bl s).drop a)[k] = s[a + k].toNat) := Lib.hid ((drop_at hkl hdl).trans (bl_at s (a + k) hlt hkl))
      by_cases hb1 : 48 ≤ s[a + k].toNat
      · have hb1' : decide ((48 : Int) ≤ (s[a + k].toNat : Int)) = true := decide_eq_true (by omega)
        by_cases hb2 : s[a + k].toNat ≤ 57
        · have hb2' : decide ((s[a + k].toNat : Int) ≤ 57) = true := decide_eq_true (by omega)
          have HX := Lib.hid (isDig_iff.2 (show 48 ≤ ((bl s).drop a)[k] ∧ ((bl s).drop a)[k] ≤ 57 by rw [HA.out]; exact ⟨hb1, hb2⟩))
          go_wp2_with fail
          go_round
          case rel => exact ⟨k + 1, by omega, by go_num, HD.out.step hdl HX.out⟩
          case measure => simp [intOf]; omega
        · have hb2' : decide ((s[a + k].toNat : Int) ≤ 57) = false := decide_eq_false (by omega)
          have HX := Lib.hid (isDig_false (b := ((bl s).drop a)[k]) (by rw [HA.out]; omega))
          go_wp2_with fail
          go_ret
          exact ⟨ret_int (by rw [← HN.out]; have := Dgs.eq ⟨Nat.le_of_lt hdl, HD.out, fun _ => HX.out⟩; omega), rfl⟩
      · have hb1' : decide ((48 : Int) ≤ (s[a + k].toNat : Int)) = false := decide_eq_false (by omega)
        have HX := Lib.hid (isDig_false (b := ((bl s).drop a)[k]) (by rw [HA.out]; omega))
        go_wp2_with fail
        go_ret
        exact ⟨ret_int (by rw [← HN.out]; have := Dgs.eq ⟨Nat.le_of_lt hdl, HD.out, fun _ => HX.out⟩; omega), rfl⟩
    · go_wp2_with fail
      go_ret
      exact ⟨ret_int (by rw [← HN.out]; have hl := HDL.out; have := Dgs.eq ⟨by omega, HD.out, fun h => absurd h (by omega)⟩; omega), rfl⟩
end Go.Proofs.Ytodopppoikdglaa
namespace Go.Proofs.Ytodopppoikdglaa
open Go.RowKit

/-- a row of digits, and at least one -/
def goodL (l : List Nat) : Prop := l ≠ [] ∧ dgs l = l.length
instance (l : List Nat) : Decidable (goodL l) := inferInstanceAs (Decidable (_ ∧ _))
/-- the fraction of two rows of digits -/
def valS (neg : Bool) (a b : List Nat) : Bool × List Nat × List Nat × Int :=
  if (parseS a).2 ≠ 0 ∨ (parseS b).2 ≠ 0 then errF 2 else if nv (parseS b).1 = 0 then errF 3 else frS (qv neg (nv (parseS a).1) (nv (parseS b).1))
def parsG (neg : Bool) (a b : List Nat) : Bool × List Nat × List Nat × Int := if goodL a ∧ goodL b then valS neg a b else errF 6
/-- the two texts -/
def splitF (l : List Nat) : List Nat × List Nat := if l[dgs l]? = some 47 then (l.take (dgs l), l.drop (dgs l + 1)) else (l, [49])
def parseF (l : List Nat) : Bool × List Nat × List Nat × Int :=
  if l[0]? = some 45 then parsG true (splitF (l.drop 1)).1 (splitF (l.drop 1)).2 else parsG false (splitF l).1 (splitF l).2
theorem no2 {a b : Int} (ha : a = 0) (hb : b = 0) : ¬ (a ≠ 0 ∨ b ≠ 0) := by omega
theorem str_empty (s : ByteArray) : s.toList.isEmpty = decide (bl s = []) := by
  rw [Lib.toList_data, bl]
  cases h : s.data.toList <;> simp
theorem bl_ext (s : ByteArray) (a b : Nat) : bl (s.extract a b) = ((bl s).take b).drop a := by
  unfold bl
  simp [ByteArray.data_extract, List.map_take, List.map_drop, List.extract_eq_take_drop, List.drop_take]
theorem parseS_lim (l : List Nat) (h : (parseS l).2 = 0) : (lim (nv (parseS l).1)).length ≤ 512 ∧ (parseS l).1.length ≤ 512 := by
  unfold parseS at *
  split at h
  · simp at h
  · split at h
    · simp at h
    · rename_i h1 h2
      rw [if_neg h1, if_neg h2]
      unfold sizS at *
      split at h
      · simp at h
      · rename_i h3
        rw [if_neg h3]
        show (lim (nv (lim _))).length ≤ 512 ∧ (lim _).length ≤ 512
        rw [nv_lim]
        omega
set_option maxRecDepth 100000 in
set_option maxHeartbeats 8000000 in
theorem fparse_any (w : World) (s : ByteArray) (S : Bool × List Nat × List Nat × Int) (hs : s.size ≤ 9223372036854775807) (hS : parseF (bl s) = S) : Calls Try.prog 36 #[.string s] w (FracRes w S) := by
  by_cases hm : (bl s)[0]? = some 45
  · have h0 : 0 < s.size := by
      rcases Nat.eq_zero_or_pos s.size with h | h
      · rw [List.getElem?_eq_none (by rw [bl_len]; omega)] at hm; cases hm
      · exact h
    have hm2 : s[0].toNat = 45 := by
      rw [List.getElem?_eq_getElem (by rw [bl_len]; exact h0), bl_at s 0 h0] at hm
      exact Option.some.inj hm
    have he : s.toList.isEmpty = false := by
      rw [str_empty]; apply decide_eq_false; intro h; rw [h] at hm; cases hm
    obtain ⟨T, hT⟩ : ∃ T, s.extract 1 s.size = T := ⟨_, rfl⟩
    have hbT : bl T = (bl s).drop 1 := by rw [← hT, bl_ext, List.take_of_length_le (by rw [bl_len]; exact Nat.le_refl _)]
    have hsz : T.size ≤ 9223372036854775807 := by rw [← bl_len, hbT, List.length_drop, bl_len]; omega
    have HS0 : Hid (parsG true (splitF (bl T)).1 (splitF (bl T)).2 = S) := Lib.hid (by rw [← hS, parseF, if_pos hm, hbT])
    clear hm hS hbT
    go_enter Try.func36, Try.ntmps36
    go_upto_region 1 with fail
    have bw := (Below.refl w.heap.size w).alloc (Nat.le_refl _) (.cells #[.bool false, .slice none 0 0, .slice none 0 0] 25)
    have bk := bk3_new w
    generalize (w.alloc (.cells #[.bool false, .slice none 0 0, .slice none 0 0] 25)) = wn at bw bk ⊢
    go_upto_region 4 with fail
    clear hT h0 hm2 he hs
    skip
    obtain ⟨n, hn⟩ : ∃ n, dgs (bl T) = n := ⟨_, rfl⟩
    have HN := Lib.hid hn
    have hnl := (dgs_is (bl T)).le
    rw [hn, bl_len] at hnl
    by_cases hsl : (bl T)[n]? = some 47
    · have hlt : n < T.size := by
        rcases Nat.lt_or_ge n T.size with h | h
        · exact h
        · rw [List.getElem?_eq_none (by rw [bl_len]; omega)] at hsl; cases hsl
      have hT47 : T[n].toNat = 47 := by
        rw [List.getElem?_eq_getElem (by rw [bl_len]; exact hlt), bl_at T n hlt] at hsl
        exact Option.some.inj hsl
      obtain ⟨A, hA⟩ : ∃ A, T.extract 0 n = A := ⟨_, rfl⟩
      obtain ⟨B, hB⟩ : ∃ B, T.extract (n + 1) T.size = B := ⟨_, rfl⟩
      have hbA : bl A = (bl T).take n := by rw [← hA, bl_ext]; rfl
      have hbB : bl B = (bl T).drop (n + 1) := by rw [← hB, bl_ext, List.take_of_length_le (by rw [bl_len]; exact Nat.le_refl _)]
      have sza : A.size ≤ 9223372036854775807 := by rw [← bl_len, hbA, List.length_take, bl_len]; omega
      have szb : B.size ≤ 9223372036854775807 := by rw [← bl_len, hbB, List.length_drop, bl_len]; omega
      have HS : Hid (parsG true (bl A) (bl B) = S) := Lib.hid (by rw [← HS0.out, splitF, hn, if_pos hsl, hbA, hbB])
      have hw1 : IntKind.i64.wrap ((n : Int) + 1) = (n : Int) + 1 := IntWalk.i64_in _ (by omega)
      clear hn hsl hbA hbB HS0
      go_wp2_with fail
      refine (frow_any _ T n hsz HN.out).mono ?_
      rintro e wn' ⟨rfl, rfl⟩
      go_wp2_with fail
      go_quiet (fail)
      go_upto_region 8 with fail
      have bb := below_drewN (Below.refl wn.heap.size wn) nq
      generalize wn.drewN nq = wx at bb ⊢
      skip
      try replace bx := bx.below bb
      try replace by_ := by_.below bb
      try replace bk := bk.below bb
      try replace okx := okx.below bb
      try replace oky := oky.below bb
      try replace ok1 := ok1.below bb
      try replace ok2 := ok2.below bb
      try replace ok3 := ok3.below bb
      try replace na := na.below bb
      try replace nb := nb.below bb
      try replace nc := nc.below bb
      try replace nd := nd.below bb
      try replace ne := ne.below bb
      replace bw := below_on bw bb bw.size
      clear bb
      clear hA hB hw1 hT47
      skip
      by_cases hga : goodL (bl A) ∧ goodL (bl B)
      · have HG := Lib.hid hga
        have ea : (A).toList.isEmpty = false := by rw [str_empty]; exact decide_eq_false hga.1.1
        have eb : (B).toList.isEmpty = false := by rw [str_empty]; exact decide_eq_false hga.2.1
        have ra : Hid (dgs (bl A) = (A).size) := Lib.hid (by rw [← bl_len]; exact hga.1.2)
        have rb : Hid (dgs (bl B) = (B).size) := Lib.hid (by rw [← bl_len]; exact hga.2.2)
        clear hga
        skip
        go_wp2_with fail
        refine (frow_any _ A (A).size sza ra.out).mono ?_
        rintro e wn' ⟨rfl, rfl⟩
        go_wp2_with fail
        refine (frow_any _ B (B).size szb rb.out).mono ?_
        rintro e wn' ⟨rfl, rfl⟩
        go_wp2_with fail
        obtain ⟨RA, EA, hpa⟩ : ∃ RA EA, parseS (bl A) = (RA, EA) := ⟨_, _, rfl⟩
        obtain ⟨RB, EB, hpb⟩ : ∃ RB EB, parseS (bl B) = (RB, EB) := ⟨_, _, rfl⟩
        have HPA := Lib.hid hpa
        have HPB := Lib.hid hpb
        clear hpa hpb
        refine (parse_any _ A RA EA sza HPA.out).mono ?_
        rintro e wn ⟨AN, cN, rfl, na, bb⟩
        try replace bx := bx.below bb
        try replace by_ := by_.below bb
        try replace bk := bk.below bb
        try replace okx := okx.below bb
        try replace oky := oky.below bb
        try replace ok1 := ok1.below bb
        try replace ok2 := ok2.below bb
        try replace ok3 := ok3.below bb
        try replace na := na.below bb
        try replace nb := nb.below bb
        try replace nc := nc.below bb
        try replace nd := nd.below bb
        try replace ne := ne.below bb
        replace bw := below_on bw bb bw.size
        clear bb
        go_wp2_with fail
        refine (parse_any _ B RB EB szb HPB.out).mono ?_
        rintro e wn ⟨AD, cD, rfl, nb, bb⟩
        try replace bx := bx.below bb
        try replace by_ := by_.below bb
        try replace bk := bk.below bb
        try replace okx := okx.below bb
        try replace oky := oky.below bb
        try replace ok1 := ok1.below bb
        try replace ok2 := ok2.below bb
        try replace ok3 := ok3.below bb
        try replace na := na.below bb
        try replace nb := nb.below bb
        try replace nc := nc.below bb
        try replace nd := nd.below bb
        try replace ne := ne.below bb
        replace bw := below_on bw bb bw.size
        clear bb
        by_cases ha0 : EA = 0
        · by_cases hb0 : EB = 0
          · have la := parseS_lim (bl A) (by rw [HPA.out]; exact ha0)
            have lb := parseS_lim (bl B) (by rw [HPB.out]; exact hb0)
            rw [HPA.out] at la
            rw [HPB.out] at lb
            have la1 : (lim (nv RA)).length ≤ 512 := la.1
            have la2 : RA.length ≤ 512 := la.2
            have lb1 : (lim (nv RB)).length ≤ 512 := lb.1
            have lb2 : RB.length ≤ 512 := lb.2
            have HA0 := Lib.hid ha0
            have HB0 := Lib.hid hb0
            clear la lb
            by_cases hz : nv RB = 0
            · have hbz : ((bits2 (nv RB) : Int) == 0) = true := by rw [hz]; rfl
              have HZ := Lib.hid hz
              clear hz
              go_wp2_with fail
              refine (bits_any _ AD cD _ RB nb rfl (by omega)).mono ?_
              rintro e wn ⟨rfl, rfl⟩
              have tk := bk
              obtain ⟨k0, k1, k2, kf0, kf1, kf2, klt, kb⟩ := tk
              clear kb
              go_wp2_with fail
              refine bodyPost_ret (v := .tuple #[(Fx.nil : Fx).val, .int .i64 3]) (by simp [results, Try.results36, go_sem, k0, k1, k2]) rfl ?_
              rw [← HS.out]
              rw [parsG, if_pos HG.out, valS, HPA.out, HPB.out, if_neg (no2 HA0.out HB0.out), if_pos HZ.out]
              exact ⟨Fx.nil, rfl, ⟨rfl, rfl, rfl⟩, Fx.nil_ok _, set3g bw (by omega)⟩
            · have hbz : ((bits2 (nv RB) : Int) == 0) = false := beq_eq_false_iff_ne.2 (by have := (bits2_pos (nv RB)).2 hz; omega)
              have HZ : Hid (¬ nv RB = 0) := hz
              clear hz
              go_wp2_with fail
              refine (bits_any _ AD cD _ RB nb rfl (by omega)).mono ?_
              rintro e wn ⟨rfl, rfl⟩
              go_wp2_with fail
              refine (flowest_any _ true AN AD cN cD _ _ RA RB na nb rfl rfl HZ.out (by omega) (by omega) la1 lb1).mono ?_
              rintro e wn ⟨x1, rfl, hs1, ok1, bb⟩
              have HS1 := Lib.hid hs1
              clear hs1
              try replace bx := bx.below bb
              try replace by_ := by_.below bb
              try replace bk := bk.below bb
              try replace okx := okx.below bb
              try replace oky := oky.below bb
              try replace ok1 := ok1.below bb
              try replace ok2 := ok2.below bb
              try replace ok3 := ok3.below bb
              try replace na := na.below bb
              try replace nb := nb.below bb
              try replace nc := nc.below bb
              try replace nd := nd.below bb
              try replace ne := ne.below bb
              replace bw := below_on bw bb bw.size
              clear bb
              have tk := bk
              obtain ⟨k0, k1, k2, kf0, kf1, kf2, klt, kb⟩ := tk
              clear kb
              go_wp2_with fail
              refine bodyPost_ret (v := .tuple #[(x1 : Fx).val, .int .i64 (frS (qv true (nv RA) (nv RB))).2.2.2]) (by simp [results, Try.results36, go_sem, k0, k1, k2]) rfl ?_
              have hSS : S = frS (qv true (nv RA) (nv RB)) := by
                rw [← HS.out, parsG, if_pos HG.out, valS, HPA.out, HPB.out, if_neg (no2 HA0.out HB0.out), if_neg HZ.out]
              rw [hSS]
              exact ⟨x1, rfl, HS1.out, set3_ok ok1 bk rfl rfl rfl, set3g bw (by omega)⟩
          · have hb1 : (EB == 0) = false := beq_eq_false_iff_ne.2 hb0
            have hb2 : (EB != 0) = true := bne_iff_ne.2 hb0
            have HB0 : Hid (¬ EB = 0) := hb0
            have HA0 := Lib.hid ha0
            clear hb0
            skip
            have tk := bk
            obtain ⟨k0, k1, k2, kf0, kf1, kf2, klt, kb⟩ := tk
            clear kb
            go_wp2_with fail
            refine bodyPost_ret (v := .tuple #[(Fx.nil : Fx).val, .int .i64 2]) (by simp [results, Try.results36, go_sem, k0, k1, k2]) rfl ?_
            rw [← HS.out]
            rw [parsG, if_pos HG.out, valS, HPA.out, HPB.out, if_pos (.inr HB0.out)]
            exact ⟨Fx.nil, rfl, ⟨rfl, rfl, rfl⟩, Fx.nil_ok _, set3g bw (by omega)⟩
        · have hb1 : (EA == 0) = false := beq_eq_false_iff_ne.2 ha0
          have hb2 : (EA != 0) = true := bne_iff_ne.2 ha0
          have HA0 : Hid (¬ EA = 0) := ha0
          clear ha0
          skip
          have tk := bk
          obtain ⟨k0, k1, k2, kf0, kf1, kf2, klt, kb⟩ := tk
          clear kb
          go_wp2_with fail
          refine bodyPost_ret (v := .tuple #[(Fx.nil : Fx).val, .int .i64 2]) (by simp [results, Try.results36, go_sem, k0, k1, k2]) rfl ?_
          rw [← HS.out]
          rw [parsG, if_pos HG.out, valS, HPA.out, HPB.out, if_pos (.inl HA0.out)]
          exact ⟨Fx.nil, rfl, ⟨rfl, rfl, rfl⟩, Fx.nil_ok _, set3g bw (by omega)⟩
      · have HG : Hid (¬ (goodL (bl A) ∧ goodL (bl B))) := hga
        by_cases h1 : bl A = []
        · have ea : (A).toList.isEmpty = true := by rw [str_empty]; exact decide_eq_true h1
          clear hga h1
          skip
          have tk := bk
          obtain ⟨k0, k1, k2, kf0, kf1, kf2, klt, kb⟩ := tk
          clear kb
          go_wp2_with fail
          refine bodyPost_ret (v := .tuple #[(Fx.nil : Fx).val, .int .i64 6]) (by simp [results, Try.results36, go_sem, k0, k1, k2]) rfl ?_
          rw [← HS.out]
          rw [parsG, if_neg HG.out]
          exact ⟨Fx.nil, rfl, ⟨rfl, rfl, rfl⟩, Fx.nil_ok _, set3g bw (by omega)⟩
        · have ea : (A).toList.isEmpty = false := by rw [str_empty]; exact decide_eq_false h1
          by_cases h2 : bl B = []
          · have eb : (B).toList.isEmpty = true := by rw [str_empty]; exact decide_eq_true h2
            clear hga h1 h2
            skip
            have tk := bk
            obtain ⟨k0, k1, k2, kf0, kf1, kf2, klt, kb⟩ := tk
            clear kb
            go_wp2_with fail
            refine bodyPost_ret (v := .tuple #[(Fx.nil : Fx).val, .int .i64 6]) (by simp [results, Try.results36, go_sem, k0, k1, k2]) rfl ?_
            rw [← HS.out]
            rw [parsG, if_neg HG.out]
            exact ⟨Fx.nil, rfl, ⟨rfl, rfl, rfl⟩, Fx.nil_ok _, set3g bw (by omega)⟩
          · have eb : (B).toList.isEmpty = false := by rw [str_empty]; exact decide_eq_false h2
            by_cases h3 : dgs (bl A) = (A).size
            · have h4 : ¬ dgs (bl B) = (B).size := fun h4 => hga ⟨⟨h1, by rw [bl_len]; exact h3⟩, h2, by rw [bl_len]; exact h4⟩
              have h5 := (dgs_is (bl B)).le
              rw [bl_len] at h5
              obtain ⟨rb, hrb⟩ : ∃ rb, dgs (bl B) = rb := ⟨_, rfl⟩
              rw [hrb] at h4 h5
              have HRB := Lib.hid hrb
              have HRA := Lib.hid h3
              have h6 : rb < (B).size := by omega
              clear hga h1 h2 h3 h4 h5 hrb
              go_wp2_with fail
              refine (frow_any _ A (A).size sza HRA.out).mono ?_
              rintro e wn' ⟨rfl, rfl⟩
              go_wp2_with fail
              refine (frow_any _ B rb szb HRB.out).mono ?_
              rintro e wn' ⟨rfl, rfl⟩
              have tk := bk
              obtain ⟨k0, k1, k2, kf0, kf1, kf2, klt, kb⟩ := tk
              clear kb
              go_wp2_with fail
              refine bodyPost_ret (v := .tuple #[(Fx.nil : Fx).val, .int .i64 6]) (by simp [results, Try.results36, go_sem, k0, k1, k2]) rfl ?_
              rw [← HS.out]
              rw [parsG, if_neg HG.out]
              exact ⟨Fx.nil, rfl, ⟨rfl, rfl, rfl⟩, Fx.nil_ok _, set3g bw (by omega)⟩
            · have h5 := (dgs_is (bl A)).le
              rw [bl_len] at h5
              obtain ⟨ra, hra⟩ : ∃ ra, dgs (bl A) = ra := ⟨_, rfl⟩
              rw [hra] at h3 h5
              have HRA := Lib.hid hra
              have h6 : ra < (A).size := by omega
              clear hga h1 h2 h3 h5 hra
              go_wp2_with fail
              refine (frow_any _ A ra sza HRA.out).mono ?_
              rintro e wn' ⟨rfl, rfl⟩
              have tk := bk
              obtain ⟨k0, k1, k2, kf0, kf1, kf2, klt, kb⟩ := tk
              clear kb
              go_wp2_with fail
              refine bodyPost_ret (v := .tuple #[(Fx.nil : Fx).val, .int .i64 6]) (by simp [results, Try.results36, go_sem, k0, k1, k2]) rfl ?_
              rw [← HS.out]
              rw [parsG, if_neg HG.out]
              exact ⟨Fx.nil, rfl, ⟨rfl, rfl, rfl⟩, Fx.nil_ok _, set3g bw (by omega)⟩
    · obtain ⟨B, hB⟩ : ∃ B, (⟨#[49]⟩ : ByteArray) = B := ⟨_, rfl⟩
      have hbB : bl B = [49] := by rw [← hB]; rfl
      have szb : B.size ≤ 9223372036854775807 := by rw [← bl_len, hbB]; simp
      have HS : Hid (parsG true (bl T) (bl B) = S) := Lib.hid (by rw [← HS0.out, splitF, hn, if_neg hsl, hbB])
      have sza := hsz
      by_cases hlt : n < T.size
      · have hT47 : ¬ T[n].toNat = 47 := fun h => hsl (by rw [List.getElem?_eq_getElem (by rw [bl_len]; exact hlt), bl_at T n hlt, h])
        have hT48 : ((T[n].toNat : Int) == 47) = false := beq_eq_false_iff_ne.2 (by omega)
        clear hn hsl hbB HS0
        go_wp2_with fail
        refine (frow_any _ T n hsz HN.out).mono ?_
        rintro e wn' ⟨rfl, rfl⟩
        go_upto_region 8 with fail
        clear hB hT47 hT48
        skip
        by_cases hga : goodL (bl T) ∧ goodL (bl B)
        · have HG := Lib.hid hga
          have ea : (T).toList.isEmpty = false := by rw [str_empty]; exact decide_eq_false hga.1.1
          have eb : (B).toList.isEmpty = false := by rw [str_empty]; exact decide_eq_false hga.2.1
          have ra : Hid (dgs (bl T) = (T).size) := Lib.hid (by rw [← bl_len]; exact hga.1.2)
          have rb : Hid (dgs (bl B) = (B).size) := Lib.hid (by rw [← bl_len]; exact hga.2.2)
          clear hga
          skip
          go_wp2_with fail
          refine (frow_any _ T (T).size sza ra.out).mono ?_
          rintro e wn' ⟨rfl, rfl⟩
          go_wp2_with fail
          refine (frow_any _ B (B).size szb rb.out).mono ?_
          rintro e wn' ⟨rfl, rfl⟩
          go_wp2_with fail
          obtain ⟨RA, EA, hpa⟩ : ∃ RA EA, parseS (bl T) = (RA, EA) := ⟨_, _, rfl⟩
          obtain ⟨RB, EB, hpb⟩ : ∃ RB EB, parseS (bl B) = (RB, EB) := ⟨_, _, rfl⟩
          have HPA := Lib.hid hpa
          have HPB := Lib.hid hpb
          clear hpa hpb
          refine (parse_any _ T RA EA sza HPA.out).mono ?_
          rintro e wn ⟨AN, cN, rfl, na, bb⟩
          try replace bx := bx.below bb
          try replace by_ := by_.below bb
          try replace bk := bk.below bb
          try replace okx := okx.below bb
          try replace oky := oky.below bb
          try replace ok1 := ok1.below bb
          try replace ok2 := ok2.below bb
          try replace ok3 := ok3.below bb
          try replace na := na.below bb
          try replace nb := nb.below bb
          try replace nc := nc.below bb
          try replace nd := nd.below bb
          try replace ne := ne.below bb
          replace bw := below_on bw bb bw.size
          clear bb
          go_wp2_with fail
          refine (parse_any _ B RB EB szb HPB.out).mono ?_
          rintro e wn ⟨AD, cD, rfl, nb, bb⟩
          try replace bx := bx.below bb
          try replace by_ := by_.below bb
          try replace bk := bk.below bb
          try replace okx := okx.below bb
          try replace oky := oky.below bb
          try replace ok1 := ok1.below bb
          try replace ok2 := ok2.below bb
          try replace ok3 := ok3.below bb
          try replace na := na.below bb
          try replace nb := nb.below bb
          try replace nc := nc.below bb
          try replace nd := nd.below bb
          try replace ne := ne.below bb
          replace bw := below_on bw bb bw.size
          clear bb
          by_cases ha0 : EA = 0
          · by_cases hb0 : EB = 0
            · have la := parseS_lim (bl T) (by rw [HPA.out]; exact ha0)
              have lb := parseS_lim (bl B) (by rw [HPB.out]; exact hb0)
              rw [HPA.out] at la
              rw [HPB.out] at lb
              have la1 : (lim (nv RA)).length ≤ 512 := la.1
              have la2 : RA.length ≤ 512 := la.2
              have lb1 : (lim (nv RB)).length ≤ 512 := lb.1
              have lb2 : RB.length ≤ 512 := lb.2
              have HA0 := Lib.hid ha0
              have HB0 := Lib.hid hb0
              clear la lb
              by_cases hz : nv RB = 0
              · have hbz : ((bits2 (nv RB) : Int) == 0) = true := by rw [hz]; rfl
                have HZ := Lib.hid hz
                clear hz
                go_wp2_with fail
                refine (bits_any _ AD cD _ RB nb rfl (by omega)).mono ?_
                rintro e wn ⟨rfl, rfl⟩
                have tk := bk
                obtain ⟨k0, k1, k2, kf0, kf1, kf2, klt, kb⟩ := tk
                clear kb
                go_wp2_with fail
                refine bodyPost_ret (v := .tuple #[(Fx.nil : Fx).val, .int .i64 3]) (by simp [results, Try.results36, go_sem, k0, k1, k2]) rfl ?_
                rw [← HS.out]
                rw [parsG, if_pos HG.out, valS, HPA.out, HPB.out, if_neg (no2 HA0.out HB0.out), if_pos HZ.out]
                exact ⟨Fx.nil, rfl, ⟨rfl, rfl, rfl⟩, Fx.nil_ok _, set3g bw (by omega)⟩
              · have hbz : ((bits2 (nv RB) : Int) == 0) = false := beq_eq_false_iff_ne.2 (by have := (bits2_pos (nv RB)).2 hz; omega)
                have HZ : Hid (¬ nv RB = 0) := hz
                clear hz
                go_wp2_with fail
                refine (bits_any _ AD cD _ RB nb rfl (by omega)).mono ?_
                rintro e wn ⟨rfl, rfl⟩
                go_wp2_with fail
                refine (flowest_any _ true AN AD cN cD _ _ RA RB na nb rfl rfl HZ.out (by omega) (by omega) la1 lb1).mono ?_
                rintro e wn ⟨x1, rfl, hs1, ok1, bb⟩
                have HS1 := Lib.hid hs1
                clear hs1
                try replace bx := bx.below bb
                try replace by_ := by_.below bb
                try replace bk := bk.below bb
                try replace okx := okx.below bb
                try replace oky := oky.below bb
                try replace ok1 := ok1.below bb
                try replace ok2 := ok2.below bb
                try replace ok3 := ok3.below bb
                try replace na := na.below bb
                try replace nb := nb.below bb
                try replace nc := nc.below bb
                try replace nd := nd.below bb
                try replace ne := ne.below bb
                replace bw := below_on bw bb bw.size
                clear bb
                have tk := bk
                obtain ⟨k0, k1, k2, kf0, kf1, kf2, klt, kb⟩ := tk
                clear kb
                go_wp2_with fail
                refine bodyPost_ret (v := .tuple #[(x1 : Fx).val, .int .i64 (frS (qv true (nv RA) (nv RB))).2.2.2]) (by simp [results, Try.results36, go_sem, k0, k1, k2]) rfl ?_
                have hSS : S = frS (qv true (nv RA) (nv RB)) := by
                  rw [← HS.out, parsG, if_pos HG.out, valS, HPA.out, HPB.out, if_neg (no2 HA0.out HB0.out), if_neg HZ.out]
                rw [hSS]
                exact ⟨x1, rfl, HS1.out, set3_ok ok1 bk rfl rfl rfl, set3g bw (by omega)⟩
            · have hb1 : (EB == 0) = false := beq_eq_false_iff_ne.2 hb0
              have hb2 : (EB != 0) = true := bne_iff_ne.2 hb0
              have HB0 : Hid (¬ EB = 0) := hb0
              have HA0 := Lib.hid ha0
              clear hb0
              skip
              have tk := bk
              obtain ⟨k0, k1, k2, kf0, kf1, kf2, klt, kb⟩ := tk
              clear kb
              go_wp2_with fail
              refine bodyPost_ret (v := .tuple #[(Fx.nil : Fx).val, .int .i64 2]) (by simp [results, Try.results36, go_sem, k0, k1, k2]) rfl ?_
              rw [← HS.out]
              rw [parsG, if_pos HG.out, valS, HPA.out, HPB.out, if_pos (.inr HB0.out)]
              exact ⟨Fx.nil, rfl, ⟨rfl, rfl, rfl⟩, Fx.nil_ok _, set3g bw (by omega)⟩
          · have hb1 : (EA == 0) = false := beq_eq_false_iff_ne.2 ha0
            have hb2 : (EA != 0) = true := bne_iff_ne.2 ha0
            have HA0 : Hid (¬ EA = 0) := ha0
            clear ha0
            skip
            have tk := bk
            obtain ⟨k0, k1, k2, kf0, kf1, kf2, klt, kb⟩ := tk
            clear kb
            go_wp2_with fail
            refine bodyPost_ret (v := .tuple #[(Fx.nil : Fx).val, .int .i64 2]) (by simp [results, Try.results36, go_sem, k0, k1, k2]) rfl ?_
            rw [← HS.out]
            rw [parsG, if_pos HG.out, valS, HPA.out, HPB.out, if_pos (.inl HA0.out)]
            exact ⟨Fx.nil, rfl, ⟨rfl, rfl, rfl⟩, Fx.nil_ok _, set3g bw (by omega)⟩
        · have HG : Hid (¬ (goodL (bl T) ∧ goodL (bl B))) := hga
          by_cases h1 : bl T = []
          · have ea : (T).toList.isEmpty = true := by rw [str_empty]; exact decide_eq_true h1
            clear hga h1
            skip
            have tk := bk
            obtain ⟨k0, k1, k2, kf0, kf1, kf2, klt, kb⟩ := tk
            clear kb
            go_wp2_with fail
            refine bodyPost_ret (v := .tuple #[(Fx.nil : Fx).val, .int .i64 6]) (by simp [results, Try.results36, go_sem, k0, k1, k2]) rfl ?_
            rw [← HS.out]
            rw [parsG, if_neg HG.out]
            exact ⟨Fx.nil, rfl, ⟨rfl, rfl, rfl⟩, Fx.nil_ok _, set3g bw (by omega)⟩
          · have ea : (T).toList.isEmpty = false := by rw [str_empty]; exact decide_eq_false h1
            by_cases h2 : bl B = []
            · have eb : (B).toList.isEmpty = true := by rw [str_empty]; exact decide_eq_true h2
              clear hga h1 h2
              skip
              have tk := bk
              obtain ⟨k0, k1, k2, kf0, kf1, kf2, klt, kb⟩ := tk
              clear kb
              go_wp2_with fail
              refine bodyPost_ret (v := .tuple #[(Fx.nil : Fx).val, .int .i64 6]) (by simp [results, Try.results36, go_sem, k0, k1, k2]) rfl ?_
              rw [← HS.out]
              rw [parsG, if_neg HG.out]
              exact ⟨Fx.nil, rfl, ⟨rfl, rfl, rfl⟩, Fx.nil_ok _, set3g bw (by omega)⟩
            · have eb : (B).toList.isEmpty = false := by rw [str_empty]; exact decide_eq_false h2
              by_cases h3 : dgs (bl T) = (T).size
              · have h4 : ¬ dgs (bl B) = (B).size := fun h4 => hga ⟨⟨h1, by rw [bl_len]; exact h3⟩, h2, by rw [bl_len]; exact h4⟩
                have h5 := (dgs_is (bl B)).le
                rw [bl_len] at h5
                obtain ⟨rb, hrb⟩ : ∃ rb, dgs (bl B) = rb := ⟨_, rfl⟩
                rw [hrb] at h4 h5
                have HRB := Lib.hid hrb
                have HRA := Lib.hid h3
                have h6 : rb < (B).size := by omega
                clear hga h1 h2 h3 h4 h5 hrb
                go_wp2_with fail
                refine (frow_any _ T (T).size sza HRA.out).mono ?_
                rintro e wn' ⟨rfl, rfl⟩
                go_wp2_with fail
                refine (frow_any _ B rb szb HRB.out).mono ?_
                rintro e wn' ⟨rfl, rfl⟩
                have tk := bk
                obtain ⟨k0, k1, k2, kf0, kf1, kf2, klt, kb⟩ := tk
                clear kb
                go_wp2_with fail
                refine bodyPost_ret (v := .tuple #[(Fx.nil : Fx).val, .int .i64 6]) (by simp [results, Try.results36, go_sem, k0, k1, k2]) rfl ?_
                rw [← HS.out]
                rw [parsG, if_neg HG.out]
                exact ⟨Fx.nil, rfl, ⟨rfl, rfl, rfl⟩, Fx.nil_ok _, set3g bw (by omega)⟩
              · have h5 := (dgs_is (bl T)).le
                rw [bl_len] at h5
                obtain ⟨ra, hra⟩ : ∃ ra, dgs (bl T) = ra := ⟨_, rfl⟩
                rw [hra] at h3 h5
                have HRA := Lib.hid hra
                have h6 : ra < (T).size := by omega
                clear hga h1 h2 h3 h5 hra
                go_wp2_with fail
                refine (frow_any _ T ra sza HRA.out).mono ?_
                rintro e wn' ⟨rfl, rfl⟩
                have tk := bk
                obtain ⟨k0, k1, k2, kf0, kf1, kf2, klt, kb⟩ := tk
                clear kb
                go_wp2_with fail
                refine bodyPost_ret (v := .tuple #[(Fx.nil : Fx).val, .int .i64 6]) (by simp [results, Try.results36, go_sem, k0, k1, k2]) rfl ?_
                rw [← HS.out]
                rw [parsG, if_neg HG.out]
                exact ⟨Fx.nil, rfl, ⟨rfl, rfl, rfl⟩, Fx.nil_ok _, set3g bw (by omega)⟩
      · clear hn hsl hbB HS0
        go_wp2_with fail
        refine (frow_any _ T n hsz HN.out).mono ?_
        rintro e wn' ⟨rfl, rfl⟩
        go_upto_region 8 with fail
        clear hB
        skip
        by_cases hga : goodL (bl T) ∧ goodL (bl B)
        · have HG := Lib.hid hga
          have ea : (T).toList.isEmpty = false := by rw [str_empty]; exact decide_eq_false hga.1.1
          have eb : (B).toList.isEmpty = false := by rw [str_empty]; exact decide_eq_false hga.2.1
          have ra : Hid (dgs (bl T) = (T).size) := Lib.hid (by rw [← bl_len]; exact hga.1.2)
          have rb : Hid (dgs (bl B) = (B).size) := Lib.hid (by rw [← bl_len]; exact hga.2.2)
          clear hga
          skip
          go_wp2_with fail
          refine (frow_any _ T (T).size sza ra.out).mono ?_
          rintro e wn' ⟨rfl, rfl⟩
          go_wp2_with fail
          refine (frow_any _ B (B).size szb rb.out).mono ?_
          rintro e wn' ⟨rfl, rfl⟩
          go_wp2_with fail
          obtain ⟨RA, EA, hpa⟩ : ∃ RA EA, parseS (bl T) = (RA, EA) := ⟨_, _, rfl⟩
          obtain ⟨RB, EB, hpb⟩ : ∃ RB EB, parseS (bl B) = (RB, EB) := ⟨_, _, rfl⟩
          have HPA := Lib.hid hpa
          have HPB := Lib.hid hpb
          clear hpa hpb
          refine (parse_any _ T RA EA sza HPA.out).mono ?_
          rintro e wn ⟨AN, cN, rfl, na, bb⟩
          try replace bx := bx.below bb
          try replace by_ := by_.below bb
          try replace bk := bk.below bb
          try replace okx := okx.below bb
          try replace oky := oky.below bb
          try replace ok1 := ok1.below bb
          try replace ok2 := ok2.below bb
          try replace ok3 := ok3.below bb
          try replace na := na.below bb
          try replace nb := nb.below bb
          try replace nc := nc.below bb
          try replace nd := nd.below bb
          try replace ne := ne.below bb
          replace bw := below_on bw bb bw.size
          clear bb
          go_wp2_with fail
          refine (parse_any _ B RB EB szb HPB.out).mono ?_
          rintro e wn ⟨AD, cD, rfl, nb, bb⟩
          try replace bx := bx.below bb
          try replace by_ := by_.below bb
          try replace bk := bk.below bb
          try replace okx := okx.below bb
          try replace oky := oky.below bb
          try replace ok1 := ok1.below bb
          try replace ok2 := ok2.below bb
          try replace ok3 := ok3.below bb
          try replace na := na.below bb
          try replace nb := nb.below bb
          try replace nc := nc.below bb
          try replace nd := nd.below bb
          try replace ne := ne.below bb
          replace bw := below_on bw bb bw.size
          clear bb
          by_cases ha0 : EA = 0
          · by_cases hb0 : EB = 0
            · have la := parseS_lim (bl T) (by rw [HPA.out]; exact ha0)
              have lb := parseS_lim (bl B) (by rw [HPB.out]; exact hb0)
              rw [HPA.out] at la
              rw [HPB.out] at lb
              have la1 : (lim (nv RA)).length ≤ 512 := la.1
              have la2 : RA.length ≤ 512 := la.2
              have lb1 : (lim (nv RB)).length ≤ 512 := lb.1
              have lb2 : RB.length ≤ 512 := lb.2
              have HA0 := Lib.hid ha0
              have HB0 := Lib.hid hb0
              clear la lb
              by_cases hz : nv RB = 0
              · have hbz : ((bits2 (nv RB) : Int) == 0) = true := by rw [hz]; rfl
                have HZ := Lib.hid hz
                clear hz
                go_wp2_with fail
                refine (bits_any _ AD cD _ RB nb rfl (by omega)).mono ?_
                rintro e wn ⟨rfl, rfl⟩
                have tk := bk
                obtain ⟨k0, k1, k2, kf0, kf1, kf2, klt, kb⟩ := tk
                clear kb
                go_wp2_with fail
                refine bodyPost_ret (v := .tuple #[(Fx.nil : Fx).val, .int .i64 3]) (by simp [results, Try.results36, go_sem, k0, k1, k2]) rfl ?_
                rw [← HS.out]
                rw [parsG, if_pos HG.out, valS, HPA.out, HPB.out, if_neg (no2 HA0.out HB0.out), if_pos HZ.out]
                exact ⟨Fx.nil, rfl, ⟨rfl, rfl, rfl⟩, Fx.nil_ok _, set3g bw (by omega)⟩
              · have hbz : ((bits2 (nv RB) : Int) == 0) = false := beq_eq_false_iff_ne.2 (by have := (bits2_pos (nv RB)).2 hz; omega)
                have HZ : Hid (¬ nv RB = 0) := hz
                clear hz
                go_wp2_with fail
                refine (bits_any _ AD cD _ RB nb rfl (by omega)).mono ?_
                rintro e wn ⟨rfl, rfl⟩
                go_wp2_with fail
                refine (flowest_any _ true AN AD cN cD _ _ RA RB na nb rfl rfl HZ.out (by omega) (by omega) la1 lb1).mono ?_
                rintro e wn ⟨x1, rfl, hs1, ok1, bb⟩
                have HS1 := Lib.hid hs1
                clear hs1
                try replace bx := bx.below bb
                try replace by_ := by_.below bb
                try replace bk := bk.below bb
                try replace okx := okx.below bb
                try replace oky := oky.below bb
                try replace ok1 := ok1.below bb
                try replace ok2 := ok2.below bb
                try replace ok3 := ok3.below bb
                try replace na := na.below bb
                try replace nb := nb.below bb
                try replace nc := nc.below bb
                try replace nd := nd.below bb
                try replace ne := ne.below bb
                replace bw := below_on bw bb bw.size
                clear bb
                have tk := bk
                obtain ⟨k0, k1, k2, kf0, kf1, kf2, klt, kb⟩ := tk
                clear kb
                go_wp2_with fail
                refine bodyPost_ret (v := .tuple #[(x1 : Fx).val, .int .i64 (frS (qv true (nv RA) (nv RB))).2.2.2]) (by simp [results, Try.results36, go_sem, k0, k1, k2]) rfl ?_
                have hSS : S = frS (qv true (nv RA) (nv RB)) := by
                  rw [← HS.out, parsG, if_pos HG.out, valS, HPA.out, HPB.out, if_neg (no2 HA0.out HB0.out), if_neg HZ.out]
                rw [hSS]
                exact ⟨x1, rfl, HS1.out, set3_ok ok1 bk rfl rfl rfl, set3g bw (by omega)⟩
            · have hb1 : (EB == 0) = false := beq_eq_false_iff_ne.2 hb0
              have hb2 : (EB != 0) = true := bne_iff_ne.2 hb0
              have HB0 : Hid (¬ EB = 0) := hb0
              have HA0 := Lib.hid ha0
              clear hb0
              skip
              have tk := bk
              obtain ⟨k0, k1, k2, kf0, kf1, kf2, klt, kb⟩ := tk
              clear kb
              go_wp2_with fail
              refine bodyPost_ret (v := .tuple #[(Fx.nil : Fx).val, .int .i64 2]) (by simp [results, Try.results36, go_sem, k0, k1, k2]) rfl ?_
              rw [← HS.out]
              rw [parsG, if_pos HG.out, valS, HPA.out, HPB.out, if_pos (.inr HB0.out)]
              exact ⟨Fx.nil, rfl, ⟨rfl, rfl, rfl⟩, Fx.nil_ok _, set3g bw (by omega)⟩
          · have hb1 : (EA == 0) = false := beq_eq_false_iff_ne.2 ha0
            have hb2 : (EA != 0) = true := bne_iff_ne.2 ha0
            have HA0 : Hid (¬ EA = 0) := ha0
            clear ha0
            skip
            have tk := bk
            obtain ⟨k0, k1, k2, kf0, kf1, kf2, klt, kb⟩ := tk
            clear kb
            go_wp2_with fail
            refine bodyPost_ret (v := .tuple #[(Fx.nil : Fx).val, .int .i64 2]) (by simp [results, Try.results36, go_sem, k0, k1, k2]) rfl ?_
            rw [← HS.out]
            rw [parsG, if_pos HG.out, valS, HPA.out, HPB.out, if_pos (.inl HA0.out)]
            exact ⟨Fx.nil, rfl, ⟨rfl, rfl, rfl⟩, Fx.nil_ok _, set3g bw (by omega)⟩
        · have HG : Hid (¬ (goodL (bl T) ∧ goodL (bl B))) := hga
          by_cases h1 : bl T = []
          · have ea : (T).toList.isEmpty = true := by rw [str_empty]; exact decide_eq_true h1
            clear hga h1
            skip
            have tk := bk
            obtain ⟨k0, k1, k2, kf0, kf1, kf2, klt, kb⟩ := tk
            clear kb
            go_wp2_with fail
            refine bodyPost_ret (v := .tuple #[(Fx.nil : Fx).val, .int .i64 6]) (by simp [results, Try.results36, go_sem, k0, k1, k2]) rfl ?_
            rw [← HS.out]
            rw [parsG, if_neg HG.out]
            exact ⟨Fx.nil, rfl, ⟨rfl, rfl, rfl⟩, Fx.nil_ok _, set3g bw (by omega)⟩
          · have ea : (T).toList.isEmpty = false := by rw [str_empty]; exact decide_eq_false h1
            by_cases h2 : bl B = []
            · have eb : (B).toList.isEmpty = true := by rw [str_empty]; exact decide_eq_true h2
              clear hga h1 h2
              skip
              have tk := bk
              obtain ⟨k0, k1, k2, kf0, kf1, kf2, klt, kb⟩ := tk
              clear kb
              go_wp2_with fail
              refine bodyPost_ret (v := .tuple #[(Fx.nil : Fx).val, .int .i64 6]) (by simp [results, Try.results36, go_sem, k0, k1, k2]) rfl ?_
              rw [← HS.out]
              rw [parsG, if_neg HG.out]
              exact ⟨Fx.nil, rfl, ⟨rfl, rfl, rfl⟩, Fx.nil_ok _, set3g bw (by omega)⟩
            · have eb : (B).toList.isEmpty = false := by rw [str_empty]; exact decide_eq_false h2
              by_cases h3 : dgs (bl T) = (T).size
              · have h4 : ¬ dgs (bl B) = (B).size := fun h4 => hga ⟨⟨h1, by rw [bl_len]; exact h3⟩, h2, by rw [bl_len]; exact h4⟩
                have h5 := (dgs_is (bl B)).le
                rw [bl_len] at h5
                obtain ⟨rb, hrb⟩ : ∃ rb, dgs (bl B) = rb := ⟨_, rfl⟩
                rw [hrb] at h4 h5
                have HRB := Lib.hid hrb
                have HRA := Lib.hid h3
                have h6 : rb < (B).size := by omega
                clear hga h1 h2 h3 h4 h5 hrb
                go_wp2_with fail
                refine (frow_any _ T (T).size sza HRA.out).mono ?_
                rintro e wn' ⟨rfl, rfl⟩
                go_wp2_with fail
                refine (frow_any _ B rb szb HRB.out).mono ?_
                rintro e wn' ⟨rfl, rfl⟩
                have tk := bk
                obtain ⟨k0, k1, k2, kf0, kf1, kf2, klt, kb⟩ := tk
                clear kb
                go_wp2_with fail
                refine bodyPost_ret (v := .tuple #[(Fx.nil : Fx).val, .int .i64 6]) (by simp [results, Try.results36, go_sem, k0, k1, k2]) rfl ?_
                rw [← HS.out]
                rw [parsG, if_neg HG.out]
                exact ⟨Fx.nil, rfl, ⟨rfl, rfl, rfl⟩, Fx.nil_ok _, set3g bw (by omega)⟩
              · have h5 := (dgs_is (bl T)).le
                rw [bl_len] at h5
                obtain ⟨ra, hra⟩ : ∃ ra, dgs (bl T) = ra := ⟨_, rfl⟩
                rw [hra] at h3 h5
                have HRA := Lib.hid hra
                have h6 : ra < (T).size := by omega
                clear hga h1 h2 h3 h5 hra
                go_wp2_with fail
                refine (frow_any _ T ra sza HRA.out).mono ?_
                rintro e wn' ⟨rfl, rfl⟩
                have tk := bk
                obtain ⟨k0, k1, k2, kf0, kf1, kf2, klt, kb⟩ := tk
                clear kb
                go_wp2_with fail
                refine bodyPost_ret (v := .tuple #[(Fx.nil : Fx).val, .int .i64 6]) (by simp [results, Try.results36, go_sem, k0, k1, k2]) rfl ?_
                rw [← HS.out]
                rw [parsG, if_neg HG.out]
                exact ⟨Fx.nil, rfl, ⟨rfl, rfl, rfl⟩, Fx.nil_ok _, set3g bw (by omega)⟩
  · have HS0 : Hid (parsG false (splitF (bl s)).1 (splitF (bl s)).2 = S) := Lib.hid (by rw [← hS, parseF, if_neg hm])
    have hsz := hs
    by_cases h0 : s.size = 0
    · have he : s.toList.isEmpty = true := by
        rw [str_empty]; apply decide_eq_true; exact List.eq_nil_of_length_eq_zero (by rw [bl_len]; exact h0)
      clear hm hS
      skip
      go_enter Try.func36, Try.ntmps36
      go_upto_region 1 with fail
      have bw := (Below.refl w.heap.size w).alloc (Nat.le_refl _) (.cells #[.bool false, .slice none 0 0, .slice none 0 0] 25)
      have bk := bk3_new w
      generalize (w.alloc (.cells #[.bool false, .slice none 0 0, .slice none 0 0] 25)) = wn at bw bk ⊢
      go_upto_region 4 with fail
      clear he h0
      skip
      obtain ⟨n, hn⟩ : ∃ n, dgs (bl s) = n := ⟨_, rfl⟩
      have HN := Lib.hid hn
      have hnl := (dgs_is (bl s)).le
      rw [hn, bl_len] at hnl
      by_cases hsl : (bl s)[n]? = some 47
      · have hlt : n < s.size := by
          rcases Nat.lt_or_ge n s.size with h | h
          · exact h
          · rw [List.getElem?_eq_none (by rw [bl_len]; omega)] at hsl; cases hsl
        have hT47 : s[n].toNat = 47 := by
          rw [List.getElem?_eq_getElem (by rw [bl_len]; exact hlt), bl_at s n hlt] at hsl
          exact Option.some.inj hsl
        obtain ⟨A, hA⟩ : ∃ A, s.extract 0 n = A := ⟨_, rfl⟩
        obtain ⟨B, hB⟩ : ∃ B, s.extract (n + 1) s.size = B := ⟨_, rfl⟩
        have hbA : bl A = (bl s).take n := by rw [← hA, bl_ext]; rfl
        have hbB : bl B = (bl s).drop (n + 1) := by rw [← hB, bl_ext, List.take_of_length_le (by rw [bl_len]; exact Nat.le_refl _)]
        have sza : A.size ≤ 9223372036854775807 := by rw [← bl_len, hbA, List.length_take, bl_len]; omega
        have szb : B.size ≤ 9223372036854775807 := by rw [← bl_len, hbB, List.length_drop, bl_len]; omega
        have HS : Hid (parsG false (bl A) (bl B) = S) := Lib.hid (by rw [← HS0.out, splitF, hn, if_pos hsl, hbA, hbB])
        have hw1 : IntKind.i64.wrap ((n : Int) + 1) = (n : Int) + 1 := IntWalk.i64_in _ (by omega)
        clear hn hsl hbA hbB HS0
        go_wp2_with fail
        refine (frow_any _ s n hsz HN.out).mono ?_
        rintro e wn' ⟨rfl, rfl⟩
        go_wp2_with fail
        go_quiet (fail)
        go_upto_region 8 with fail
        have bb := below_drewN (Below.refl wn.heap.size wn) nq
        generalize wn.drewN nq = wx at bb ⊢
        skip
        try replace bx := bx.below bb
        try replace by_ := by_.below bb
        try replace bk := bk.below bb
        try replace okx := okx.below bb
        try replace oky := oky.below bb
        try replace ok1 := ok1.below bb
        try replace ok2 := ok2.below bb
        try replace ok3 := ok3.below bb
        try replace na := na.below bb
        try replace nb := nb.below bb
        try replace nc := nc.below bb
        try replace nd := nd.below bb
        try replace ne := ne.below bb
        replace bw := below_on bw bb bw.size
        clear bb
        clear hA hB hw1 hT47
        skip
        by_cases hga : goodL (bl A) ∧ goodL (bl B)
        · have HG := Lib.hid hga
          have ea : (A).toList.isEmpty = false := by rw [str_empty]; exact decide_eq_false hga.1.1
          have eb : (B).toList.isEmpty = false := by rw [str_empty]; exact decide_eq_false hga.2.1
          have ra : Hid (dgs (bl A) = (A).size) := Lib.hid (by rw [← bl_len]; exact hga.1.2)
          have rb : Hid (dgs (bl B) = (B).size) := Lib.hid (by rw [← bl_len]; exact hga.2.2)
          clear hga
          skip
          go_wp2_with fail
          refine (frow_any _ A (A).size sza ra.out).mono ?_
          rintro e wn' ⟨rfl, rfl⟩
          go_wp2_with fail
          refine (frow_any _ B (B).size szb rb.out).mono ?_
          rintro e wn' ⟨rfl, rfl⟩
          go_wp2_with fail
          obtain ⟨RA, EA, hpa⟩ : ∃ RA EA, parseS (bl A) = (RA, EA) := ⟨_, _, rfl⟩
          obtain ⟨RB, EB, hpb⟩ : ∃ RB EB, parseS (bl B) = (RB, EB) := ⟨_, _, rfl⟩
          have HPA := Lib.hid hpa
          have HPB := Lib.hid hpb
          clear hpa hpb
          refine (parse_any _ A RA EA sza HPA.out).mono ?_
          rintro e wn ⟨AN, cN, rfl, na, bb⟩
          try replace bx := bx.below bb
          try replace by_ := by_.below bb
          try replace bk := bk.below bb
          try replace okx := okx.below bb
          try replace oky := oky.below bb
          try replace ok1 := ok1.below bb
          try replace ok2 := ok2.below bb
          try replace ok3 := ok3.below bb
          try replace na := na.below bb
          try replace nb := nb.below bb
          try replace nc := nc.below bb
          try replace nd := nd.below bb
          try replace ne := ne.below bb
          replace bw := below_on bw bb bw.size
          clear bb
          go_wp2_with fail
          refine (parse_any _ B RB EB szb HPB.out).mono ?_
          rintro e wn ⟨AD, cD, rfl, nb, bb⟩
          try replace bx := bx.below bb
          try replace by_ := by_.below bb
          try replace bk := bk.below bb
          try replace okx := okx.below bb
          try replace oky := oky.below bb
          try replace ok1 := ok1.below bb
          try replace ok2 := ok2.below bb
          try replace ok3 := ok3.below bb
          try replace na := na.below bb
          try replace nb := nb.below bb
          try replace nc := nc.below bb
          try replace nd := nd.below bb
          try replace ne := ne.below bb
          replace bw := below_on bw bb bw.size
          clear bb
          by_cases ha0 : EA = 0
          · by_cases hb0 : EB = 0
            · have la := parseS_lim (bl A) (by rw [HPA.out]; exact ha0)
              have lb := parseS_lim (bl B) (by rw [HPB.out]; exact hb0)
              rw [HPA.out] at la
              rw [HPB.out] at lb
              have la1 : (lim (nv RA)).length ≤ 512 := la.1
              have la2 : RA.length ≤ 512 := la.2
              have lb1 : (lim (nv RB)).length ≤ 512 := lb.1
              have lb2 : RB.length ≤ 512 := lb.2
              have HA0 := Lib.hid ha0
              have HB0 := Lib.hid hb0
              clear la lb
              by_cases hz : nv RB = 0
              · have hbz : ((bits2 (nv RB) : Int) == 0) = true := by rw [hz]; rfl
                have HZ := Lib.hid hz
                clear hz
                go_wp2_with fail
                refine (bits_any _ AD cD _ RB nb rfl (by omega)).mono ?_
                rintro e wn ⟨rfl, rfl⟩
                have tk := bk
                obtain ⟨k0, k1, k2, kf0, kf1, kf2, klt, kb⟩ := tk
                clear kb
                go_wp2_with fail
                refine bodyPost_ret (v := .tuple #[(Fx.nil : Fx).val, .int .i64 3]) (by simp [results, Try.results36, go_sem, k0, k1, k2]) rfl ?_
                rw [← HS.out]
                rw [parsG, if_pos HG.out, valS, HPA.out, HPB.out, if_neg (no2 HA0.out HB0.out), if_pos HZ.out]
                exact ⟨Fx.nil, rfl, ⟨rfl, rfl, rfl⟩, Fx.nil_ok _, set3g bw (by omega)⟩
              · have hbz : ((bits2 (nv RB) : Int) == 0) = false := beq_eq_false_iff_ne.2 (by have := (bits2_pos (nv RB)).2 hz; omega)
                have HZ : Hid (¬ nv RB = 0) := hz
                clear hz
                go_wp2_with fail
                refine (bits_any _ AD cD _ RB nb rfl (by omega)).mono ?_
                rintro e wn ⟨rfl, rfl⟩
                go_wp2_with fail
                refine (flowest_any _ false AN AD cN cD _ _ RA RB na nb rfl rfl HZ.out (by omega) (by omega) la1 lb1).mono ?_
                rintro e wn ⟨x1, rfl, hs1, ok1, bb⟩
                have HS1 := Lib.hid hs1
                clear hs1
                try replace bx := bx.below bb
                try replace by_ := by_.below bb
                try replace bk := bk.below bb
                try replace okx := okx.below bb
                try replace oky := oky.below bb
                try replace ok1 := ok1.below bb
                try replace ok2 := ok2.below bb
                try replace ok3 := ok3.below bb
                try replace na := na.below bb
                try replace nb := nb.below bb
                try replace nc := nc.below bb
                try replace nd := nd.below bb
                try replace ne := ne.below bb
                replace bw := below_on bw bb bw.size
                clear bb
                have tk := bk
                obtain ⟨k0, k1, k2, kf0, kf1, kf2, klt, kb⟩ := tk
                clear kb
                go_wp2_with fail
                refine bodyPost_ret (v := .tuple #[(x1 : Fx).val, .int .i64 (frS (qv false (nv RA) (nv RB))).2.2.2]) (by simp [results, Try.results36, go_sem, k0, k1, k2]) rfl ?_
                have hSS : S = frS (qv false (nv RA) (nv RB)) := by
                  rw [← HS.out, parsG, if_pos HG.out, valS, HPA.out, HPB.out, if_neg (no2 HA0.out HB0.out), if_neg HZ.out]
                rw [hSS]
                exact ⟨x1, rfl, HS1.out, set3_ok ok1 bk rfl rfl rfl, set3g bw (by omega)⟩
            · have hb1 : (EB == 0) = false := beq_eq_false_iff_ne.2 hb0
              have hb2 : (EB != 0) = true := bne_iff_ne.2 hb0
              have HB0 : Hid (¬ EB = 0) := hb0
              have HA0 := Lib.hid ha0
              clear hb0
              skip
              have tk := bk
              obtain ⟨k0, k1, k2, kf0, kf1, kf2, klt, kb⟩ := tk
              clear kb
              go_wp2_with fail
              refine bodyPost_ret (v := .tuple #[(Fx.nil : Fx).val, .int .i64 2]) (by simp [results, Try.results36, go_sem, k0, k1, k2]) rfl ?_
              rw [← HS.out]
              rw [parsG, if_pos HG.out, valS, HPA.out, HPB.out, if_pos (.inr HB0.out)]
              exact ⟨Fx.nil, rfl, ⟨rfl, rfl, rfl⟩, Fx.nil_ok _, set3g bw (by omega)⟩
          · have hb1 : (EA == 0) = false := beq_eq_false_iff_ne.2 ha0
            have hb2 : (EA != 0) = true := bne_iff_ne.2 ha0
            have HA0 : Hid (¬ EA = 0) := ha0
            clear ha0
            skip
            have tk := bk
            obtain ⟨k0, k1, k2, kf0, kf1, kf2, klt, kb⟩ := tk
            clear kb
            go_wp2_with fail
            refine bodyPost_ret (v := .tuple #[(Fx.nil : Fx).val, .int .i64 2]) (by simp [results, Try.results36, go_sem, k0, k1, k2]) rfl ?_
            rw [← HS.out]
            rw [parsG, if_pos HG.out, valS, HPA.out, HPB.out, if_pos (.inl HA0.out)]
            exact ⟨Fx.nil, rfl, ⟨rfl, rfl, rfl⟩, Fx.nil_ok _, set3g bw (by omega)⟩
        · have HG : Hid (¬ (goodL (bl A) ∧ goodL (bl B))) := hga
          by_cases h1 : bl A = []
          · have ea : (A).toList.isEmpty = true := by rw [str_empty]; exact decide_eq_true h1
            clear hga h1
            skip
            have tk := bk
            obtain ⟨k0, k1, k2, kf0, kf1, kf2, klt, kb⟩ := tk
            clear kb
            go_wp2_with fail
            refine bodyPost_ret (v := .tuple #[(Fx.nil : Fx).val, .int .i64 6]) (by simp [results, Try.results36, go_sem, k0, k1, k2]) rfl ?_
            rw [← HS.out]
            rw [parsG, if_neg HG.out]
            exact ⟨Fx.nil, rfl, ⟨rfl, rfl, rfl⟩, Fx.nil_ok _, set3g bw (by omega)⟩
          · have ea : (A).toList.isEmpty = false := by rw [str_empty]; exact decide_eq_false h1
            by_cases h2 : bl B = []
            · have eb : (B).toList.isEmpty = true := by rw [str_empty]; exact decide_eq_true h2
              clear hga h1 h2
              skip
              have tk := bk
              obtain ⟨k0, k1, k2, kf0, kf1, kf2, klt, kb⟩ := tk
              clear kb
              go_wp2_with fail
              refine bodyPost_ret (v := .tuple #[(Fx.nil : Fx).val, .int .i64 6]) (by simp [results, Try.results36, go_sem, k0, k1, k2]) rfl ?_
              rw [← HS.out]
              rw [parsG, if_neg HG.out]
              exact ⟨Fx.nil, rfl, ⟨rfl, rfl, rfl⟩, Fx.nil_ok _, set3g bw (by omega)⟩
            · have eb : (B).toList.isEmpty = false := by rw [str_empty]; exact decide_eq_false h2
              by_cases h3 : dgs (bl A) = (A).size
              · have h4 : ¬ dgs (bl B) = (B).size := fun h4 => hga ⟨⟨h1, by rw [bl_len]; exact h3⟩, h2, by rw [bl_len]; exact h4⟩
                have h5 := (dgs_is (bl B)).le
                rw [bl_len] at h5
                obtain ⟨rb, hrb⟩ : ∃ rb, dgs (bl B) = rb := ⟨_, rfl⟩
                rw [hrb] at h4 h5
                have HRB := Lib.hid hrb
                have HRA := Lib.hid h3
                have h6 : rb < (B).size := by omega
                clear hga h1 h2 h3 h4 h5 hrb
                go_wp2_with fail
                refine (frow_any _ A (A).size sza HRA.out).mono ?_
                rintro e wn' ⟨rfl, rfl⟩
                go_wp2_with fail
                refine (frow_any _ B rb szb HRB.out).mono ?_
                rintro e wn' ⟨rfl, rfl⟩
                have tk := bk
                obtain ⟨k0, k1, k2, kf0, kf1, kf2, klt, kb⟩ := tk
                clear kb
                go_wp2_with fail
                refine bodyPost_ret (v := .tuple #[(Fx.nil : Fx).val, .int .i64 6]) (by simp [results, Try.results36, go_sem, k0, k1, k2]) rfl ?_
                rw [← HS.out]
                rw [parsG, if_neg HG.out]
                exact ⟨Fx.nil, rfl, ⟨rfl, rfl, rfl⟩, Fx.nil_ok _, set3g bw (by omega)⟩
              · have h5 := (dgs_is (bl A)).le
                rw [bl_len] at h5
                obtain ⟨ra, hra⟩ : ∃ ra, dgs (bl A) = ra := ⟨_, rfl⟩
                rw [hra] at h3 h5
                have HRA := Lib.hid hra
                have h6 : ra < (A).size := by omega
                clear hga h1 h2 h3 h5 hra
                go_wp2_with fail
                refine (frow_any _ A ra sza HRA.out).mono ?_
                rintro e wn' ⟨rfl, rfl⟩
                have tk := bk
                obtain ⟨k0, k1, k2, kf0, kf1, kf2, klt, kb⟩ := tk
                clear kb
                go_wp2_with fail
                refine bodyPost_ret (v := .tuple #[(Fx.nil : Fx).val, .int .i64 6]) (by simp [results, Try.results36, go_sem, k0, k1, k2]) rfl ?_
                rw [← HS.out]
                rw [parsG, if_neg HG.out]
                exact ⟨Fx.nil, rfl, ⟨rfl, rfl, rfl⟩, Fx.nil_ok _, set3g bw (by omega)⟩
      · obtain ⟨B, hB⟩ : ∃ B, (⟨#[49]⟩ : ByteArray) = B := ⟨_, rfl⟩
        have hbB : bl B = [49] := by rw [← hB]; rfl
        have szb : B.size ≤ 9223372036854775807 := by rw [← bl_len, hbB]; simp
        have HS : Hid (parsG false (bl s) (bl B) = S) := Lib.hid (by rw [← HS0.out, splitF, hn, if_neg hsl, hbB])
        have sza := hsz
        by_cases hlt : n < s.size
        · have hT47 : ¬ s[n].toNat = 47 := fun h => hsl (by rw [List.getElem?_eq_getElem (by rw [bl_len]; exact hlt), bl_at s n hlt, h])
          have hT48 : ((s[n].toNat : Int) == 47) = false := beq_eq_false_iff_ne.2 (by omega)
          clear hn hsl hbB HS0
          go_wp2_with fail
          refine (frow_any _ s n hsz HN.out).mono ?_
          rintro e wn' ⟨rfl, rfl⟩
          go_upto_region 8 with fail
          clear hB hT47 hT48
          skip
          by_cases hga : goodL (bl s) ∧ goodL (bl B)
          · have HG := Lib.hid hga
            have ea : (s).toList.isEmpty = false := by rw [str_empty]; exact decide_eq_false hga.1.1
            have eb : (B).toList.isEmpty = false := by rw [str_empty]; exact decide_eq_false hga.2.1
            have ra : Hid (dgs (bl s) = (s).size) := Lib.hid (by rw [← bl_len]; exact hga.1.2)
            have rb : Hid (dgs (bl B) = (B).size) := Lib.hid (by rw [← bl_len]; exact hga.2.2)
            clear hga
            skip
            go_wp2_with fail
            refine (frow_any _ s (s).size sza ra.out).mono ?_
            rintro e wn' ⟨rfl, rfl⟩
            go_wp2_with fail
            refine (frow_any _ B (B).size szb rb.out).mono ?_
            rintro e wn' ⟨rfl, rfl⟩
            go_wp2_with fail
            obtain ⟨RA, EA, hpa⟩ : ∃ RA EA, parseS (bl s) = (RA, EA) := ⟨_, _, rfl⟩
            obtain ⟨RB, EB, hpb⟩ : ∃ RB EB, parseS (bl B) = (RB, EB) := ⟨_, _, rfl⟩
            have HPA := Lib.hid hpa
            have HPB := Lib.hid hpb
            clear hpa hpb
            refine (parse_any _ s RA EA sza HPA.out).mono ?_
            rintro e wn ⟨AN, cN, rfl, na, bb⟩
            try replace bx := bx.below bb
            try replace by_ := by_.below bb
            try replace bk := bk.below bb
            try replace okx := okx.below bb
            try replace oky := oky.below bb
            try replace ok1 := ok1.below bb
            try replace ok2 := ok2.below bb
            try replace ok3 := ok3.below bb
            try replace na := na.below bb
            try replace nb := nb.below bb
            try replace nc := nc.below bb
            try replace nd := nd.below bb
            try replace ne := ne.below bb
            replace bw := below_on bw bb bw.size
            clear bb
            go_wp2_with fail
            refine (parse_any _ B RB EB szb HPB.out).mono ?_
            rintro e wn ⟨AD, cD, rfl, nb, bb⟩
            try replace bx := bx.below bb
            try replace by_ := by_.below bb
            try replace bk := bk.below bb
            try replace okx := okx.below bb
            try replace oky := oky.below bb
            try replace ok1 := ok1.below bb
            try replace ok2 := ok2.below bb
            try replace ok3 := ok3.below bb
            try replace na := na.below bb
            try replace nb := nb.below bb
            try replace nc := nc.below bb
            try replace nd := nd.below bb
            try replace ne := ne.below bb
            replace bw := below_on bw bb bw.size
            clear bb
            by_cases ha0 : EA = 0
            · by_cases hb0 : EB = 0
              · have la := parseS_lim (bl s) (by rw [HPA.out]; exact ha0)
                have lb := parseS_lim (bl B) (by rw [HPB.out]; exact hb0)
                rw [HPA.out] at la
                rw [HPB.out] at lb
                have la1 : (lim (nv RA)).length ≤ 512 := la.1
                have la2 : RA.length ≤ 512 := la.2
                have lb1 : (lim (nv RB)).length ≤ 512 := lb.1
                have lb2 : RB.length ≤ 512 := lb.2
                have HA0 := Lib.hid ha0
                have HB0 := Lib.hid hb0
                clear la lb
                by_cases hz : nv RB = 0
                · have hbz : ((bits2 (nv RB) : Int) == 0) = true := by rw [hz]; rfl
                  have HZ := Lib.hid hz
                  clear hz
                  go_wp2_with fail
                  refine (bits_any _ AD cD _ RB nb rfl (by omega)).mono ?_
                  rintro e wn ⟨rfl, rfl⟩
                  have tk := bk
                  obtain ⟨k0, k1, k2, kf0, kf1, kf2, klt, kb⟩ := tk
                  clear kb
                  go_wp2_with fail
                  refine bodyPost_ret (v := .tuple #[(Fx.nil : Fx).val, .int .i64 3]) (by simp [results, Try.results36, go_sem, k0, k1, k2]) rfl ?_
                  rw [← HS.out]
                  rw [parsG, if_pos HG.out, valS, HPA.out, HPB.out, if_neg (no2 HA0.out HB0.out), if_pos HZ.out]
                  exact ⟨Fx.nil, rfl, ⟨rfl, rfl, rfl⟩, Fx.nil_ok _, set3g bw (by omega)⟩
                · have hbz : ((bits2 (nv RB) : Int) == 0) = false := beq_eq_false_iff_ne.2 (by have := (bits2_pos (nv RB)).2 hz; omega)
                  have HZ : Hid (¬ nv RB = 0) := hz
                  clear hz
                  go_wp2_with fail
                  refine (bits_any _ AD cD _ RB nb rfl (by omega)).mono ?_
                  rintro e wn ⟨rfl, rfl⟩
                  go_wp2_with fail
                  refine (flowest_any _ false AN AD cN cD _ _ RA RB na nb rfl rfl HZ.out (by omega) (by omega) la1 lb1).mono ?_
                  rintro e wn ⟨x1, rfl, hs1, ok1, bb⟩
                  have HS1 := Lib.hid hs1
                  clear hs1
                  try replace bx := bx.below bb
                  try replace by_ := by_.below bb
                  try replace bk := bk.below bb
                  try replace okx := okx.below bb
                  try replace oky := oky.below bb
                  try replace ok1 := ok1.below bb
                  try replace ok2 := ok2.below bb
                  try replace ok3 := ok3.below bb
                  try replace na := na.below bb
                  try replace nb := nb.below bb
                  try replace nc := nc.below bb
                  try replace nd := nd.below bb
                  try replace ne := ne.below bb
                  replace bw := below_on bw bb bw.size
                  clear bb
                  have tk := bk
                  obtain ⟨k0, k1, k2, kf0, kf1, kf2, klt, kb⟩ := tk
                  clear kb
                  go_wp2_with fail
                  refine bodyPost_ret (v := .tuple #[(x1 : Fx).val, .int .i64 (frS (qv false (nv RA) (nv RB))).2.2.2]) (by simp [results, Try.results36, go_sem, k0, k1, k2]) rfl ?_
                  have hSS : S = frS (qv false (nv RA) (nv RB)) := by
                    rw [← HS.out, parsG, if_pos HG.out, valS, HPA.out, HPB.out, if_neg (no2 HA0.out HB0.out), if_neg HZ.out]
                  rw [hSS]
                  exact ⟨x1, rfl, HS1.out, set3_ok ok1 bk rfl rfl rfl, set3g bw (by omega)⟩
              · have hb1 : (EB == 0) = false := beq_eq_false_iff_ne.2 hb0
                have hb2 : (EB != 0) = true := bne_iff_ne.2 hb0
                have HB0 : Hid (¬ EB = 0) := hb0
                have HA0 := Lib.hid ha0
                clear hb0
                skip
                have tk := bk
                obtain ⟨k0, k1, k2, kf0, kf1, kf2, klt, kb⟩ := tk
                clear kb
                go_wp2_with fail
                refine bodyPost_ret (v := .tuple #[(Fx.nil : Fx).val, .int .i64 2]) (by simp [results, Try.results36, go_sem, k0, k1, k2]) rfl ?_
                rw [← HS.out]
                rw [parsG, if_pos HG.out, valS, HPA.out, HPB.out, if_pos (.inr HB0.out)]
                exact ⟨Fx.nil, rfl, ⟨rfl, rfl, rfl⟩, Fx.nil_ok _, set3g bw (by omega)⟩
            · have hb1 : (EA == 0) = false := beq_eq_false_iff_ne.2 ha0
              have hb2 : (EA != 0) = true := bne_iff_ne.2 ha0
              have HA0 : Hid (¬ EA = 0) := ha0
              clear ha0
              skip
              have tk := bk
              obtain ⟨k0, k1, k2, kf0, kf1, kf2, klt, kb⟩ := tk
              clear kb
              go_wp2_with fail
              refine bodyPost_ret (v := .tuple #[(Fx.nil : Fx).val, .int .i64 2]) (by simp [results, Try.results36, go_sem, k0, k1, k2]) rfl ?_
              rw [← HS.out]
              rw [parsG, if_pos HG.out, valS, HPA.out, HPB.out, if_pos (.inl HA0.out)]
              exact ⟨Fx.nil, rfl, ⟨rfl, rfl, rfl⟩, Fx.nil_ok _, set3g bw (by omega)⟩
          · have HG : Hid (¬ (goodL (bl s) ∧ goodL (bl B))) := hga
            by_cases h1 : bl s = []
            · have ea : (s).toList.isEmpty = true := by rw [str_empty]; exact decide_eq_true h1
              clear hga h1
              skip
              have tk := bk
              obtain ⟨k0, k1, k2, kf0, kf1, kf2, klt, kb⟩ := tk
              clear kb
              go_wp2_with fail
              refine bodyPost_ret (v := .tuple #[(Fx.nil : Fx).val, .int .i64 6]) (by simp [results, Try.results36, go_sem, k0, k1, k2]) rfl ?_
              rw [← HS.out]
              rw [parsG, if_neg HG.out]
              exact ⟨Fx.nil, rfl, ⟨rfl, rfl, rfl⟩, Fx.nil_ok _, set3g bw (by omega)⟩
            · have ea : (s).toList.isEmpty = false := by rw [str_empty]; exact decide_eq_false h1
              by_cases h2 : bl B = []
              · have eb : (B).toList.isEmpty = true := by rw [str_empty]; exact decide_eq_true h2
                clear hga h1 h2
                skip
                have tk := bk
                obtain ⟨k0, k1, k2, kf0, kf1, kf2, klt, kb⟩ := tk
                clear kb
                go_wp2_with fail
                refine bodyPost_ret (v := .tuple #[(Fx.nil : Fx).val, .int .i64 6]) (by simp [results, Try.results36, go_sem, k0, k1, k2]) rfl ?_
                rw [← HS.out]
                rw [parsG, if_neg HG.out]
                exact ⟨Fx.nil, rfl, ⟨rfl, rfl, rfl⟩, Fx.nil_ok _, set3g bw (by omega)⟩
              · have eb : (B).toList.isEmpty = false := by rw [str_empty]; exact decide_eq_false h2
                by_cases h3 : dgs (bl s) = (s).size
                · have h4 : ¬ dgs (bl B) = (B).size := fun h4 => hga ⟨⟨h1, by rw [bl_len]; exact h3⟩, h2, by rw [bl_len]; exact h4⟩
                  have h5 := (dgs_is (bl B)).le
                  rw [bl_len] at h5
                  obtain ⟨rb, hrb⟩ : ∃ rb, dgs (bl B) = rb := ⟨_, rfl⟩
                  rw [hrb] at h4 h5
                  have HRB := Lib.hid hrb
                  have HRA := Lib.hid h3
                  have h6 : rb < (B).size := by omega
                  clear hga h1 h2 h3 h4 h5 hrb
                  go_wp2_with fail
                  refine (frow_any _ s (s).size sza HRA.out).mono ?_
                  rintro e wn' ⟨rfl, rfl⟩
                  go_wp2_with fail
                  refine (frow_any _ B rb szb HRB.out).mono ?_
                  rintro e wn' ⟨rfl, rfl⟩
                  have tk := bk
                  obtain ⟨k0, k1, k2, kf0, kf1, kf2, klt, kb⟩ := tk
                  clear kb
                  go_wp2_with fail
                  refine bodyPost_ret (v := .tuple #[(Fx.nil : Fx).val, .int .i64 6]) (by simp [results, Try.results36, go_sem, k0, k1, k2]) rfl ?_
                  rw [← HS.out]
                  rw [parsG, if_neg HG.out]
                  exact ⟨Fx.nil, rfl, ⟨rfl, rfl, rfl⟩, Fx.nil_ok _, set3g bw (by omega)⟩
                · have h5 := (dgs_is (bl s)).le
                  rw [bl_len] at h5
                  obtain ⟨ra, hra⟩ : ∃ ra, dgs (bl s) = ra := ⟨_, rfl⟩
                  rw [hra] at h3 h5
                  have HRA := Lib.hid hra
                  have h6 : ra < (s).size := by omega
                  clear hga h1 h2 h3 h5 hra
                  go_wp2_with fail
                  refine (frow_any _ s ra sza HRA.out).mono ?_
                  rintro e wn' ⟨rfl, rfl⟩
                  have tk := bk
                  obtain ⟨k0, k1, k2, kf0, kf1, kf2, klt, kb⟩ := tk
                  clear kb
                  go_wp2_with fail
                  refine bodyPost_ret (v := .tuple #[(Fx.nil : Fx).val, .int .i64 6]) (by simp [results, Try.results36, go_sem, k0, k1, k2]) rfl ?_
                  rw [← HS.out]
                  rw [parsG, if_neg HG.out]
                  exact ⟨Fx.nil, rfl, ⟨rfl, rfl, rfl⟩, Fx.nil_ok _, set3g bw (by omega)⟩
        · clear hn hsl hbB HS0
          go_wp2_with fail
          refine (frow_any _ s n hsz HN.out).mono ?_
          rintro e wn' ⟨rfl, rfl⟩
          go_upto_region 8 with fail
          clear hB
          skip
          by_cases hga : goodL (bl s) ∧ goodL (bl B)
          · have HG := Lib.hid hga
            have ea : (s).toList.isEmpty = false := by rw [str_empty]; exact decide_eq_false hga.1.1
            have eb : (B).toList.isEmpty = false := by rw [str_empty]; exact decide_eq_false hga.2.1
            have ra : Hid (dgs (bl s) = (s).size) := Lib.hid (by rw [← bl_len]; exact hga.1.2)
            have rb : Hid (dgs (bl B) = (B).size) := Lib.hid (by rw [← bl_len]; exact hga.2.2)
            clear hga
            skip
            go_wp2_with fail
            refine (frow_any _ s (s).size sza ra.out).mono ?_
            rintro e wn' ⟨rfl, rfl⟩
            go_wp2_with fail
            refine (frow_any _ B (B).size szb rb.out).mono ?_
            rintro e wn' ⟨rfl, rfl⟩
            go_wp2_with fail
            obtain ⟨RA, EA, hpa⟩ : ∃ RA EA, parseS (bl s) = (RA, EA) := ⟨_, _, rfl⟩
            obtain ⟨RB, EB, hpb⟩ : ∃ RB EB, parseS (bl B) = (RB, EB) := ⟨_, _, rfl⟩
            have HPA := Lib.hid hpa
            have HPB := Lib.hid hpb
            clear hpa hpb
            refine (parse_any _ s RA EA sza HPA.out).mono ?_
            rintro e wn ⟨AN, cN, rfl, na, bb⟩
            try replace bx := bx.below bb
            try replace by_ := by_.below bb
            try replace bk := bk.below bb
            try replace okx := okx.below bb
            try replace oky := oky.below bb
            try replace ok1 := ok1.below bb
            try replace ok2 := ok2.below bb
            try replace ok3 := ok3.below bb
            try replace na := na.below bb
            try replace nb := nb.below bb
            try replace nc := nc.below bb
            try replace nd := nd.below bb
            try replace ne := ne.below bb
            replace bw := below_on bw bb bw.size
            clear bb
            go_wp2_with fail
            refine (parse_any _ B RB EB szb HPB.out).mono ?_
            rintro e wn ⟨AD, cD, rfl, nb, bb⟩
            try replace bx := bx.below bb
            try replace by_ := by_.below bb
            try replace bk := bk.below bb
            try replace okx := okx.below bb
            try replace oky := oky.below bb
            try replace ok1 := ok1.below bb
            try replace ok2 := ok2.below bb
            try replace ok3 := ok3.below bb
            try replace na := na.below bb
            try replace nb := nb.below bb
            try replace nc := nc.below bb
            try replace nd := nd.below bb
            try replace ne := ne.below bb
            replace bw := below_on bw bb bw.size
            clear bb
            by_cases ha0 : EA = 0
            · by_cases hb0 : EB = 0
              · have la := parseS_lim (bl s) (by rw [HPA.out]; exact ha0)
                have lb := parseS_lim (bl B) (by rw [HPB.out]; exact hb0)
                rw [HPA.out] at la
                rw [HPB.out] at lb
                have la1 : (lim (nv RA)).length ≤ 512 := la.1
                have la2 : RA.length ≤ 512 := la.2
                have lb1 : (lim (nv RB)).length ≤ 512 := lb.1
                have lb2 : RB.length ≤ 512 := lb.2
                have HA0 := Lib.hid ha0
                have HB0 := Lib.hid hb0
                clear la lb
                by_cases hz : nv RB = 0
                · have hbz : ((bits2 (nv RB) : Int) == 0) = true := by rw [hz]; rfl
                  have HZ := Lib.hid hz
                  clear hz
                  go_wp2_with fail
                  refine (bits_any _ AD cD _ RB nb rfl (by omega)).mono ?_
                  rintro e wn ⟨rfl, rfl⟩
                  have tk := bk
                  obtain ⟨k0, k1, k2, kf0, kf1, kf2, klt, kb⟩ := tk
                  clear kb
                  go_wp2_with fail
                  refine bodyPost_ret (v := .tuple #[(Fx.nil : Fx).val, .int .i64 3]) (by simp [results, Try.results36, go_sem, k0, k1, k2]) rfl ?_
                  rw [← HS.out]
                  rw [parsG, if_pos HG.out, valS, HPA.out, HPB.out, if_neg (no2 HA0.out HB0.out), if_pos HZ.out]
                  exact ⟨Fx.nil, rfl, ⟨rfl, rfl, rfl⟩, Fx.nil_ok _, set3g bw (by omega)⟩
                · have hbz : ((bits2 (nv RB) : Int) == 0) = false := beq_eq_false_iff_ne.2 (by have := (bits2_pos (nv RB)).2 hz; omega)
                  have HZ : Hid (¬ nv RB = 0) := hz
                  clear hz
                  go_wp2_with fail
                  refine (bits_any _ AD cD _ RB nb rfl (by omega)).mono ?_
                  rintro e wn ⟨rfl, rfl⟩
                  go_wp2_with fail
                  refine (flowest_any _ false AN AD cN cD _ _ RA RB na nb rfl rfl HZ.out (by omega) (by omega) la1 lb1).mono ?_
                  rintro e wn ⟨x1, rfl, hs1, ok1, bb⟩
                  have HS1 := Lib.hid hs1
                  clear hs1
                  try replace bx := bx.below bb
                  try replace by_ := by_.below bb
                  try replace bk := bk.below bb
                  try replace okx := okx.below bb
                  try replace oky := oky.below bb
                  try replace ok1 := ok1.below bb
                  try replace ok2 := ok2.below bb
                  try replace ok3 := ok3.below bb
                  try replace na := na.below bb
                  try replace nb := nb.below bb
                  try replace nc := nc.below bb
                  try replace nd := nd.below bb
                  try replace ne := ne.below bb
                  replace bw := below_on bw bb bw.size
                  clear bb
                  have tk := bk
                  obtain ⟨k0, k1, k2, kf0, kf1, kf2, klt, kb⟩ := tk
                  clear kb
                  go_wp2_with fail
                  refine bodyPost_ret (v := .tuple #[(x1 : Fx).val, .int .i64 (frS (qv false (nv RA) (nv RB))).2.2.2]) (by simp [results, Try.results36, go_sem, k0, k1, k2]) rfl ?_
                  have hSS : S = frS (qv false (nv RA) (nv RB)) := by
                    rw [← HS.out, parsG, if_pos HG.out, valS, HPA.out, HPB.out, if_neg (no2 HA0.out HB0.out), if_neg HZ.out]
                  rw [hSS]
                  exact ⟨x1, rfl, HS1.out, set3_ok ok1 bk rfl rfl rfl, set3g bw (by omega)⟩
              · have hb1 : (EB == 0) = false := beq_eq_false_iff_ne.2 hb0
                have hb2 : (EB != 0) = true := bne_iff_ne.2 hb0
                have HB0 : Hid (¬ EB = 0) := hb0
                have HA0 := Lib.hid ha0
                clear hb0
                skip
                have tk := bk
                obtain ⟨k0, k1, k2, kf0, kf1, kf2, klt, kb⟩ := tk
                clear kb
                go_wp2_with fail
                refine bodyPost_ret (v := .tuple #[(Fx.nil : Fx).val, .int .i64 2]) (by simp [results, Try.results36, go_sem, k0, k1, k2]) rfl ?_
                rw [← HS.out]
                rw [parsG, if_pos HG.out, valS, HPA.out, HPB.out, if_pos (.inr HB0.out)]
                exact ⟨Fx.nil, rfl, ⟨rfl, rfl, rfl⟩, Fx.nil_ok _, set3g bw (by omega)⟩
            · have hb1 : (EA == 0) = false := beq_eq_false_iff_ne.2 ha0
              have hb2 : (EA != 0) = true := bne_iff_ne.2 ha0
              have HA0 : Hid (¬ EA = 0) := ha0
              clear ha0
              skip
              have tk := bk
              obtain ⟨k0, k1, k2, kf0, kf1, kf2, klt, kb⟩ := tk
              clear kb
              go_wp2_with fail
              refine bodyPost_ret (v := .tuple #[(Fx.nil : Fx).val, .int .i64 2]) (by simp [results, Try.results36, go_sem, k0, k1, k2]) rfl ?_
              rw [← HS.out]
              rw [parsG, if_pos HG.out, valS, HPA.out, HPB.out, if_pos (.inl HA0.out)]
              exact ⟨Fx.nil, rfl, ⟨rfl, rfl, rfl⟩, Fx.nil_ok _, set3g bw (by omega)⟩
          · have HG : Hid (¬ (goodL (bl s) ∧ goodL (bl B))) := hga
            by_cases h1 : bl s = []
            · have ea : (s).toList.isEmpty = true := by rw [str_empty]; exact decide_eq_true h1
              clear hga h1
              skip
              have tk := bk
              obtain ⟨k0, k1, k2, kf0, kf1, kf2, klt, kb⟩ := tk
              clear kb
              go_wp2_with fail
              refine bodyPost_ret (v := .tuple #[(Fx.nil : Fx).val, .int .i64 6]) (by simp [results, Try.results36, go_sem, k0, k1, k2]) rfl ?_
              rw [← HS.out]
              rw [parsG, if_neg HG.out]
              exact ⟨Fx.nil, rfl, ⟨rfl, rfl, rfl⟩, Fx.nil_ok _, set3g bw (by omega)⟩
            · have ea : (s).toList.isEmpty = false := by rw [str_empty]; exact decide_eq_false h1
              by_cases h2 : bl B = []
              · have eb : (B).toList.isEmpty = true := by rw [str_empty]; exact decide_eq_true h2
                clear hga h1 h2
                skip
                have tk := bk
                obtain ⟨k0, k1, k2, kf0, kf1, kf2, klt, kb⟩ := tk
                clear kb
                go_wp2_with fail
                refine bodyPost_ret (v := .tuple #[(Fx.nil : Fx).val, .int .i64 6]) (by simp [results, Try.results36, go_sem, k0, k1, k2]) rfl ?_
                rw [← HS.out]
                rw [parsG, if_neg HG.out]
                exact ⟨Fx.nil, rfl, ⟨rfl, rfl, rfl⟩, Fx.nil_ok _, set3g bw (by omega)⟩
              · have eb : (B).toList.isEmpty = false := by rw [str_empty]; exact decide_eq_false h2
                by_cases h3 : dgs (bl s) = (s).size
                · have h4 : ¬ dgs (bl B) = (B).size := fun h4 => hga ⟨⟨h1, by rw [bl_len]; exact h3⟩, h2, by rw [bl_len]; exact h4⟩
                  have h5 := (dgs_is (bl B)).le
                  rw [bl_len] at h5
                  obtain ⟨rb, hrb⟩ : ∃ rb, dgs (bl B) = rb := ⟨_, rfl⟩
                  rw [hrb] at h4 h5
                  have HRB := Lib.hid hrb
                  have HRA := Lib.hid h3
                  have h6 : rb < (B).size := by omega
                  clear hga h1 h2 h3 h4 h5 hrb
                  go_wp2_with fail
                  refine (frow_any _ s (s).size sza HRA.out).mono ?_
                  rintro e wn' ⟨rfl, rfl⟩
                  go_wp2_with fail
                  refine (frow_any _ B rb szb HRB.out).mono ?_
                  rintro e wn' ⟨rfl, rfl⟩
                  have tk := bk
                  obtain ⟨k0, k1, k2, kf0, kf1, kf2, klt, kb⟩ := tk
                  clear kb
                  go_wp2_with fail
                  refine bodyPost_ret (v := .tuple #[(Fx.nil : Fx).val, .int .i64 6]) (by simp [results, Try.results36, go_sem, k0, k1, k2]) rfl ?_
                  rw [← HS.out]
                  rw [parsG, if_neg HG.out]
                  exact ⟨Fx.nil, rfl, ⟨rfl, rfl, rfl⟩, Fx.nil_ok _, set3g bw (by omega)⟩
                · have h5 := (dgs_is (bl s)).le
                  rw [bl_len] at h5
                  obtain ⟨ra, hra⟩ : ∃ ra, dgs (bl s) = ra := ⟨_, rfl⟩
                  rw [hra] at h3 h5
                  have HRA := Lib.hid hra
                  have h6 : ra < (s).size := by omega
                  clear hga h1 h2 h3 h5 hra
                  go_wp2_with fail
                  refine (frow_any _ s ra sza HRA.out).mono ?_
                  rintro e wn' ⟨rfl, rfl⟩
                  have tk := bk
                  obtain ⟨k0, k1, k2, kf0, kf1, kf2, klt, kb⟩ := tk
                  clear kb
                  go_wp2_with fail
                  refine bodyPost_ret (v := .tuple #[(Fx.nil : Fx).val, .int .i64 6]) (by simp [results, Try.results36, go_sem, k0, k1, k2]) rfl ?_
                  rw [← HS.out]
                  rw [parsG, if_neg HG.out]
                  exact ⟨Fx.nil, rfl, ⟨rfl, rfl, rfl⟩, Fx.nil_ok _, set3g bw (by omega)⟩
    · have h1 : 0 < s.size := by omega
      have he : s.toList.isEmpty = false := by
        rw [str_empty]; apply decide_eq_false; intro h; exact h0 (by rw [← bl_len, h]; rfl)
      have hm2 : ¬ s[0].toNat = 45 := fun h => hm (by rw [List.getElem?_eq_getElem (by rw [bl_len]; exact h1), bl_at s 0 h1, h])
      have hm3 : ((s[0].toNat : Int) == 45) = false := beq_eq_false_iff_ne.2 (by omega)
      clear hm hS
      skip
      go_enter Try.func36, Try.ntmps36
      go_upto_region 1 with fail
      have bw := (Below.refl w.heap.size w).alloc (Nat.le_refl _) (.cells #[.bool false, .slice none 0 0, .slice none 0 0] 25)
      have bk := bk3_new w
      generalize (w.alloc (.cells #[.bool false, .slice none 0 0, .slice none 0 0] 25)) = wn at bw bk ⊢
      go_upto_region 4 with fail
      clear he hm2 hm3
      skip
      obtain ⟨n, hn⟩ : ∃ n, dgs (bl s) = n := ⟨_, rfl⟩
      have HN := Lib.hid hn
      have hnl := (dgs_is (bl s)).le
      rw [hn, bl_len] at hnl
      by_cases hsl : (bl s)[n]? = some 47
      · have hlt : n < s.size := by
          rcases Nat.lt_or_ge n s.size with h | h
          · exact h
          · rw [List.getElem?_eq_none (by rw [bl_len]; omega)] at hsl; cases hsl
        have hT47 : s[n].toNat = 47 := by
          rw [List.getElem?_eq_getElem (by rw [bl_len]; exact hlt), bl_at s n hlt] at hsl
          exact Option.some.inj hsl
        obtain ⟨A, hA⟩ : ∃ A, s.extract 0 n = A := ⟨_, rfl⟩
        obtain ⟨B, hB⟩ : ∃ B, s.extract (n + 1) s.size = B := ⟨_, rfl⟩
        have hbA : bl A = (bl s).take n := by rw [← hA, bl_ext]; rfl
        have hbB : bl B = (bl s).drop (n + 1) := by rw [← hB, bl_ext, List.take_of_length_le (by rw [bl_len]; exact Nat.le_refl _)]
        have sza : A.size ≤ 9223372036854775807 := by rw [← bl_len, hbA, List.length_take, bl_len]; omega
        have szb : B.size ≤ 9223372036854775807 := by rw [← bl_len, hbB, List.length_drop, bl_len]; omega
        have HS : Hid (parsG false (bl A) (bl B) = S) := Lib.hid (by rw [← HS0.out, splitF, hn, if_pos hsl, hbA, hbB])
        have hw1 : IntKind.i64.wrap ((n : Int) + 1) = (n : Int) + 1 := IntWalk.i64_in _ (by omega)
        clear hn hsl hbA hbB HS0
        go_wp2_with fail
        refine (frow_any _ s n hsz HN.out).mono ?_
        rintro e wn' ⟨rfl, rfl⟩
        go_wp2_with fail
        go_quiet (fail)
        go_upto_region 8 with fail
        have bb := below_drewN (Below.refl wn.heap.size wn) nq
        generalize wn.drewN nq = wx at bb ⊢
        skip
        try replace bx := bx.below bb
        try replace by_ := by_.below bb
        try replace bk := bk.below bb
        try replace okx := okx.below bb
        try replace oky := oky.below bb
        try replace ok1 := ok1.below bb
        try replace ok2 := ok2.below bb
        try replace ok3 := ok3.below bb
        try replace na := na.below bb
        try replace nb := nb.below bb
        try replace nc := nc.below bb
        try replace nd := nd.below bb
        try replace ne := ne.below bb
        replace bw := below_on bw bb bw.size
        clear bb
        clear hA hB hw1 hT47
        skip
        by_cases hga : goodL (bl A) ∧ goodL (bl B)
        · have HG := Lib.hid hga
          have ea : (A).toList.isEmpty = false := by rw [str_empty]; exact decide_eq_false hga.1.1
          have eb : (B).toList.isEmpty = false := by rw [str_empty]; exact decide_eq_false hga.2.1
          have ra : Hid (dgs (bl A) = (A).size) := Lib.hid (by rw [← bl_len]; exact hga.1.2)
          have rb : Hid (dgs (bl B) = (B).size) := Lib.hid (by rw [← bl_len]; exact hga.2.2)
          clear hga
          skip
          go_wp2_with fail
          refine (frow_any _ A (A).size sza ra.out).mono ?_
          rintro e wn' ⟨rfl, rfl⟩
          go_wp2_with fail
          refine (frow_any _ B (B).size szb rb.out).mono ?_
          rintro e wn' ⟨rfl, rfl⟩
          go_wp2_with fail
          obtain ⟨RA, EA, hpa⟩ : ∃ RA EA, parseS (bl A) = (RA, EA) := ⟨_, _, rfl⟩
          obtain ⟨RB, EB, hpb⟩ : ∃ RB EB, parseS (bl B) = (RB, EB) := ⟨_, _, rfl⟩
          have HPA := Lib.hid hpa
          have HPB := Lib.hid hpb
          clear hpa hpb
          refine (parse_any _ A RA EA sza HPA.out).mono ?_
          rintro e wn ⟨AN, cN, rfl, na, bb⟩
          try replace bx := bx.below bb
          try replace by_ := by_.below bb
          try replace bk := bk.below bb
          try replace okx := okx.below bb
          try replace oky := oky.below bb
          try replace ok1 := ok1.below bb
          try replace ok2 := ok2.below bb
          try replace ok3 := ok3.below bb
          try replace na := na.below bb
          try replace nb := nb.below bb
          try replace nc := nc.below bb
          try replace nd := nd.below bb
          try replace ne := ne.below bb
          replace bw := below_on bw bb bw.size
          clear bb
          go_wp2_with fail
          refine (parse_any _ B RB EB szb HPB.out).mono ?_
          rintro e wn ⟨AD, cD, rfl, nb, bb⟩
          try replace bx := bx.below bb
          try replace by_ := by_.below bb
          try replace bk := bk.below bb
          try replace okx := okx.below bb
          try replace oky := oky.below bb
          try replace ok1 := ok1.below bb
          try replace ok2 := ok2.below bb
          try replace ok3 := ok3.below bb
          try replace na := na.below bb
          try replace nb := nb.below bb
          try replace nc := nc.below bb
          try replace nd := nd.below bb
          try replace ne := ne.below bb
          replace bw := below_on bw bb bw.size
          clear bb
          by_cases ha0 : EA = 0
          · by_cases hb0 : EB = 0
            · have la := parseS_lim (bl A) (by rw [HPA.out]; exact ha0)
              have lb := parseS_lim (bl B) (by rw [HPB.out]; exact hb0)
              rw [HPA.out] at la
              rw [HPB.out] at lb
              have la1 : (lim (nv RA)).length ≤ 512 := la.1
              have la2 : RA.length ≤ 512 := la.2
              have lb1 : (lim (nv RB)).length ≤ 512 := lb.1
              have lb2 : RB.length ≤ 512 := lb.2
              have HA0 := Lib.hid ha0
              have HB0 := Lib.hid hb0
              clear la lb
              by_cases hz : nv RB = 0
              · have hbz : ((bits2 (nv RB) : Int) == 0) = true := by rw [hz]; rfl
                have HZ := Lib.hid hz
                clear hz
                go_wp2_with fail
                refine (bits_any _ AD cD _ RB nb rfl (by omega)).mono ?_
                rintro e wn ⟨rfl, rfl⟩
                have tk := bk
                obtain ⟨k0, k1, k2, kf0, kf1, kf2, klt, kb⟩ := tk
                clear kb
                go_wp2_with fail
                refine bodyPost_ret (v := .tuple #[(Fx.nil : Fx).val, .int .i64 3]) (by simp [results, Try.results36, go_sem, k0, k1, k2]) rfl ?_
                rw [← HS.out]
                rw [parsG, if_pos HG.out, valS, HPA.out, HPB.out, if_neg (no2 HA0.out HB0.out), if_pos HZ.out]
                exact ⟨Fx.nil, rfl, ⟨rfl, rfl, rfl⟩, Fx.nil_ok _, set3g bw (by omega)⟩
              · have hbz : ((bits2 (nv RB) : Int) == 0) = false := beq_eq_false_iff_ne.2 (by have := (bits2_pos (nv RB)).2 hz; omega)
                have HZ : Hid (¬ nv RB = 0) := hz
                clear hz
                go_wp2_with fail
                refine (bits_any _ AD cD _ RB nb rfl (by omega)).mono ?_
                rintro e wn ⟨rfl, rfl⟩
                go_wp2_with fail
                refine (flowest_any _ false AN AD cN cD _ _ RA RB na nb rfl rfl HZ.out (by omega) (by omega) la1 lb1).mono ?_
                rintro e wn ⟨x1, rfl, hs1, ok1, bb⟩
                have HS1 := Lib.hid hs1
                clear hs1
                try replace bx := bx.below bb
                try replace by_ := by_.below bb
                try replace bk := bk.below bb
                try replace okx := okx.below bb
                try replace oky := oky.below bb
                try replace ok1 := ok1.below bb
                try replace ok2 := ok2.below bb
                try replace ok3 := ok3.below bb
                try replace na := na.below bb
                try replace nb := nb.below bb
                try replace nc := nc.below bb
                try replace nd := nd.below bb
                try replace ne := ne.below bb
                replace bw := below_on bw bb bw.size
                clear bb
                have tk := bk
                obtain ⟨k0, k1, k2, kf0, kf1, kf2, klt, kb⟩ := tk
                clear kb
                go_wp2_with fail
                refine bodyPost_ret (v := .tuple #[(x1 : Fx).val, .int .i64 (frS (qv false (nv RA) (nv RB))).2.2.2]) (by simp [results, Try.results36, go_sem, k0, k1, k2]) rfl ?_
                have hSS : S = frS (qv false (nv RA) (nv RB)) := by
                  rw [← HS.out, parsG, if_pos HG.out, valS, HPA.out, HPB.out, if_neg (no2 HA0.out HB0.out), if_neg HZ.out]
                rw [hSS]
                exact ⟨x1, rfl, HS1.out, set3_ok ok1 bk rfl rfl rfl, set3g bw (by omega)⟩
            · have hb1 : (EB == 0) = false := beq_eq_false_iff_ne.2 hb0
              have hb2 : (EB != 0) = true := bne_iff_ne.2 hb0
              have HB0 : Hid (¬ EB = 0) := hb0
              have HA0 := Lib.hid ha0
              clear hb0
              skip
              have tk := bk
              obtain ⟨k0, k1, k2, kf0, kf1, kf2, klt, kb⟩ := tk
              clear kb
              go_wp2_with fail
              refine bodyPost_ret (v := .tuple #[(Fx.nil : Fx).val, .int .i64 2]) (by simp [results, Try.results36, go_sem, k0, k1, k2]) rfl ?_
              rw [← HS.out]
              rw [parsG, if_pos HG.out, valS, HPA.out, HPB.out, if_pos (.inr HB0.out)]
              exact ⟨Fx.nil, rfl, ⟨rfl, rfl, rfl⟩, Fx.nil_ok _, set3g bw (by omega)⟩
          · have hb1 : (EA == 0) = false := beq_eq_false_iff_ne.2 ha0
            have hb2 : (EA != 0) = true := bne_iff_ne.2 ha0
            have HA0 : Hid (¬ EA = 0) := ha0
            clear ha0
            skip
            have tk := bk
            obtain ⟨k0, k1, k2, kf0, kf1, kf2, klt, kb⟩ := tk
            clear kb
            go_wp2_with fail
            refine bodyPost_ret (v := .tuple #[(Fx.nil : Fx).val, .int .i64 2]) (by simp [results, Try.results36, go_sem, k0, k1, k2]) rfl ?_
            rw [← HS.out]
            rw [parsG, if_pos HG.out, valS, HPA.out, HPB.out, if_pos (.inl HA0.out)]
            exact ⟨Fx.nil, rfl, ⟨rfl, rfl, rfl⟩, Fx.nil_ok _, set3g bw (by omega)⟩
        · have HG : Hid (¬ (goodL (bl A) ∧ goodL (bl B))) := hga
          by_cases h1 : bl A = []
          · have ea : (A).toList.isEmpty = true := by rw [str_empty]; exact decide_eq_true h1
            clear hga h1
            skip
            have tk := bk
            obtain ⟨k0, k1, k2, kf0, kf1, kf2, klt, kb⟩ := tk
            clear kb
            go_wp2_with fail
            refine bodyPost_ret (v := .tuple #[(Fx.nil : Fx).val, .int .i64 6]) (by simp [results, Try.results36, go_sem, k0, k1, k2]) rfl ?_
            rw [← HS.out]
            rw [parsG, if_neg HG.out]
            exact ⟨Fx.nil, rfl, ⟨rfl, rfl, rfl⟩, Fx.nil_ok _, set3g bw (by omega)⟩
          · have ea : (A).toList.isEmpty = false := by rw [str_empty]; exact decide_eq_false h1
            by_cases h2 : bl B = []
            · have eb : (B).toList.isEmpty = true := by rw [str_empty]; exact decide_eq_true h2
              clear hga h1 h2
              skip
              have tk := bk
              obtain ⟨k0, k1, k2, kf0, kf1, kf2, klt, kb⟩ := tk
              clear kb
              go_wp2_with fail
              refine bodyPost_ret (v := .tuple #[(Fx.nil : Fx).val, .int .i64 6]) (by simp [results, Try.results36, go_sem, k0, k1, k2]) rfl ?_
              rw [← HS.out]
              rw [parsG, if_neg HG.out]
              exact ⟨Fx.nil, rfl, ⟨rfl, rfl, rfl⟩, Fx.nil_ok _, set3g bw (by omega)⟩
            · have eb : (B).toList.isEmpty = false := by rw [str_empty]; exact decide_eq_false h2
              by_cases h3 : dgs (bl A) = (A).size
              · have h4 : ¬ dgs (bl B) = (B).size := fun h4 => hga ⟨⟨h1, by rw [bl_len]; exact h3⟩, h2, by rw [bl_len]; exact h4⟩
                have h5 := (dgs_is (bl B)).le
                rw [bl_len] at h5
                obtain ⟨rb, hrb⟩ : ∃ rb, dgs (bl B) = rb := ⟨_, rfl⟩
                rw [hrb] at h4 h5
                have HRB := Lib.hid hrb
                have HRA := Lib.hid h3
                have h6 : rb < (B).size := by omega
                clear hga h1 h2 h3 h4 h5 hrb
                go_wp2_with fail
                refine (frow_any _ A (A).size sza HRA.out).mono ?_
                rintro e wn' ⟨rfl, rfl⟩
                go_wp2_with fail
                refine (frow_any _ B rb szb HRB.out).mono ?_
                rintro e wn' ⟨rfl, rfl⟩
                have tk := bk
                obtain ⟨k0, k1, k2, kf0, kf1, kf2, klt, kb⟩ := tk
                clear kb
                go_wp2_with fail
                refine bodyPost_ret (v := .tuple #[(Fx.nil : Fx).val, .int .i64 6]) (by simp [results, Try.results36, go_sem, k0, k1, k2]) rfl ?_
                rw [← HS.out]
                rw [parsG, if_neg HG.out]
                exact ⟨Fx.nil, rfl, ⟨rfl, rfl, rfl⟩, Fx.nil_ok _, set3g bw (by omega)⟩
              · have h5 := (dgs_is (bl A)).le
                rw [bl_len] at h5
                obtain ⟨ra, hra⟩ : ∃ ra, dgs (bl A) = ra := ⟨_, rfl⟩
                rw [hra] at h3 h5
                have HRA := Lib.hid hra
                have h6 : ra < (A).size := by omega
                clear hga h1 h2 h3 h5 hra
                go_wp2_with fail
                refine (frow_any _ A ra sza HRA.out).mono ?_
                rintro e wn' ⟨rfl, rfl⟩
                have tk := bk
                obtain ⟨k0, k1, k2, kf0, kf1, kf2, klt, kb⟩ := tk
                clear kb
                go_wp2_with fail
                refine bodyPost_ret (v := .tuple #[(Fx.nil : Fx).val, .int .i64 6]) (by simp [results, Try.results36, go_sem, k0, k1, k2]) rfl ?_
                rw [← HS.out]
                rw [parsG, if_neg HG.out]
                exact ⟨Fx.nil, rfl, ⟨rfl, rfl, rfl⟩, Fx.nil_ok _, set3g bw (by omega)⟩
      · obtain ⟨B, hB⟩ : ∃ B, (⟨#[49]⟩ : ByteArray) = B := ⟨_, rfl⟩
        have hbB : bl B = [49] := by rw [← hB]; rfl
        have szb : B.size ≤ 9223372036854775807 := by rw [← bl_len, hbB]; simp
        have HS : Hid (parsG false (bl s) (bl B) = S) := Lib.hid (by rw [← HS0.out, splitF, hn, if_neg hsl, hbB])
        have sza := hsz
        by_cases hlt : n < s.size
        · have hT47 : ¬ s[n].toNat = 47 := fun h => hsl (by rw [List.getElem?_eq_getElem (by rw [bl_len]; exact hlt), bl_at s n hlt, h])
          have hT48 : ((s[n].toNat : Int) == 47) = false := beq_eq_false_iff_ne.2 (by omega)
          clear hn hsl hbB HS0
          go_wp2_with fail
          refine (frow_any _ s n hsz HN.out).mono ?_
          rintro e wn' ⟨rfl, rfl⟩
          go_upto_region 8 with fail
          clear hB hT47 hT48
          skip
          by_cases hga : goodL (bl s) ∧ goodL (bl B)
          · have HG := Lib.hid hga
            have ea : (s).toList.isEmpty = false := by rw [str_empty]; exact decide_eq_false hga.1.1
            have eb : (B).toList.isEmpty = false := by rw [str_empty]; exact decide_eq_false hga.2.1
            have ra : Hid (dgs (bl s) = (s).size) := Lib.hid (by rw [← bl_len]; exact hga.1.2)
            have rb : Hid (dgs (bl B) = (B).size) := Lib.hid (by rw [← bl_len]; exact hga.2.2)
            clear hga
            skip
            go_wp2_with fail
            refine (frow_any _ s (s).size sza ra.out).mono ?_
            rintro e wn' ⟨rfl, rfl⟩
            go_wp2_with fail
            refine (frow_any _ B (B).size szb rb.out).mono ?_
            rintro e wn' ⟨rfl, rfl⟩
            go_wp2_with fail
            obtain ⟨RA, EA, hpa⟩ : ∃ RA EA, parseS (bl s) = (RA, EA) := ⟨_, _, rfl⟩
            obtain ⟨RB, EB, hpb⟩ : ∃ RB EB, parseS (bl B) = (RB, EB) := ⟨_, _, rfl⟩
            have HPA := Lib.hid hpa
            have HPB := Lib.hid hpb
            clear hpa hpb
            refine (parse_any _ s RA EA sza HPA.out).mono ?_
            rintro e wn ⟨AN, cN, rfl, na, bb⟩
            try replace bx := bx.below bb
            try replace by_ := by_.below bb
            try replace bk := bk.below bb
            try replace okx := okx.below bb
            try replace oky := oky.below bb
            try replace ok1 := ok1.below bb
            try replace ok2 := ok2.below bb
            try replace ok3 := ok3.below bb
            try replace na := na.below bb
            try replace nb := nb.below bb
            try replace nc := nc.below bb
            try replace nd := nd.below bb
            try replace ne := ne.below bb
            replace bw := below_on bw bb bw.size
            clear bb
            go_wp2_with fail
            refine (parse_any _ B RB EB szb HPB.out).mono ?_
            rintro e wn ⟨AD, cD, rfl, nb, bb⟩
            try replace bx := bx.below bb
            try replace by_ := by_.below bb
            try replace bk := bk.below bb
            try replace okx := okx.below bb
            try replace oky := oky.below bb
            try replace ok1 := ok1.below bb
            try replace ok2 := ok2.below bb
            try replace ok3 := ok3.below bb
            try replace na := na.below bb
            try replace nb := nb.below bb
            try replace nc := nc.below bb
            try replace nd := nd.below bb
            try replace ne := ne.below bb
            replace bw := below_on bw bb bw.size
            clear bb
            by_cases ha0 : EA = 0
            · by_cases hb0 : EB = 0
              · have la := parseS_lim (bl s) (by rw [HPA.out]; exact ha0)
                have lb := parseS_lim (bl B) (by rw [HPB.out]; exact hb0)
                rw [HPA.out] at la
                rw [HPB.out] at lb
                have la1 : (lim (nv RA)).length ≤ 512 := la.1
                have la2 : RA.length ≤ 512 := la.2
                have lb1 : (lim (nv RB)).length ≤ 512 := lb.1
                have lb2 : RB.length ≤ 512 := lb.2
                have HA0 := Lib.hid ha0
                have HB0 := Lib.hid hb0
                clear la lb
                by_cases hz : nv RB = 0
                · have hbz : ((bits2 (nv RB) : Int) == 0) = true := by rw [hz]; rfl
                  have HZ := Lib.hid hz
                  clear hz
                  go_wp2_with fail
                  refine (bits_any _ AD cD _ RB nb rfl (by omega)).mono ?_
                  rintro e wn ⟨rfl, rfl⟩
                  have tk := bk
                  obtain ⟨k0, k1, k2, kf0, kf1, kf2, klt, kb⟩ := tk
                  clear kb
                  go_wp2_with fail
                  refine bodyPost_ret (v := .tuple #[(Fx.nil : Fx).val, .int .i64 3]) (by simp [results, Try.results36, go_sem, k0, k1, k2]) rfl ?_
                  rw [← HS.out]
                  rw [parsG, if_pos HG.out, valS, HPA.out, HPB.out, if_neg (no2 HA0.out HB0.out), if_pos HZ.out]
                  exact ⟨Fx.nil, rfl, ⟨rfl, rfl, rfl⟩, Fx.nil_ok _, set3g bw (by omega)⟩
                · have hbz : ((bits2 (nv RB) : Int) == 0) = false := beq_eq_false_iff_ne.2 (by have := (bits2_pos (nv RB)).2 hz; omega)
                  have HZ : Hid (¬ nv RB = 0) := hz
                  clear hz
                  go_wp2_with fail
                  refine (bits_any _ AD cD _ RB nb rfl (by omega)).mono ?_
                  rintro e wn ⟨rfl, rfl⟩
                  go_wp2_with fail
                  refine (flowest_any _ false AN AD cN cD _ _ RA RB na nb rfl rfl HZ.out (by omega) (by omega) la1 lb1).mono ?_
                  rintro e wn ⟨x1, rfl, hs1, ok1, bb⟩
                  have HS1 := Lib.hid hs1
                  clear hs1
                  try replace bx := bx.below bb
                  try replace by_ := by_.below bb
                  try replace bk := bk.below bb
                  try replace okx := okx.below bb
                  try replace oky := oky.below bb
                  try replace ok1 := ok1.below bb
                  try replace ok2 := ok2.below bb
                  try replace ok3 := ok3.below bb
                  try replace na := na.below bb
                  try replace nb := nb.below bb
                  try replace nc := nc.below bb
                  try replace nd := nd.below bb
                  try replace ne := ne.below bb
                  replace bw := below_on bw bb bw.size
                  clear bb
                  have tk := bk
                  obtain ⟨k0, k1, k2, kf0, kf1, kf2, klt, kb⟩ := tk
                  clear kb
                  go_wp2_with fail
                  refine bodyPost_ret (v := .tuple #[(x1 : Fx).val, .int .i64 (frS (qv false (nv RA) (nv RB))).2.2.2]) (by simp [results, Try.results36, go_sem, k0, k1, k2]) rfl ?_
                  have hSS : S = frS (qv false (nv RA) (nv RB)) := by
                    rw [← HS.out, parsG, if_pos HG.out, valS, HPA.out, HPB.out, if_neg (no2 HA0.out HB0.out), if_neg HZ.out]
                  rw [hSS]
                  exact ⟨x1, rfl, HS1.out, set3_ok ok1 bk rfl rfl rfl, set3g bw (by omega)⟩
              · have hb1 : (EB == 0) = false := beq_eq_false_iff_ne.2 hb0
                have hb2 : (EB != 0) = true := bne_iff_ne.2 hb0
                have HB0 : Hid (¬ EB = 0) := hb0
                have HA0 := Lib.hid ha0
                clear hb0
                skip
                have tk := bk
                obtain ⟨k0, k1, k2, kf0, kf1, kf2, klt, kb⟩ := tk
                clear kb
                go_wp2_with fail
                refine bodyPost_ret (v := .tuple #[(Fx.nil : Fx).val, .int .i64 2]) (by simp [results, Try.results36, go_sem, k0, k1, k2]) rfl ?_
                rw [← HS.out]
                rw [parsG, if_pos HG.out, valS, HPA.out, HPB.out, if_pos (.inr HB0.out)]
                exact ⟨Fx.nil, rfl, ⟨rfl, rfl, rfl⟩, Fx.nil_ok _, set3g bw (by omega)⟩
            · have hb1 : (EA == 0) = false := beq_eq_false_iff_ne.2 ha0
              have hb2 : (EA != 0) = true := bne_iff_ne.2 ha0
              have HA0 : Hid (¬ EA = 0) := ha0
              clear ha0
              skip
              have tk := bk
              obtain ⟨k0, k1, k2, kf0, kf1, kf2, klt, kb⟩ := tk
              clear kb
              go_wp2_with fail
              refine bodyPost_ret (v := .tuple #[(Fx.nil : Fx).val, .int .i64 2]) (by simp [results, Try.results36, go_sem, k0, k1, k2]) rfl ?_
              rw [← HS.out]
              rw [parsG, if_pos HG.out, valS, HPA.out, HPB.out, if_pos (.inl HA0.out)]
              exact ⟨Fx.nil, rfl, ⟨rfl, rfl, rfl⟩, Fx.nil_ok _, set3g bw (by omega)⟩
          · have HG : Hid (¬ (goodL (bl s) ∧ goodL (bl B))) := hga
            by_cases h1 : bl s = []
            · have ea : (s).toList.isEmpty = true := by rw [str_empty]; exact decide_eq_true h1
              clear hga h1
              skip
              have tk := bk
              obtain ⟨k0, k1, k2, kf0, kf1, kf2, klt, kb⟩ := tk
              clear kb
              go_wp2_with fail
              refine bodyPost_ret (v := .tuple #[(Fx.nil : Fx).val, .int .i64 6]) (by simp [results, Try.results36, go_sem, k0, k1, k2]) rfl ?_
              rw [← HS.out]
              rw [parsG, if_neg HG.out]
              exact ⟨Fx.nil, rfl, ⟨rfl, rfl, rfl⟩, Fx.nil_ok _, set3g bw (by omega)⟩
            · have ea : (s).toList.isEmpty = false := by rw [str_empty]; exact decide_eq_false h1
              by_cases h2 : bl B = []
              · have eb : (B).toList.isEmpty = true := by rw [str_empty]; exact decide_eq_true h2
                clear hga h1 h2
                skip
                have tk := bk
                obtain ⟨k0, k1, k2, kf0, kf1, kf2, klt, kb⟩ := tk
                clear kb
                go_wp2_with fail
                refine bodyPost_ret (v := .tuple #[(Fx.nil : Fx).val, .int .i64 6]) (by simp [results, Try.results36, go_sem, k0, k1, k2]) rfl ?_
                rw [← HS.out]
                rw [parsG, if_neg HG.out]
                exact ⟨Fx.nil, rfl, ⟨rfl, rfl, rfl⟩, Fx.nil_ok _, set3g bw (by omega)⟩
              · have eb : (B).toList.isEmpty = false := by rw [str_empty]; exact decide_eq_false h2
                by_cases h3 : dgs (bl s) = (s).size
                · have h4 : ¬ dgs (bl B) = (B).size := fun h4 => hga ⟨⟨h1, by rw [bl_len]; exact h3⟩, h2, by rw [bl_len]; exact h4⟩
                  have h5 := (dgs_is (bl B)).le
                  rw [bl_len] at h5
                  obtain ⟨rb, hrb⟩ : ∃ rb, dgs (bl B) = rb := ⟨_, rfl⟩
                  rw [hrb] at h4 h5
                  have HRB := Lib.hid hrb
                  have HRA := Lib.hid h3
                  have h6 : rb < (B).size := by omega
                  clear hga h1 h2 h3 h4 h5 hrb
                  go_wp2_with fail
                  refine (frow_any _ s (s).size sza HRA.out).mono ?_
                  rintro e wn' ⟨rfl, rfl⟩
                  go_wp2_with fail
                  refine (frow_any _ B rb szb HRB.out).mono ?_
                  rintro e wn' ⟨rfl, rfl⟩
                  have tk := bk
                  obtain ⟨k0, k1, k2, kf0, kf1, kf2, klt, kb⟩ := tk
                  clear kb
                  go_wp2_with fail
                  refine bodyPost_ret (v := .tuple #[(Fx.nil : Fx).val, .int .i64 6]) (by simp [results, Try.results36, go_sem, k0, k1, k2]) rfl ?_
                  rw [← HS.out]
                  rw [parsG, if_neg HG.out]
                  exact ⟨Fx.nil, rfl, ⟨rfl, rfl, rfl⟩, Fx.nil_ok _, set3g bw (by omega)⟩
                · have h5 := (dgs_is (bl s)).le
                  rw [bl_len] at h5
                  obtain ⟨ra, hra⟩ : ∃ ra, dgs (bl s) = ra := ⟨_, rfl⟩
                  rw [hra] at h3 h5
                  have HRA := Lib.hid hra
                  have h6 : ra < (s).size := by omega
                  clear hga h1 h2 h3 h5 hra
                  go_wp2_with fail
                  refine (frow_any _ s ra sza HRA.out).mono ?_
                  rintro e wn' ⟨rfl, rfl⟩
                  have tk := bk
                  obtain ⟨k0, k1, k2, kf0, kf1, kf2, klt, kb⟩ := tk
                  clear kb
                  go_wp2_with fail
                  refine bodyPost_ret (v := .tuple #[(Fx.nil : Fx).val, .int .i64 6]) (by simp [results, Try.results36, go_sem, k0, k1, k2]) rfl ?_
                  rw [← HS.out]
                  rw [parsG, if_neg HG.out]
                  exact ⟨Fx.nil, rfl, ⟨rfl, rfl, rfl⟩, Fx.nil_ok _, set3g bw (by omega)⟩
        · clear hn hsl hbB HS0
          go_wp2_with fail
          refine (frow_any _ s n hsz HN.out).mono ?_
          rintro e wn' ⟨rfl, rfl⟩
          go_upto_region 8 with fail
          clear hB
          skip
          by_cases hga : goodL (bl s) ∧ goodL (bl B)
          · have HG := Lib.hid hga
            have ea : (s).toList.isEmpty = false := by rw [str_empty]; exact decide_eq_false hga.1.1
            have eb : (B).toList.isEmpty = false := by rw [str_empty]; exact decide_eq_false hga.2.1
            have ra : Hid (dgs (bl s) = (s).size) := Lib.hid (by rw [← bl_len]; exact hga.1.2)
            have rb : Hid (dgs (bl B) = (B).size) := Lib.hid (by rw [← bl_len]; exact hga.2.2)
            clear hga
            skip
            go_wp2_with fail
            refine (frow_any _ s (s).size sza ra.out).mono ?_
            rintro e wn' ⟨rfl, rfl⟩
            go_wp2_with fail
            refine (frow_any _ B (B).size szb rb.out).mono ?_
            rintro e wn' ⟨rfl, rfl⟩
            go_wp2_with fail
            obtain ⟨RA, EA, hpa⟩ : ∃ RA EA, parseS (bl s) = (RA, EA) := ⟨_, _, rfl⟩
            obtain ⟨RB, EB, hpb⟩ : ∃ RB EB, parseS (bl B) = (RB, EB) := ⟨_, _, rfl⟩
            have HPA := Lib.hid hpa
            have HPB := Lib.hid hpb
            clear hpa hpb
            refine (parse_any _ s RA EA sza HPA.out).mono ?_
            rintro e wn ⟨AN, cN, rfl, na, bb⟩
            try replace bx := bx.below bb
            try replace by_ := by_.below bb
            try replace bk := bk.below bb
            try replace okx := okx.below bb
            try replace oky := oky.below bb
            try replace ok1 := ok1.below bb
            try replace ok2 := ok2.below bb
            try replace ok3 := ok3.below bb
            try replace na := na.below bb
            try replace nb := nb.below bb
            try replace nc := nc.below bb
            try replace nd := nd.below bb
            try replace ne := ne.below bb
            replace bw := below_on bw bb bw.size
            clear bb
            go_wp2_with fail
            refine (parse_any _ B RB EB szb HPB.out).mono ?_
            rintro e wn ⟨AD, cD, rfl, nb, bb⟩
            try replace bx := bx.below bb
            try replace by_ := by_.below bb
            try replace bk := bk.below bb
            try replace okx := okx.below bb
            try replace oky := oky.below bb
            try replace ok1 := ok1.below bb
            try replace ok2 := ok2.below bb
            try replace ok3 := ok3.below bb
            try replace na := na.below bb
            try replace nb := nb.below bb
            try replace nc := nc.below bb
            try replace nd := nd.below bb
            try replace ne := ne.below bb
            replace bw := below_on bw bb bw.size
            clear bb
            by_cases ha0 : EA = 0
            · by_cases hb0 : EB = 0
              · have la := parseS_lim (bl s) (by rw [HPA.out]; exact ha0)
                have lb := parseS_lim (bl B) (by rw [HPB.out]; exact hb0)
                rw [HPA.out] at la
                rw [HPB.out] at lb
                have la1 : (lim (nv RA)).length ≤ 512 := la.1
                have la2 : RA.length ≤ 512 := la.2
                have lb1 : (lim (nv RB)).length ≤ 512 := lb.1
                have lb2 : RB.length ≤ 512 := lb.2
                have HA0 := Lib.hid ha0
                have HB0 := Lib.hid hb0
                clear la lb
                by_cases hz : nv RB = 0
                · have hbz : ((bits2 (nv RB) : Int) == 0) = true := by rw [hz]; rfl
                  have HZ := Lib.hid hz
                  clear hz
                  go_wp2_with fail
                  refine (bits_any _ AD cD _ RB nb rfl (by omega)).mono ?_
                  rintro e wn ⟨rfl, rfl⟩
                  have tk := bk
                  obtain ⟨k0, k1, k2, kf0, kf1, kf2, klt, kb⟩ := tk
                  clear kb
                  go_wp2_with fail
                  refine bodyPost_ret (v := .tuple #[(Fx.nil : Fx).val, .int .i64 3]) (by simp [results, Try.results36, go_sem, k0, k1, k2]) rfl ?_
                  rw [← HS.out]
                  rw [parsG, if_pos HG.out, valS, HPA.out, HPB.out, if_neg (no2 HA0.out HB0.out), if_pos HZ.out]
                  exact ⟨Fx.nil, rfl, ⟨rfl, rfl, rfl⟩, Fx.nil_ok _, set3g bw (by omega)⟩
                · have hbz : ((bits2 (nv RB) : Int) == 0) = false := beq_eq_false_iff_ne.2 (by have := (bits2_pos (nv RB)).2 hz; omega)
                  have HZ : Hid (¬ nv RB = 0) := hz
                  clear hz
                  go_wp2_with fail
                  refine (bits_any _ AD cD _ RB nb rfl (by omega)).mono ?_
                  rintro e wn ⟨rfl, rfl⟩
                  go_wp2_with fail
                  refine (flowest_any _ false AN AD cN cD _ _ RA RB na nb rfl rfl HZ.out (by omega) (by omega) la1 lb1).mono ?_
                  rintro e wn ⟨x1, rfl, hs1, ok1, bb⟩
                  have HS1 := Lib.hid hs1
                  clear hs1
                  try replace bx := bx.below bb
                  try replace by_ := by_.below bb
                  try replace bk := bk.below bb
                  try replace okx := okx.below bb
                  try replace oky := oky.below bb
                  try replace ok1 := ok1.below bb
                  try replace ok2 := ok2.below bb
                  try replace ok3 := ok3.below bb
                  try replace na := na.below bb
                  try replace nb := nb.below bb
                  try replace nc := nc.below bb
                  try replace nd := nd.below bb
                  try replace ne := ne.below bb
                  replace bw := below_on bw bb bw.size
                  clear bb
                  have tk := bk
                  obtain ⟨k0, k1, k2, kf0, kf1, kf2, klt, kb⟩ := tk
                  clear kb
                  go_wp2_with fail
                  refine bodyPost_ret (v := .tuple #[(x1 : Fx).val, .int .i64 (frS (qv false (nv RA) (nv RB))).2.2.2]) (by simp [results, Try.results36, go_sem, k0, k1, k2]) rfl ?_
                  have hSS : S = frS (qv false (nv RA) (nv RB)) := by
                    rw [← HS.out, parsG, if_pos HG.out, valS, HPA.out, HPB.out, if_neg (no2 HA0.out HB0.out), if_neg HZ.out]
                  rw [hSS]
                  exact ⟨x1, rfl, HS1.out, set3_ok ok1 bk rfl rfl rfl, set3g bw (by omega)⟩
              · have hb1 : (EB == 0) = false := beq_eq_false_iff_ne.2 hb0
                have hb2 : (EB != 0) = true := bne_iff_ne.2 hb0
                have HB0 : Hid (¬ EB = 0) := hb0
                have HA0 := Lib.hid ha0
                clear hb0
                skip
                have tk := bk
                obtain ⟨k0, k1, k2, kf0, kf1, kf2, klt, kb⟩ := tk
                clear kb
                go_wp2_with fail
                refine bodyPost_ret (v := .tuple #[(Fx.nil : Fx).val, .int .i64 2]) (by simp [results, Try.results36, go_sem, k0, k1, k2]) rfl ?_
                rw [← HS.out]
                rw [parsG, if_pos HG.out, valS, HPA.out, HPB.out, if_pos (.inr HB0.out)]
                exact ⟨Fx.nil, rfl, ⟨rfl, rfl, rfl⟩, Fx.nil_ok _, set3g bw (by omega)⟩
            · have hb1 : (EA == 0) = false := beq_eq_false_iff_ne.2 ha0
              have hb2 : (EA != 0) = true := bne_iff_ne.2 ha0
              have HA0 : Hid (¬ EA = 0) := ha0
              clear ha0
              skip
              have tk := bk
              obtain ⟨k0, k1, k2, kf0, kf1, kf2, klt, kb⟩ := tk
              clear kb
              go_wp2_with fail
              refine bodyPost_ret (v := .tuple #[(Fx.nil : Fx).val, .int .i64 2]) (by simp [results, Try.results36, go_sem, k0, k1, k2]) rfl ?_
              rw [← HS.out]
              rw [parsG, if_pos HG.out, valS, HPA.out, HPB.out, if_pos (.inl HA0.out)]
              exact ⟨Fx.nil, rfl, ⟨rfl, rfl, rfl⟩, Fx.nil_ok _, set3g bw (by omega)⟩
          · have HG : Hid (¬ (goodL (bl s) ∧ goodL (bl B))) := hga
            by_cases h1 : bl s = []
            · have ea : (s).toList.isEmpty = true := by rw [str_empty]; exact decide_eq_true h1
              clear hga h1
              skip
              have tk := bk
              obtain ⟨k0, k1, k2, kf0, kf1, kf2, klt, kb⟩ := tk
              clear kb
              go_wp2_with fail
              refine bodyPost_ret (v := .tuple #[(Fx.nil : Fx).val, .int .i64 6]) (by simp [results, Try.results36, go_sem, k0, k1, k2]) rfl ?_
              rw [← HS.out]
              rw [parsG, if_neg HG.out]
              exact ⟨Fx.nil, rfl, ⟨rfl, rfl, rfl⟩, Fx.nil_ok _, set3g bw (by omega)⟩
            · have ea : (s).toList.isEmpty = false := by rw [str_empty]; exact decide_eq_false h1
              by_cases h2 : bl B = []
              · have eb : (B).toList.isEmpty = true := by rw [str_empty]; exact decide_eq_true h2
                clear hga h1 h2
                skip
                have tk := bk
                obtain ⟨k0, k1, k2, kf0, kf1, kf2, klt, kb⟩ := tk
                clear kb
                go_wp2_with fail
                refine bodyPost_ret (v := .tuple #[(Fx.nil : Fx).val, .int .i64 6]) (by simp [results, Try.results36, go_sem, k0, k1, k2]) rfl ?_
                rw [← HS.out]
                rw [parsG, if_neg HG.out]
                exact ⟨Fx.nil, rfl, ⟨rfl, rfl, rfl⟩, Fx.nil_ok _, set3g bw (by omega)⟩
              · have eb : (B).toList.isEmpty = false := by rw [str_empty]; exact decide_eq_false h2
                by_cases h3 : dgs (bl s) = (s).size
                · have h4 : ¬ dgs (bl B) = (B).size := fun h4 => hga ⟨⟨h1, by rw [bl_len]; exact h3⟩, h2, by rw [bl_len]; exact h4⟩
                  have h5 := (dgs_is (bl B)).le
                  rw [bl_len] at h5
                  obtain ⟨rb, hrb⟩ : ∃ rb, dgs (bl B) = rb := ⟨_, rfl⟩
                  rw [hrb] at h4 h5
                  have HRB := Lib.hid hrb
                  have HRA := Lib.hid h3
                  have h6 : rb < (B).size := by omega
                  clear hga h1 h2 h3 h4 h5 hrb
                  go_wp2_with fail
                  refine (frow_any _ s (s).size sza HRA.out).mono ?_
                  rintro e wn' ⟨rfl, rfl⟩
                  go_wp2_with fail
                  refine (frow_any _ B rb szb HRB.out).mono ?_
                  rintro e wn' ⟨rfl, rfl⟩
                  have tk := bk
                  obtain ⟨k0, k1, k2, kf0, kf1, kf2, klt, kb⟩ := tk
                  clear kb
                  go_wp2_with fail
                  refine bodyPost_ret (v := .tuple #[(Fx.nil : Fx).val, .int .i64 6]) (by simp [results, Try.results36, go_sem, k0, k1, k2]) rfl ?_
                  rw [← HS.out]
                  rw [parsG, if_neg HG.out]
                  exact ⟨Fx.nil, rfl, ⟨rfl, rfl, rfl⟩, Fx.nil_ok _, set3g bw (by omega)⟩
                · have h5 := (dgs_is (bl s)).le
                  rw [bl_len] at h5
                  obtain ⟨ra, hra⟩ : ∃ ra, dgs (bl s) = ra := ⟨_, rfl⟩
                  rw [hra] at h3 h5
                  have HRA := Lib.hid hra
                  have h6 : ra < (s).size := by omega
                  clear hga h1 h2 h3 h5 hra
                  go_wp2_with fail
                  refine (frow_any _ s ra sza HRA.out).mono ?_
                  rintro e wn' ⟨rfl, rfl⟩
                  have tk := bk
                  obtain ⟨k0, k1, k2, kf0, kf1, kf2, klt, kb⟩ := tk
                  clear kb
                  go_wp2_with fail
                  refine bodyPost_ret (v := .tuple #[(Fx.nil : Fx).val, .int .i64 6]) (by simp [results, Try.results36, go_sem, k0, k1, k2]) rfl ?_
                  rw [← HS.out]
                  rw [parsG, if_neg HG.out]
                  exact ⟨Fx.nil, rfl, ⟨rfl, rfl, rfl⟩, Fx.nil_ok _, set3g bw (by omega)⟩
end Go.Proofs.Ytodopppoikdglaa
