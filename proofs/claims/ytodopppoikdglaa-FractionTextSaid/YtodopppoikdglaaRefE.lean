/- The walk of drydockref01.Format. -/
import Derived.Test.YtodopppoikdglaaRefB
import Derived.Test.YtodopppoikdglaaRefD
import Derived.Deep.LoopGhost
import Derived.Lib.IndexBytes
namespace Go.Proofs.Ytodopppoikdglaa
open Go.RowKit

theorem rdivide_one (w : World) (A D : Option Addr) (c d M x : Nat) (h : Nt w A c (lim M)) (k : Nt w D d [x]) (hl : (lim M).length ≤ 1000) (hx0 : 0 < x) :
    Calls Try.prog 80 #[.slice A (lim M).length c, .slice D 1 d] w (DivRes w (M / x) (M % x)) := by
  rcases Nat.lt_or_ge M x with hlt | hge
  · have hx := k.u.at 0 (by simp)
    simp only [List.getElem_cons_zero] at hx
    have hL : lim x = [x] := by rw [lim_pos (by omega), Nat.mod_eq_of_lt hx, Nat.div_eq_of_lt hx, lim_zero]
    have := rdivide_less w A D c d M x h (by rw [hL]; exact k) hl (by rw [hL]; simp) hlt
    rwa [hL] at this
  · exact rdivide_short w A D c d M x h k hl hx0 hge

theorem bstr_bl (s : ByteArray) : bstr (bl s) = s := by
  unfold bstr bl
  rw [List.map_map]
  have : (UInt8.ofNat ∘ UInt8.toNat) = id := by funext x; simp
  rw [this, List.map_id]
theorem bl_bstr' {l : List Nat} (h : ∀ b ∈ l, b < 256) : bl (bstr l) = l := by
  show ((l.map UInt8.ofNat).toArray.toList).map UInt8.toNat = l
  simp only [List.map_map]
  rw [List.map_congr_left (g := id) (fun b hb => by simp [UInt8.toNat_ofNat']; exact h b hb)]
  simp
/-- all bytes are digits -/
def AllDig (l : List Nat) : Prop := ∀ b ∈ l, 48 ≤ b ∧ b ≤ 57
theorem AllDig.append {l m : List Nat} (h : AllDig l) (k : AllDig m) : AllDig (l ++ m) := fun b hb => by
  rcases List.mem_append.1 hb with hb | hb
  · exact h b hb
  · exact k b hb
theorem AllDig.left {l m : List Nat} (h : AllDig (l ++ m)) : AllDig l := fun b hb => h b (List.mem_append.2 (.inl hb))
theorem AllDig.drop {l : List Nat} (h : AllDig l) (k : Nat) : AllDig (l.drop k) := fun b hb => h b (List.mem_of_mem_drop hb)
/-- digits that do not begin with a zero are the digits of their value -/
theorem canon_digits (l : List Nat) : AllDig l → (∀ h : 0 < l.length, l[0] ≠ 48) → ((decR (dval l)).map digB).reverse = l := by
  induction l using list_rev_ind with
  | h0 => intro _ _; simp [dval, decR_zero]
  | h1 l b ih =>
    intro hd h0
    have hb := hd b (by simp)
    have hih := ih hd.left (fun h => by have := h0 (by simp); rwa [List.getElem_append_left h] at this)
    rw [dval_snoc]
    have hne : dval l * 10 + (b - 48) ≠ 0 := by
      rcases Nat.eq_zero_or_pos (dval l) with hz | hz
      · rw [hz, decR_zero] at hih
        simp at hih
        subst hih
        have := h0 (by simp)
        simp at this
        omega
      · omega
    rw [decR_pos hne, List.map_cons, List.reverse_cons]
    rw [show (dval l * 10 + (b - 48)) / 10 = dval l from by omega, hih, show (dval l * 10 + (b - 48)) % 10 = b - 48 from by omega]
    congr 1
    simp only [digB, List.cons.injEq, and_true]
    omega
theorem canon_text {l : List Nat} (hd : AllDig l) (hn : l.length = 1 ∨ ∃ h : 0 < l.length, l[0] ≠ 48) : decT (dval l) = l := by
  by_cases h : ∃ h : 0 < l.length, l[0] = 48
  · obtain ⟨h1, h2⟩ := h
    have hl : l.length = 1 := by
      rcases hn with hn | ⟨_, hn⟩
      · exact hn
      · exact absurd h2 hn
    obtain ⟨b, rfl⟩ := List.length_eq_one_iff.1 hl
    simp at h2
    subst h2
    simp [decT, dval]
  · have hc := canon_digits l hd (fun h1 h2 => h ⟨h1, h2⟩)
    have hne : dval l ≠ 0 := by
      intro hz
      rw [hz, decR_zero] at hc
      simp at hc
      subst hc
      rcases hn with hn | ⟨hn, _⟩ <;> simp at hn
    rw [decT, if_neg hne]
    exact hc
/-- the digits of one limb, written from the last to the first -/
def PartInv (v k r : Nat) (l : List Nat) : Prop := l.length = k ∧ AllDig l ∧ v = r * 10 ^ k + dval l
theorem PartInv.start (v : Nat) : PartInv v 0 v [] := ⟨rfl, fun b hb => (by cases hb), by simp [dval]⟩
theorem dval_cons (b : Nat) (l : List Nat) : dval (b :: l) = (b - 48) * 10 ^ l.length + dval l := by
  have := dval_append [b] l
  simpa [dval] using this
theorem PartInv.step {v k r : Nat} {l : List Nat} (h : PartInv v k r l) : PartInv v (k + 1) (r / 10) ([48 + r % 10] ++ l) := by
  obtain ⟨h1, h2, h3⟩ := h
  refine ⟨by simp [h1, Nat.add_comm], AllDig.append (fun b hb => by simp at hb; omega) h2, ?_⟩
  rw [List.singleton_append, dval_cons, h1, h3, Nat.pow_succ]
  have h4 := Nat.div_add_mod r 10
  rw [show 48 + r % 10 - 48 = r % 10 from by omega]
  generalize 10 ^ k = p at *
  grind
/-- the text so far -/
def TextInv (n N : Nat) (l : List Nat) : Prop := AllDig l ∧ n = N * 10 ^ l.length + dval l
theorem TextInv.start (n : Nat) : TextInv n n [] := ⟨fun b hb => (by cases hb), by simp [dval]⟩
theorem TextInv.step {n N : Nat} {l p : List Nat} (h : TextInv n N l) {r : Nat} (hp : PartInv (N % 1000000000) 9 r p) : TextInv n (N / 1000000000) (p ++ l) := by
  obtain ⟨h1, h2⟩ := h
  obtain ⟨p1, p2, p3⟩ := hp
  have hr : r = 0 := by
    have : N % 1000000000 < 1000000000 := Nat.mod_lt _ (by omega)
    rcases Nat.eq_zero_or_pos r with h | h
    · exact h
    · have h5 : 1 * 10 ^ 9 ≤ r * 10 ^ 9 := Nat.mul_le_mul_right _ h
      omega
  subst hr
  rw [Nat.zero_mul, Nat.zero_add] at p3
  refine ⟨p2.append h1, ?_⟩
  rw [dval_append, List.length_append, p1, ← p3, Nat.pow_add, h2]
  have h4 := Nat.div_add_mod N 1000000000
  rw [show (10 : Nat) ^ 9 = 1000000000 from rfl]
  generalize 10 ^ l.length = q at *
  grind
theorem TextInv.len {n N : Nat} {l : List Nat} (h : TextInv n N l) (hN : N ≠ 0) : l.length < (decR n).length := by
  obtain ⟨h1, h2⟩ := h
  rcases Nat.lt_or_ge l.length (decR n).length with h3 | h3
  · exact h3
  · have := (decR_lt n l.length).1 h3
    have h4 : 1 * 10 ^ l.length ≤ N * 10 ^ l.length := Nat.mul_le_mul_right _ (Nat.pos_of_ne_zero hN)
    omega
theorem bl_append (s t : ByteArray) : bl (s ++ t) = bl s ++ bl t := by
  simp [bl, ByteArray.data_append]
theorem bl_tail (s : ByteArray) : bl (s.extract 1 s.size) = (bl s).drop 1 := by
  unfold bl
  rw [Lib.extract_to_end, List.map_drop]

set_option maxRecDepth 100000 in
set_option maxHeartbeats 1000000 in
theorem rformat_any (w : World) (A : Option Addr) (c n : Nat) (xs : List Nat) (h : Nt w A c xs) (hn : n = xs.length) (hl0 : (lim (nv xs)).length ≤ 1000000) :
    Calls Try.prog 76 #[.slice A n c] w fun e w' => e = .returned (.tuple #[.string (fmtS (nv xs)).1, .int .i64 (fmtS (nv xs)).2]) ∧ Below w.heap.size w w' := by
  subst hn
  have h3 := h.cap
  have h4 := h.max
  by_cases hl : 512 < (lim (nv xs)).length
  · have HC := Lib.hid (rlarge_any w A c _ xs true h rfl hl0 (by simpa using hl))
    have HL := Lib.hid hl
    clear hl
    go_enter Try.func76, Try.ntmps76
    go_wp2_with fail
    refine HC.out.mono ?_
    rintro e w1 ⟨rfl, b1⟩
    go_wp2_with fail
    go_ret2
    rw [fmtS, if_pos HL.out]
    exact ⟨rfl, b1⟩
  · have HC := Lib.hid (rlarge_any w A c _ xs false h rfl hl0 (by simpa using hl))
    have HL : Hid (¬ 512 < (lim (nv xs)).length) := hl
    have hl1 : (lim (nv xs)).length ≤ 512 := by omega
    clear hl
    go_enter Try.func76, Try.ntmps76
    go_wp2_with fail
    refine HC.out.mono ?_
    rintro e w1 ⟨rfl, b1⟩
    go_wp2_with fail
    refine (rtrim_any w1 A c _ xs (h.below b1) rfl hl0).mono ?_
    rintro e w2 ⟨A2, c2, rfl, g2, b2⟩
    have n2 := g2.nt (lim_u32 _)
    have bw := below_on b1 b2 b1.size
    clear g2 b1 b2
    by_cases h0 : nv xs = 0
    · have hz : (((lim (nv xs)).length : Int) == 0) = true := by rw [h0, lim_zero]; rfl
      have H0 := Lib.hid h0
      clear h0
      go_wp2_with fail
      go_ret2
      rw [fmtS, if_neg HL.out, decT, if_pos H0.out]
      exact ⟨rfl, bw⟩
    · have hp := lim_length_pos.2 h0
      have hz : (((lim (nv xs)).length : Int) == 0) = false := beq_eq_false_iff_ne.2 (by omega)
      have H0 : Hid (nv xs ≠ 0) := h0
      clear h0
      go_wp2_with fail
      go_loopg [4, 5] (nv xs) (fun kn x s wr => ∃ (N : Nat) (AX : Option Addr) (cX : Nat) (S : ByteArray), N = kn ∧ x = .slice AX (lim N).length cX ∧ s = .string S ∧ N ≤ nv xs ∧ TextInv (nv xs) N (bl S) ∧ (S.size < 10000) ∧ Nt wr AX cX (lim N) ∧ Below w.heap.size w wr)
      case atStart => exact ⟨nv xs, A2, c2, ByteArray.empty, rfl, rfl, rfl, Nat.le_refl _, TextInv.start _, by simp, n2, bw⟩
      case round =>
        obtain ⟨N, AX, cX, S, rfl, rfl, rfl, hN, hT, hS, nX, bX⟩ := hrel
        have HT := Lib.hid hT
        have hNl := lim_length_mono hN
        clear hT n2 bw
        by_cases hN0 : N = 0
        · have hN1 : (lim N).length = 0 := by rw [hN0, lim_zero]; rfl
          have h01 : decide ((0 : Int) < ((lim N).length : Int)) = false := decide_eq_false (by omega)
          have h02 : decide (0 < (lim N).length) = false := decide_eq_false (by omega)
          have hv : AllDig (bl S) ∧ dval (bl S) = nv xs := by
            have := HT.out
            rw [hN0] at this
            exact ⟨this.1, by rw [this.2]; simp⟩
          have HVV := Lib.hid hv
          clear hN0 hN1 hv
          go_wp2_with fail
          go_loopg [5] S.size (fun kn s wx => ∃ S' : ByteArray, S'.size = kn ∧ s = .string S' ∧ AllDig (bl S') ∧ dval (bl S') = nv xs ∧ wx = wr)
          case atStart => exact ⟨S, rfl, rfl, HVV.out.1, HVV.out.2, rfl⟩
          case round =>
            obtain ⟨S', hk, rfl, ha, hv, rfl⟩ := hrel
            have HA := Lib.hid ha
            have HV := Lib.hid hv
            have HK := Lib.hid hk
            have hbl := bl_len S'
            have hpos : 0 < S'.size := by
              rcases Nat.eq_zero_or_pos S'.size with h | h
              · exfalso
                have : bl S' = [] := List.eq_nil_of_length_eq_zero (by omega)
                rw [this] at hv
                exact H0.out (by rw [← hv]; rfl)
              · exact h
            have HBL := Lib.hid hbl
            have hcell : ∀ h : 0 < (bl S').length, (bl S')[0] = S'[0].toNat := fun h => bl_at S' 0 hpos h
            have HC0 := Lib.hid hcell
            clear ha hv hk hbl hcell
            by_cases h1 : 1 < S'.size
            · by_cases hz : S'[0].toNat = 48
              · have hz1 : ((S'[0].toNat : Int) == 48) = true := by simp [hz]
                have HZ := Lib.hid hz
                have hsz : (S'.extract 1 S'.size).size = S'.size - 1 := by simp
                have HSZ := Lib.hid hsz
                clear hz hsz
                go_wp2_with fail
                go_roundg (S'.size - 1)
                case measure => have := HK.out; omega
                case rel =>
                  refine ⟨S'.extract 1 S'.size, HSZ.out, rfl, by rw [bl_tail]; exact HA.out.drop 1, ?_, rfl⟩
                  rw [bl_tail, ← HV.out]
                  have h5 : bl S' = 48 :: (bl S').drop 1 := by
                    have h6 : 0 < (bl S').length := by have := HBL.out; omega
                    have h7 := List.getElem_cons_drop h6
                    rw [List.drop_zero, HC0.out h6, HZ.out] at h7
                    exact h7.symm
                  conv => rhs; rw [h5]
                  rw [dval_cons]; simp
              · have hz1 : ((S'[0].toNat : Int) == 48) = false := beq_eq_false_iff_ne.2 (by omega)
                have HZ : Hid (S'[0].toNat ≠ 48) := hz
                clear hz
                go_wp2_with fail
                go_ret2
                rw [fmtS, if_neg HL.out, ← HV.out, canon_text HA.out (.inr ⟨by have := HBL.out; omega, by rw [HC0.out (by have := HBL.out; omega)]; exact HZ.out⟩), bstr_bl]
                exact ⟨rfl, bX⟩
            · have h11 : decide (1 < S'.size) = false := decide_eq_false h1
              have h12 : decide ((1 : Int) < (S'.size : Int)) = false := decide_eq_false (by omega)
              have H1 : Hid (S'.size ≤ 1) := Lib.hid (by omega)
              clear h1
              go_wp2_with fail
              go_ret2
              rw [fmtS, if_neg HL.out, ← HV.out, canon_text HA.out (.inl (by have := HBL.out; have := H1.out; omega)), bstr_bl]
              exact ⟨rfl, bX⟩
        · have hpos : 0 < (lim N).length := lim_length_pos.2 hN0
          have HN0 : Hid (N ≠ 0) := hN0
          clear hN0
          go_wp2_with fail
          have nb : Nt (wr.alloc (.cells #[.int .u32 1000000000] 37)) (some ⟨wr.heap.size, 0, none⟩) 1 [1000000000] := ⟨by simp, by omega, U32.one (by omega), Rd.one_ wr _ 1000000000 _ rfl⟩
          have bb := (Below.refl wr.heap.size wr).alloc (Nat.le_refl _) (.cells #[.int .u32 1000000000] 37)
          have HD := Lib.hid (rdivide_one (wr.alloc (.cells #[.int .u32 1000000000] 37)) AX (some ⟨wr.heap.size, 0, none⟩) cX 1 N 1000000000 (nX.below bb) nb (by omega) (by omega))
          have bX2 := bX.trans (bb.mono bX.size)
          clear nX nb bb bX
          refine HD.out.mono ?_
          rintro e w3 ⟨A3, c3, A4, c4, rfl, n3, n4, b3⟩
          have bX3 := below_on bX2 b3 bX2.size
          clear HD b3 bX2
          obtain ⟨q, hq⟩ : ∃ q, q = N / 1000000000 := ⟨_, rfl⟩
          obtain ⟨v, hv⟩ : ∃ v, v = N % 1000000000 := ⟨_, rfl⟩
          rw [← hq] at n3 ⊢
          rw [← hv] at n4 ⊢
          have HQ := Lib.hid hq
          have HV := Lib.hid hv
          clear hq hv
          have hv32 : v < 4294967296 := by have := HV.out; omega
          by_cases hv0 : v = 0
          · have hl0 : (lim v).length = 0 := by rw [hv0, lim_zero]; rfl
            have h01 : decide ((0 : Int) < ((lim v).length : Int)) = false := decide_eq_false (by omega)
            have h02 : decide (0 < (lim v).length) = false := decide_eq_false (by omega)
            have HV0 := Lib.hid hv0
            clear hv0 hl0 n4
            go_wp2_with fail
            go_loopg [8, 9, 10] 9 (fun kn vv pp ii wr => ∃ (k r : Nat) (P : ByteArray), kn + k = 9 ∧ ii = .int .i64 (k : Int) ∧ vv = .int .u32 (r : Int) ∧ pp = .string P ∧ r < 4294967296 ∧ P.size ≤ 9 ∧ PartInv v k r (bl P) ∧ Below w.heap.size w wr ∧ Nt wr A3 c3 (lim q))
            case atStart => exact ⟨0, 0, ByteArray.empty, rfl, rfl, rfl, rfl, (by omega), by simp, (by rw [HV0.out]; exact PartInv.start 0), bX3, n3⟩
            case round =>
              obtain ⟨k, r, P, hk, rfl, rfl, rfl, hr, hP, hI, bR, n3'⟩ := hrel
              have HI := Lib.hid hI
              have HK := Lib.hid hk
              have hk9 : k ≤ 9 := by omega
              clear hI hk n3 bX3
              by_cases hlt : k < 9
              · have hconv := run_bytes_text (w := wr.alloc (.cells #[.int .u8 (48 + (r : Int) % 10)] 5)) (c := 1) (Rd.one_ (mk := u8v) wr 5 (48 + r % 10) (.int .u8 (48 + (r : Int) % 10)) (int_num (by omega)))
                simp only [List.length_singleton] at hconv
                have hb1 : (bstr [48 + r % 10]).size = 1 := rfl
                have hsz : ¬ 9223372036854775807 < (bstr [48 + r % 10]).size + P.size := by omega
                have HB1 := Lib.hid hb1
                clear hb1
                go_wp2_with fail
                go_roundg (9 - (k + 1))
                case measure => have := HK.out; omega
                case rel =>
                  refine ⟨k + 1, r / 10, bstr [48 + r % 10] ++ P, by omega, by go_num, int_num (by omega), rfl, by omega, ?_, ?_, bR.alloc bR.size _, n3'.below ((Below.refl _ _).alloc (Nat.le_refl _) _)⟩
                  · have h5 := HI.out.1
                    rw [bl_len] at h5
                    rw [ByteArray.size_append, HB1.out]; omega
                  · rw [bl_append, bl_bstr' (by intro b hb; simp at hb; omega)]
                    exact HI.out.step
              · have hk10 : k = 9 := by omega
                have HK10 := Lib.hid hk10
                have hT2 := HT.out.step (by rw [← HV.out, ← HK10.out]; exact HI.out)
                have HT2 := Lib.hid hT2
                have hl9 := decR_len (nv xs)
                have hlS := HT.out.len HN0.out
                rw [bl_len] at hlS
                have hd1 : (decR N).length ≤ 1000000 := by have := decR_len N; omega
                have hSs : S.size < 6000 := by have := decR_len (nv xs); omega
                have hsz : ¬ 9223372036854775807 < P.size + S.size := by omega
                clear hk10 hT2
                go_wp2_with fail
                go_roundg q
                case measure => have := HN0.out; have := HQ.out; omega
                case rel => exact ⟨q, A3, c3, P ++ S, rfl, rfl, rfl, by have := HQ.out; omega, by rw [bl_append, HQ.out]; exact HT2.out, by rw [ByteArray.size_append]; omega, n3', bR⟩
          · have hL : lim v = [v] := by rw [lim_pos hv0, Nat.mod_eq_of_lt hv32, Nat.div_eq_of_lt hv32, lim_zero]
            rw [hL] at n4 ⊢
            obtain ⟨ad4, rfl, hb4, hc4, _⟩ := n4.at 0 (by simp)
            have hc4 : w3.cell? ad4 = some (.int .u32 (v : Int)) := hc4
            clear hL n4
            go_wp2_with fail
            clear hc4
            go_loopg [8, 9, 10] 9 (fun kn vv pp ii wr => ∃ (k r : Nat) (P : ByteArray), kn + k = 9 ∧ ii = .int .i64 (k : Int) ∧ vv = .int .u32 (r : Int) ∧ pp = .string P ∧ r < 4294967296 ∧ P.size ≤ 9 ∧ PartInv v k r (bl P) ∧ Below w.heap.size w wr ∧ Nt wr A3 c3 (lim q))
            case atStart => exact ⟨0, v, ByteArray.empty, rfl, rfl, rfl, rfl, hv32, by simp, (PartInv.start v), bX3, n3⟩
            case round =>
              obtain ⟨k, r, P, hk, rfl, rfl, rfl, hr, hP, hI, bR, n3'⟩ := hrel
              have HI := Lib.hid hI
              have HK := Lib.hid hk
              have hk9 : k ≤ 9 := by omega
              clear hI hk n3 bX3
              by_cases hlt : k < 9
              · have hconv := run_bytes_text (w := wr.alloc (.cells #[.int .u8 (48 + (r : Int) % 10)] 5)) (c := 1) (Rd.one_ (mk := u8v) wr 5 (48 + r % 10) (.int .u8 (48 + (r : Int) % 10)) (int_num (by omega)))
                simp only [List.length_singleton] at hconv
                have hb1 : (bstr [48 + r % 10]).size = 1 := rfl
                have hsz : ¬ 9223372036854775807 < (bstr [48 + r % 10]).size + P.size := by omega
                have HB1 := Lib.hid hb1
                clear hb1
                go_wp2_with fail
                go_roundg (9 - (k + 1))
                case measure => have := HK.out; omega
                case rel =>
                  refine ⟨k + 1, r / 10, bstr [48 + r % 10] ++ P, by omega, by go_num, int_num (by omega), rfl, by omega, ?_, ?_, bR.alloc bR.size _, n3'.below ((Below.refl _ _).alloc (Nat.le_refl _) _)⟩
                  · have h5 := HI.out.1
                    rw [bl_len] at h5
                    rw [ByteArray.size_append, HB1.out]; omega
                  · rw [bl_append, bl_bstr' (by intro b hb; simp at hb; omega)]
                    exact HI.out.step
              · have hk10 : k = 9 := by omega
                have HK10 := Lib.hid hk10
                have hT2 := HT.out.step (by rw [← HV.out, ← HK10.out]; exact HI.out)
                have HT2 := Lib.hid hT2
                have hl9 := decR_len (nv xs)
                have hlS := HT.out.len HN0.out
                rw [bl_len] at hlS
                have hd1 : (decR N).length ≤ 1000000 := by have := decR_len N; omega
                have hSs : S.size < 6000 := by have := decR_len (nv xs); omega
                have hsz : ¬ 9223372036854775807 < P.size + S.size := by omega
                clear hk10 hT2
                go_wp2_with fail
                go_roundg q
                case measure => have := HN0.out; have := HQ.out; omega
                case rel => exact ⟨q, A3, c3, P ++ S, rfl, rfl, rfl, by have := HQ.out; omega, by rw [bl_append, HQ.out]; exact HT2.out, by rw [ByteArray.size_append]; omega, n3', bR⟩
end Go.Proofs.Ytodopppoikdglaa
