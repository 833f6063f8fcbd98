/- The walk of natural.Sub. -/
import Derived.Test.YtlcolmifmhdboaaNatB
namespace Go.Proofs.Ytlcolmifmhdboaa
open Go.RowKit

def subS (m n : Nat) : List Nat × Int := if 512 < (lim m).length ∨ 512 < (lim n).length then ([], 2) else if m < n then ([], 4) else (lim (m - n), 0)
set_option maxRecDepth 100000 in
theorem subS_big1 {m n : Nat} (h : 512 < (lim m).length) : subS m n = ([], 2) := by simp [subS, h]
set_option maxRecDepth 100000 in
theorem subS_big2 {m n : Nat} (h : 512 < (lim n).length) : subS m n = ([], 2) := by simp [subS, h]
set_option maxRecDepth 100000 in
theorem subS_neg {m n : Nat} (h : ¬ 512 < (lim m).length) (h2 : ¬ 512 < (lim n).length) (h3 : m < n) : subS m n = ([], 4) := by simp [subS, h, h2, h3]
set_option maxRecDepth 100000 in
theorem subS_ok {m n : Nat} (h : ¬ 512 < (lim m).length) (h2 : ¬ 512 < (lim n).length) (h3 : n ≤ m) : subS m n = sizS (m - n) := by
  have h4 : ¬ m < n := by omega
  have h5 := lim_length_mono (show m - n ≤ m by omega)
  rw [subS, if_neg (by simp [h, h2]), if_neg h4, sizS, if_neg (by omega)]
/-- Sub after j limbs: the limbs so far and the borrow -/
def SubInv (X Y : List Nat) (j C : Nat) (O : List Nat) : Prop := C ≤ 1 ∧ O.length = j ∧ U32 O ∧ nv O + nv (Y.take j) = nv (X.take j) + pw j * C
set_option maxRecDepth 100000 in
theorem SubInv.start (X Y : List Nat) : SubInv X Y 0 0 [] := ⟨by omega, rfl, U32.nil, by simp [nv_nil]⟩
set_option maxRecDepth 100000 in
theorem SubInv.step {X Y : List Nat} {j C : Nat} {O : List Nat} (h : SubInv X Y j C O) (hj : j < X.length) (x C' : Nat) (hx : x < 4294967296) (hC : C' ≤ 1)
    (hs : x + C + Y.getD j 0 = X[j] + 4294967296 * C') : SubInv X Y (j + 1) C' (O ++ [x]) := by
  obtain ⟨h1, h2, h3, h4⟩ := h
  refine ⟨hC, by simp [h2], h3.append (U32.one hx), ?_⟩
  rw [nv_append, nv_take_succ X j hj, nv_take_getD, h2, nv_cons, nv_nil, pw_succ]
  have h6 : pw j * (x + C + Y.getD j 0) = pw j * (X[j] + 4294967296 * C') := by rw [hs]
  grind
set_option maxRecDepth 100000 in
theorem SubInv.done {X Y : List Nat} {C : Nat} {O : List Nat} (h : SubInv X Y X.length C O) (hl : Y.length ≤ X.length) (hle : nv Y ≤ nv X) : U32 O ∧ nv O = nv X - nv Y ∧ O.length = X.length := by
  obtain ⟨h1, h2, h3, h4⟩ := h
  rw [List.take_of_length_le (Nat.le_refl _), List.take_of_length_le hl] at h4
  have h5 := nv_lt h3
  rw [h2] at h5
  refine ⟨h3, ?_, h2⟩
  rcases Nat.eq_zero_or_pos C with h0 | h0
  · subst h0; omega
  · obtain rfl : C = 1 := by omega
    omega

/-- the borrow and the limb of a step -/
def bor (x y c : Nat) : Nat := if x < y + c then 1 else 0
def dig (x y c : Nat) : Nat := x + 4294967296 * bor x y c - y - c
set_option maxRecDepth 100000 in
theorem bor_dig {x y c : Nat} (hx : x < 4294967296) (hy : y < 4294967296) (hc : c ≤ 1) : dig x y c < 4294967296 ∧ bor x y c ≤ 1 ∧ dig x y c + c + y = x + 4294967296 * bor x y c := by
  unfold dig bor; split <;> omega
set_option maxRecDepth 100000 in
theorem sub2_div {x y c : Nat} (hx : x < 4294967296) (hy : y < 4294967296) (hc : c ≤ 1) : IntKind.u64.wrap (IntKind.u64.wrap ((x : Int) - c) - y) / 9223372036854775808 = ((bor x y c : Nat) : Int) := by
  rw [IntKind.wrap_u64, IntKind.wrap_u64]; unfold bor; split <;> omega
set_option maxRecDepth 100000 in
theorem sub2_mod {x y c : Nat} (hx : x < 4294967296) (hy : y < 4294967296) (hc : c ≤ 1) : IntKind.u64.wrap (IntKind.u64.wrap ((x : Int) - c) - y) % 4294967296 = ((dig x y c : Nat) : Int) := by
  rw [IntKind.wrap_u64, IntKind.wrap_u64]; unfold dig bor; split <;> omega
set_option maxRecDepth 100000 in
theorem sub1_div {x c : Nat} (hx : x < 4294967296) (hc : c ≤ 1) : IntKind.u64.wrap ((x : Int) - c) / 9223372036854775808 = ((bor x 0 c : Nat) : Int) := by
  rw [IntKind.wrap_u64]; unfold bor; split <;> omega
set_option maxRecDepth 100000 in
theorem sub1_mod {x c : Nat} (hx : x < 4294967296) (hc : c ≤ 1) : IntKind.u64.wrap ((x : Int) - c) % 4294967296 = ((dig x 0 c : Nat) : Int) := by
  rw [IntKind.wrap_u64]; unfold dig bor; split <;> omega

set_option maxHeartbeats 400000 in
set_option maxRecDepth 100000 in
theorem sub_any (w : World) (A D : Option Addr) (c d n m : Nat) (xs ys R : List Nat) (E : Int) (h : Nt w A c xs) (k : Nt w D d ys) (hn : n = xs.length) (hm : m = ys.length) (hr : subS (nv xs) (nv ys) = (R, E)) :
    Calls Try.prog 64 #[.slice A n c, .slice D m d] w (NatRes w R E) := by
  subst hn hm
  have HR := Lib.hid hr; clear hr
  have h1 := h.lim
  have h2 := lim_length_le_length h.u
  have h3 := h.cap
  have h4 := h.max
  have k1 := k.lim
  have k2 := lim_length_le_length k.u
  have k3 := k.cap
  have k4 := k.max
  obtain ⟨i0, hi, hz0, hz1, hz2⟩ := info_parts u32_info
  by_cases hl : 512 < (lim (nv xs)).length
  · go_enter Try.func64, Try.ntmps64
    go_wp2_with fail
    refine (large_any w A c _ xs true h rfl (by simpa using hl)).mono ?_
    rintro e w' ⟨rfl, rfl⟩
    go_wp2_with fail
    go_ret2
    have e := HR.out
    rw [subS_big1 hl] at e
    obtain ⟨rfl, rfl⟩ := Prod.mk.inj e
    exact ⟨_, _, rfl, Nt.nil _ _ _ (by omega), Below.refl _ _⟩
  · by_cases hl2 : 512 < (lim (nv ys)).length
    · go_enter Try.func64, Try.ntmps64
      go_wp2_with fail
      refine (large_any w A c _ xs false h rfl (by simpa using hl)).mono ?_
      rintro e w' ⟨rfl, rfl⟩
      go_wp2_with fail
      refine (large_any w D d _ ys true k rfl (by simpa using hl2)).mono ?_
      rintro e w' ⟨rfl, rfl⟩
      go_wp2_with fail
      go_ret2
      have e := HR.out
      rw [subS_big2 hl2] at e
      obtain ⟨rfl, rfl⟩ := Prod.mk.inj e
      exact ⟨_, _, rfl, Nt.nil _ _ _ (by omega), Below.refl _ _⟩
    · by_cases hlt : nv xs < nv ys
      · go_enter Try.func64, Try.ntmps64
        go_wp2_with fail
        refine (large_any w A c _ xs false h rfl (by simpa using hl)).mono ?_
        rintro e w' ⟨rfl, rfl⟩
        go_wp2_with fail
        refine (large_any w D d _ ys false k rfl (by simpa using hl2)).mono ?_
        rintro e w' ⟨rfl, rfl⟩
        go_wp2_with fail
        refine (cmp_any w A D c d _ _ xs ys (-1) h k rfl rfl (cmp3_lt hlt)).mono ?_
        rintro e w' ⟨rfl, q⟩
        go_wp2_with fail
        go_ret2
        have e := HR.out
        rw [subS_neg hl hl2 hlt] at e
        obtain ⟨rfl, rfl⟩ := Prod.mk.inj e
        exact ⟨_, _, rfl, Nt.nil _ _ _ (by omega), q.below _⟩
      · have hz : ∃ z : Int, 0 ≤ z ∧ cmp3 (nv xs) (nv ys) = z := ⟨_, by unfold cmp3; rw [if_neg hlt]; split <;> omega, rfl⟩
        obtain ⟨z, hzz, hz⟩ := hz
        have HZ := Lib.hid hz; clear hz
        have hlen : (lim (nv ys)).length ≤ (lim (nv xs)).length := lim_length_mono (by omega)
        go_enter Try.func64, Try.ntmps64
        go_wp2_with fail
        refine (large_any w A c _ xs false h rfl (by simpa using hl)).mono ?_
        rintro e w' ⟨rfl, rfl⟩
        go_wp2_with fail
        refine (large_any w D d _ ys false k rfl (by simpa using hl2)).mono ?_
        rintro e w' ⟨rfl, rfl⟩
        go_wp2_with fail
        refine (cmp_any w A D c d _ _ xs ys z h k rfl rfl HZ.out).mono ?_
        rintro e w' ⟨rfl, q⟩
        have hk := h.below (q.below _)
        have kk := k.below (q.below _)
        go_wp2_with fail
        go_quiet ((first | with_reducible exact length_q hk | with_reducible exact length_q kk))
        have hX := hk.lim.below (below_drewN (Below.refl w'.heap.size w') nq)
        have hY := kk.lim.below (below_drewN (Below.refl w'.heap.size w') nq)
        have hb0 := below_drewN (q.below w.heap.size) nq
        revert hX hY hb0
        generalize w'.drewN nq = w0
        intro hX hY hb0
        have hs0 := hb0.size
        generalize hXe : lim (nv xs) = X at *
        generalize hYe : lim (nv ys) = Y at *
        have HX := Lib.hid hXe
        have HY := Lib.hid hYe
        clear hXe hYe
        go_wp2_with (refine wpList_make_rd w0 (mk := lmv) 0 rfl _ _ 23 rfl 26 i0 4 Try.underlying23 hi hz0 hz1 hz2 rfl .i64 .i64 _ _ (X.length) rfl rfl (by omega) (by omega) (by omega) (by simp only [maxLen]; omega) ?_; intro w1 hg1 hb1 hs1)
        go_loopw [7, 35] (fun cy i wr => ∃ (j C : Nat) (O : List Nat), j ≤ X.length ∧ i = .int .i64 j ∧ cy = .int .u64 C ∧ SubInv X Y j C O ∧ Gr lmv 26 wr w0.heap.size (some ⟨w0.heap.size, 0, none⟩) X.length (O ++ List.replicate (X.length - j) 0) ∧ Below w0.heap.size w0 wr) (fun _ i _ => X.length - (intOf i).toNat)
        case atStart => exact ⟨0, 0, [], by omega, rfl, rfl, SubInv.start _ _, by simpa using hg1, hb1⟩
        case round =>
          obtain ⟨j, C, O, hj, rfl, rfl, hinv, hgr, hbr⟩ := hrel
          have HI := Lib.hid hinv
          have hC : C ≤ 1 := hinv.1
          have HO := Lib.hid hinv.2.1
          clear hinv hg1 hb1 hs1
          have hsz := hbr.size
          have hfree := hgr.free j
          by_cases hlt : j < X.length
          · have hcell : wr.cell? ⟨w0.heap.size, j, none⟩ = some (.int .u32 0) := by
              rw [hgr.cell j (by have := HO.out; simp; omega), List.getElem_append_right (by have := HO.out; omega)]
              simp
            obtain ⟨adX, hadX, hbX, hcX, hvX⟩ := (hX.below hbr).at j hlt
            subst hadX
            have HB := Lib.hid hbr
            have HG := Lib.hid hgr
            clear hbr hgr h k h1 k1 hk kk
            by_cases hlt2 : j < Y.length
            · obtain ⟨adY, hadY, hbY, hcY, hvY⟩ := (hY.below HB.out).at j hlt2
              subst hadY
              go_wp2_with fail
              go_roundw
              case rel => exact ⟨j + 1, _, _, by omega, by go_num, by rw [sub2_div hvX hvY hC], HI.out.step hlt _ _ (bor_dig hvX hvY hC).1 (bor_dig hvX hvY hC).2.1 (by rw [← (bor_dig hvX hvY hC).2.2]; simp [hlt2]), by rw [sub2_mod hvX hvY hC]; exact HG.out.push HO.out (by omega) _, HB.out.setCell (Nat.le_refl _) _⟩
              case measure => simp [intOf]; omega
            · go_wp2_with fail
              go_roundw
              case rel => exact ⟨j + 1, _, _, by omega, by go_num, by rw [sub1_div hvX hC], HI.out.step hlt _ _ (bor_dig hvX (Nat.zero_lt_succ _) hC).1 (bor_dig hvX (Nat.zero_lt_succ _) hC).2.1 (by rw [← (bor_dig hvX (Nat.zero_lt_succ _) hC).2.2]; simp [List.getElem?_eq_none (Nat.le_of_not_lt hlt2)]), by rw [sub1_mod hvX hC]; exact HG.out.push HO.out (by omega) _, HB.out.setCell (Nat.le_refl _) _⟩
              case measure => simp [intOf]; omega
          · obtain rfl : j = X.length := by omega
            have hXn : nv X = nv xs := by rw [← HX.out, nv_lim]
            have hYn : nv Y = nv ys := by rw [← HY.out, nv_lim]
            have hfin := HI.out.done (by rw [← HX.out, ← HY.out]; exact lim_length_mono (by omega)) (by omega)
            rw [hXn, hYn] at hfin
            rw [Nat.sub_self, List.replicate_zero, List.append_nil] at hgr
            have hnt := hgr.nt hfin.1
            have HF := Lib.hid hfin
            have HB := Lib.hid hbr
            clear hfin hgr hbr hXn hYn
            go_wp2_with fail
            refine (sized_any _ _ _ _ O R E hnt HF.out.2.2.symm (by rw [HF.out.2.1, ← HR.out, subS_ok (by rw [HX.out]; exact hl) (by rw [HY.out]; exact hl2) (by omega)])).mono ?_
            rintro e w' ⟨⟨A', c', rfl, hnt'⟩, rfl⟩
            clear hnt
            go_wp2_with fail
            go_ret2
            exact ⟨A', c', rfl, hnt', below_on hb0 HB.out hs0⟩
end Go.Proofs.Ytlcolmifmhdboaa
