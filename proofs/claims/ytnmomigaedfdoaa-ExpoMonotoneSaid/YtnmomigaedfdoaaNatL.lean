/- The walk of natural.Shift. -/
import Derived.Test.YtnmomigaedfdoaaShT
import Derived.Deep.RegionLaw
import Derived.Deep.OwnRows
namespace Go.Proofs.Ytnmomigaedfdoaa
set_option maxRecDepth 100000
open Go.RowKit

/-- append at a step of a region that draws its order -/
theorem step_append_rd {P : Program} (w : World) {α : Type} {mk : α → Value} (hone : ∀ x, (mk x).oneCell' = true) {ops : Array Oper} {o : Oper} {a : Act} {K : Act → World → Prop} {Q : Exit → Act → World → Prop} {X : Prop} (hgd : o.guard = none) (s x : Operand) (t : TypeId)
    (ho : o.op = .call { callee := .builtin .append, args := #[s, x], argTypes := #[t, t] })
    (e : TypeId) (i : TypeInfo) (z : Value) (bytes : Nat) (ht : P.underlying t = some (.slice e)) (hi : P.info? e = some i) (hz : i.zero = some z)
    (hsize : i.size = 1) (hby : i.bytes = bytes) (hzs : z.cells.size = 1) {B c n : Nat} {A : Option Addr} {xs : List α} (hs : a.eval s = .slice A n c) (hn : n = xs.length) (hown : Gr mk e w B A c xs)
    (A2 : Option Addr) (m c2 : Nat) (ys : List α) (hx : a.eval x = .slice A2 m c2) (hm : m = ys.length) (hr : Rd mk w A2 ys) (hmax : n + m ≤ maxLen) (hbytes : (n + m) * bytes ≤ 140737488355328) (hbase : B ≤ w.heap.size)
    (h : ∀ A' c' w', Gr mk e w' B A' c' (xs ++ ys) → w.grownBy w' (A.map (·.block)) → Below B w w' → (A'.map (·.block) = A.map (·.block) ∨ A'.map (·.block) = some w.heap.size) →
      K (a.put o.dst (.slice A' (n + m) c')) w') :
    if Region.wanted o (yielded ops a.tmps) = true then Oper.wp P o a w K Q else X := by
  have hw : Region.wanted o (yielded ops a.tmps) = true := by simp [Region.wanted, hgd]
  rw [if_pos hw]
  subst hn hm
  obtain ⟨A', c', w', hrun, h1, h2, h3, h4⟩ := run_append_rd (P := P) w hone t o.type e i z bytes ht hi hz hsize hby hzs hown A2 c2 ys hr hmax hbytes hbase
  unfold Oper.wp execOp
  simp only [ho, resolve, invoke, builtin, Sem.run_bind, Sem.run_pure, Result.andThen_ok, List.map_toArray, List.map_cons, List.map_nil, hs, hx, hrun]
  exact h A' c' w' h1 h2 h3 h4

/-- the number shifted, and the error -/
def shiftS (m : Nat) (n : Int) : List Nat × Int :=
  if 512 < (lim m).length ∨ (m ≠ 0 ∧ 16384 < n) then ([], 2) else if m = 0 ∨ n ≤ -16384 then ([], 0) else if 0 ≤ n then sizS (m * 2 ^ n.toNat) else (lim (m / 2 ^ (-n).toNat), 0)
theorem shiftS_big {m : Nat} {n : Int} (h : 512 < (lim m).length) : shiftS m n = ([], 2) := by rw [shiftS, if_pos (.inl h)]
theorem shiftS_far {m : Nat} {n : Int} (h : m ≠ 0) (h2 : 16384 < n) : shiftS m n = ([], 2) := by rw [shiftS, if_pos (.inr ⟨h, h2⟩)]
theorem shiftS_zero {m : Nat} {n : Int} (h : m = 0) : shiftS m n = ([], 0) := by subst h; rw [shiftS, if_neg (by rw [lim_zero]; simp), if_pos (.inl rfl)]
theorem shiftS_low {m : Nat} {n : Int} (h : ¬ 512 < (lim m).length) (h2 : n ≤ -16384) : shiftS m n = ([], 0) := by rw [shiftS, if_neg (by omega), if_pos (.inr h2)]
theorem shiftS_up {m k : Nat} (h : ¬ 512 < (lim m).length) (h0 : m ≠ 0) (h2 : (k : Int) ≤ 16384) : shiftS m k = sizS (m * 2 ^ k) := by rw [shiftS, if_neg (by omega), if_neg (by omega), if_pos (by omega), Int.toNat_natCast]
theorem shiftS_down {m k : Nat} (h : ¬ 512 < (lim m).length) (h0 : m ≠ 0) (h2 : (k : Int) < 16384) (h3 : 0 < k) : shiftS m (-(k : Int)) = (lim (m / 2 ^ k), 0) := by
  rw [shiftS, if_neg (by omega), if_neg (by omega), if_neg (by omega)]; simp
theorem sizS_small {m : Nat} (h : ¬ 512 < (lim m).length) : sizS m = (lim m, 0) := by rw [sizS, if_neg h]

theorem nt_alloc_drew {w : World} {A : Option Addr} {c : Nat} {xs : List Nat} (h : Nt w A c xs) (o : Obj) : Nt ((w.alloc o).drew) A c xs := h.below (below_drew ((Below.refl _ _).alloc (Nat.le_refl _) o))
/-- up, its place a letter -/
theorem up_ex (w : World) (B : Nat) (A : Option Addr) (c n s N : Nat) (xs : List Nat) (h : Nt w A c xs) (hn : xs.length = n) (hN : nv xs = N) (hs : s < 32) (hl : n ≤ 1000000) (hB : B ≤ w.heap.size) :
    Calls Try.prog 107 #[.slice A n c, .int .u64 (s : Int)] w fun e w' => ∃ (AO : Option Addr) (O : List Nat), e = .returned (.slice AO (n + 1) (n + 1)) ∧ O.length = n + 1 ∧ nv O = N * 2 ^ s ∧ Nt w' AO (n + 1) O ∧ Below w.heap.size w w' ∧ B ≤ w'.heap.size := by
  refine (up_at w _ A c n s N xs h hn hN rfl hs hl).mono ?_
  rintro e w' ⟨O, rfl, l1, v1, u1, g1, b1, z1⟩
  exact ⟨_, O, rfl, l1, v1, g1.nt u1, b1, by omega⟩
theorem gr_made (w : World) (n : Nat) (hn : n ≤ 1000000) : Gr lmv 82 (w.alloc (.cells (madeCells #[.int .u32 0] n) 82)) w.heap.size (some ⟨w.heap.size, 0, none⟩) n (List.replicate n 0) := by
  have h := Gr.lit (mk := lmv) (e := 82) (B := w.heap.size) w (List.replicate n 0) (madeCells #[.int .u32 0] n) (by rw [toList_madeCells_one, List.map_replicate]; rfl) (by simp [maxLen]; omega) (Nat.le_refl _)
  rwa [List.length_replicate] at h
theorem size_ad (w : World) (o : Obj) : w.heap.size ≤ ((w.alloc o).drew).heap.size := by
  show w.heap.size ≤ (w.alloc o).heap.size
  simp
/-- the row that was made ahead of up, and the one that was made behind it -/
theorem shift_ord1 {w w2 : World} {AO : Option Addr} {m wh : Nat} {O : List Nat} (hw : wh ≤ 1000000) (n1 : Nt w2 AO m O) (b2 : Below ((w.alloc (.cells (madeCells #[.int .u32 0] wh) 82)).drew).heap.size ((w.alloc (.cells (madeCells #[.int .u32 0] wh) 82)).drew) w2) :
    Gr lmv 82 w2 w.heap.size (some ⟨w.heap.size, 0, none⟩) wh (List.replicate wh 0) ∧ Nt w2 AO m O ∧ w.heap.size ≤ w2.heap.size ∧ Below w.heap.size w w2 :=
  ⟨(gr_made w wh hw).drew.below b2, n1, Nat.le_trans (size_ad w _) b2.size, below_on (below_drew ((Below.refl _ _).alloc (Nat.le_refl _) _)) b2 (size_ad w _)⟩
theorem shift_ord2 {w w2 : World} {AO : Option Addr} {m wh : Nat} {O : List Nat} (hw : wh ≤ 1000000) (n1 : Nt w2 AO m O) (b2 : Below w.drew.heap.size w.drew w2) :
    Gr lmv 82 (w2.alloc (.cells (madeCells #[.int .u32 0] wh) 82)) w.heap.size (some ⟨w2.heap.size, 0, none⟩) wh (List.replicate wh 0) ∧ Nt (w2.alloc (.cells (madeCells #[.int .u32 0] wh) 82)) AO m O ∧ w.heap.size ≤ (w2.alloc (.cells (madeCells #[.int .u32 0] wh) 82)).heap.size ∧ Below w.heap.size w (w2.alloc (.cells (madeCells #[.int .u32 0] wh) 82)) := by
  have hs : w.heap.size ≤ w2.heap.size := b2.size
  exact ⟨(gr_made w2 wh hw).more (by intro a e; injection e with e; subst e; exact hs), n1.below ((Below.refl _ _).alloc (Nat.le_refl _) _), Nat.le_trans hs (by simp), (below_of_drew b2).alloc hs _⟩

theorem or_low32 {x y : Nat} (hx : x < 4294967296) (hy : y < 4294967296) : bits .or .u64 (x : Int) ((y : Int) * 4294967296) = ((y * 4294967296 + x : Nat) : Int) := by
  have h := u64_or_nat x (y * 4294967296) (by omega) (by omega)
  rw [Nat.or_comm, nat_join32 (y * 4294967296) x (by omega) hx] at h
  have e1 : (((y * 4294967296 : Nat)) : Int) = (y : Int) * 4294967296 := by omega
  rw [e1] at h
  exact h
theorem cell_at_succ {w : World} {ad : Addr} {k : Nat} {v : Value} (h : w.cell? (ad.add (k + 1)) = some v) : w.cell? ⟨ad.block, ad.off + (k + 1), none⟩ = some v := by
  have e : ad.add (k + 1) = ⟨ad.block, ad.off + (k + 1), none⟩ := by unfold Addr.add; rw [if_neg (by omega)]
  rw [← e]; exact h

set_option maxHeartbeats 1000000 in
theorem shift_any (w : World) (A : Option Addr) (c n : Nat) (N : Int) (xs R : List Nat) (E : Int) (h : Nt w A c xs) (hn : n = xs.length) (hr : shiftS (nv xs) N = (R, E)) :
    Calls Try.prog 91 #[.slice A n c, .int .i64 N] w (NatRes w R E) := by
  subst hn
  have HR := Lib.hid hr; clear hr
  have h1 := h.lim
  have h2 := lim_length_le_length h.u
  have h3 := h.cap
  have h4 := h.max
  by_cases hl : 512 < (lim (nv xs)).length
  · go_enter Try.func91, Try.ntmps91
    go_wp2_with fail
    refine (length_any w A c _ xs h rfl).mono ?_
    rintro e w' ⟨rfl, rfl⟩
    go_wp2_with fail
    go_ret2
    have e := HR.out
    rw [shiftS_big hl] at e
    obtain ⟨rfl, rfl⟩ := Prod.mk.inj e
    exact ⟨_, _, rfl, Nt.nil _ _ _ (by omega), Below.refl _ _⟩
  · have hd0 : decide (512 < ((lim (nv xs)).length : Int)) = false := decide_eq_false (by omega)
    by_cases h0 : nv xs = 0
    · have hz : (lim (nv xs)).length = 0 := by rw [h0, lim_zero]; rfl
      have HL : Hid (¬ 512 < (lim (nv xs)).length) := hl
      have hz1 : (((lim (nv xs)).length : Int) == 0) = true := by simp [hz]
      have hz2 : decide (0 < (lim (nv xs)).length) = false := decide_eq_false (by omega)
      have hz3 : decide (0 < ((lim (nv xs)).length : Int)) = false := decide_eq_false (by omega)
      have H0 := Lib.hid h0
      clear h0 hz hl
      go_enter Try.func91, Try.ntmps91
      go_wp2_with fail
      refine (length_any w A c _ xs h rfl).mono ?_
      rintro e w' ⟨rfl, rfl⟩
      go_wp2_with fail
      go_ret2
      have e := HR.out
      rw [shiftS_zero H0.out] at e
      obtain ⟨rfl, rfl⟩ := Prod.mk.inj e
      exact ⟨_, _, rfl, Nt.nil _ _ _ (by omega), Below.refl _ _⟩
    · have hp := lim_length_pos.2 h0
      have hz1 : (((lim (nv xs)).length : Int) == 0) = false := beq_eq_false_iff_ne.2 (by omega)
      have hz2 : decide (0 < (lim (nv xs)).length) = true := decide_eq_true (by omega)
      have hz3 : decide (0 < ((lim (nv xs)).length : Int)) = true := decide_eq_true (by omega)
      have H0 : Hid (nv xs ≠ 0) := h0
      have HL : Hid (¬ 512 < (lim (nv xs)).length) := hl
      have hl5 : (lim (nv xs)).length ≤ 512 := by omega
      clear h0 hl
      by_cases hf : 16384 < N
      · have hf1 : decide (16384 < N) = true := decide_eq_true hf
        have HF : Hid (16384 < N) := hf
        clear hf
        go_enter Try.func91, Try.ntmps91
        go_wp2_with fail
        refine (length_any w A c _ xs h rfl).mono ?_
        rintro e w' ⟨rfl, rfl⟩
        go_wp2_with fail
        go_ret2
        have e := HR.out
        rw [shiftS_far H0.out HF.out] at e
        obtain ⟨rfl, rfl⟩ := Prod.mk.inj e
        exact ⟨_, _, rfl, Nt.nil _ _ _ (by omega), Below.refl _ _⟩
      · have hf1 : decide (16384 < N) = false := decide_eq_false hf
        by_cases hg : N ≤ -16384
        · have hg1 : decide (N ≤ -16384) = true := decide_eq_true hg
          go_enter Try.func91, Try.ntmps91
          go_wp2_with fail
          refine (length_any w A c _ xs h rfl).mono ?_
          rintro e w' ⟨rfl, rfl⟩
          go_wp2_with fail
          go_ret2
          have e := HR.out
          rw [shiftS_low HL.out hg] at e
          obtain ⟨rfl, rfl⟩ := Prod.mk.inj e
          exact ⟨_, _, rfl, Nt.nil _ _ _ (by omega), Below.refl _ _⟩
        · have hg1 : decide (N ≤ -16384) = false := decide_eq_false hg
          by_cases hpos : 0 ≤ N
          · obtain ⟨k, rfl⟩ := Int.eq_ofNat_of_zero_le hpos
            have hk5 : (k : Int) ≤ 16384 := by omega
            have HK5 := Lib.hid hk5
            obtain ⟨wh, hwh⟩ : ∃ wh, wh = k / 32 := ⟨_, rfl⟩
            obtain ⟨s, hs⟩ : ∃ s, s = k % 32 := ⟨_, rfl⟩
            have hwl : wh ≤ 512 := by omega
            have hs32 : s < 32 := by omega
            have e1 : (k : Int) / 32 = (wh : Int) := by omega
            have e2 : (k : Int) % 32 = (s : Int) := by omega
            have e3 : (k : Int).tmod 32 = (s : Int) := by rw [Int.tmod_eq_emod_of_nonneg (by omega)]; omega
            have e4 : (k : Int).tdiv 32 = (wh : Int) := by rw [Int.tdiv_eq_ediv_of_nonneg (by omega)]; omega
            have HWH := Lib.hid hwh
            have HS := Lib.hid hs
            clear hwh hs hk5 hpos hf hg
            obtain ⟨i0, hi, hz0, hz1', hz2'⟩ := info_parts u32_info
            have hwm : wh ≤ 1000000 := by omega
            have hl6 : (lim (nv xs)).length ≤ 1000000 := by omega
            have hw1 : IntKind.i64.wrap (wh : Int) = wh := IntWalk.i64_in _ (by omega)
            have hw2 : IntKind.i64.wrap (s : Int) = s := IntWalk.i64_in _ (by omega)
            have hw3 : IntKind.u64.wrap (s : Int) = s := by rw [IntKind.wrap_u64]; omega
            have hmk := fun w => run_make_row' (P := Try.prog) 24 82 (.int .u32 0) 4 Try.underlying24 u32_info rfl .i64 .i64 wh (by omega) (by omega) w
            go_enter Try.func91, Try.ntmps91
            go_wp2_with fail
            refine (length_any w A c _ xs h rfl).mono ?_
            rintro e w' ⟨rfl, rfl⟩
            go_wp2_with fail
            go_region_law (first
              | (go_simp
                 go_at_call 107
                 with_reducible refine (up_ex _ w.heap.size A c (lim (nv xs)).length s (nv xs) (lim (nv xs)) ?_ rfl (nv_lim (nv xs)) hs32 hl6 ?_).mono ?_
                 · first | exact nt_drew h1 | exact nt_alloc_drew h1 _
                 · first | exact Nat.le_refl _ | exact size_ad _ _
                 rintro e w2 ⟨AO, O, rfl, l1, v1, n1, b2, z2⟩)
              | (go_simp
                 go_at_call 106
                 refine (sized_any _ A3 c3 _ _ R E (g3.nt ?_) ?_ ?_).mono ?_
                 · exact (U32.replicate _).append n1.u
                 · simp [l1]
                 · rw [HWH.out, nv_shift_up (k := k) (m := nv xs)]
                   · rw [← HR.out, shiftS_up HL.out H0.out HK5.out]
                   · rw [v1, HS.out]
                 rintro e w4 ⟨⟨A4, c4, rfl, n4⟩, rfl⟩)
              | (refine step_append_rd _ (mk := lmv) (fun _ => rfl) rfl _ _ 24 rfl 82 i0 (.int .u32 0) 4 Try.underlying24 hi hz0 hz1' hz2' rfl (B := w.heap.size) (xs := List.replicate wh 0) rfl ?_ ?_ AO _ _ O rfl l1.symm ?_ ?_ ?_ ?_ ?_
                 · simp
                 · first | exact (shift_ord1 hwm n1 b2).1 | exact (shift_ord2 hwm n1 b2).1
                 · first | exact (shift_ord1 hwm n1 b2).2.1.rd | exact (shift_ord2 hwm n1 b2).2.1.rd
                 · simp only [maxLen]; omega
                 · omega
                 · first | exact (shift_ord1 hwm n1 b2).2.2.1 | exact (shift_ord2 hwm n1 b2).2.2.1
                 first | have bb := (shift_ord1 hwm n1 b2).2.2.2 | have bb := (shift_ord2 hwm n1 b2).2.2.2
                 intro A3 c3 w3 g3 gr3 b3 _))
            all_goals
              go_wp2_with fail
              go_ret2
              exact ⟨A4, c4, rfl, n4, bb.trans b3⟩
          · have hpos1 : decide (0 ≤ N) = false := decide_eq_false hpos
            obtain ⟨k, hk⟩ : ∃ k : Nat, -N = (k : Int) := ⟨(-N).toNat, by omega⟩
            have hk5 : (k : Int) < 16384 := by omega
            have hk0 : 0 < k := by omega
            have HN : Hid (N = -(k : Int)) := Lib.hid (by omega)
            have HK5 := Lib.hid hk5
            have HK0 := Lib.hid hk0
            obtain ⟨wh, hwh⟩ : ∃ wh, wh = k / 32 := ⟨_, rfl⟩
            obtain ⟨s, hs⟩ : ∃ s, s = k % 32 := ⟨_, rfl⟩
            have hwl : wh ≤ 512 := by omega
            have hs32 : s < 32 := by omega
            have e1 : (k : Int) / 32 = (wh : Int) := by omega
            have e2 : (k : Int) % 32 = (s : Int) := by omega
            have e3 : (k : Int).tmod 32 = (s : Int) := by rw [Int.tmod_eq_emod_of_nonneg (by omega)]; omega
            have e4 : (k : Int).tdiv 32 = (wh : Int) := by rw [Int.tdiv_eq_ediv_of_nonneg (by omega)]; omega
            have HWH := Lib.hid hwh
            have HS := Lib.hid hs
            have hk16 : (k : Int) ≤ 16384 := by omega
            clear hwh hs hk5 hpos hf hg hk0
            have hw1 : IntKind.i64.wrap (wh : Int) = wh := IntWalk.i64_in _ (by omega)
            have hw2 : IntKind.i64.wrap (s : Int) = s := IntWalk.i64_in _ (by omega)
            have hw3 : IntKind.u64.wrap (s : Int) = s := by rw [IntKind.wrap_u64]; omega
            obtain ⟨i0, hi, hz0, hz1', hz2'⟩ := info_parts u32_info
            obtain ⟨L, hL⟩ : ∃ L, L = (lim (nv xs)).length := ⟨_, rfl⟩
            have HLL := Lib.hid hL
            by_cases hwl2 : L ≤ wh
            · have hgeq : decide ((L : Int) ≤ wh) = true := decide_eq_true (by omega)
              have hgeq2 : decide (L ≤ wh) = true := decide_eq_true (by omega)
              rw [hL] at hgeq hgeq2
              have HW2 := Lib.hid hwl2
              clear hL hwl2
              go_enter Try.func91, Try.ntmps91
              go_wp2_with fail
              refine (length_any w A c _ xs h rfl).mono ?_
              rintro e w' ⟨rfl, rfl⟩
              go_wp2_with fail
              go_ret2
              have e := HR.out
              rw [HN.out, shiftS_down HL.out H0.out HK5.out HK0.out, ← nv_lim (nv xs), shift_down_far (lim_u32 _) (by rw [← HWH.out, ← HLL.out]; exact HW2.out), lim_zero] at e
              obtain ⟨rfl, rfl⟩ := Prod.mk.inj e
              exact ⟨_, _, rfl, Nt.nil _ _ _ (by omega), Below.refl _ _⟩
            · have hgeq : decide ((L : Int) ≤ wh) = false := decide_eq_false (by omega)
              have hgeq2 : decide (L ≤ wh) = false := decide_eq_false (by omega)
              rw [hL] at hgeq hgeq2
              have hLw : wh < (lim (nv xs)).length := by omega
              clear hL
              go_enter Try.func91, Try.ntmps91
              go_wp2_with fail
              refine (length_any w A c _ xs h rfl).mono ?_
              rintro e w' ⟨rfl, rfl⟩
              obtain ⟨X, hX⟩ : ∃ X, X = lim (nv xs) := ⟨_, rfl⟩
              rw [← hX] at hgeq hgeq2 hLw h1 hz1 hz2 hz3 hd0 hl5 ⊢
              have HX := Lib.hid hX
              have hXc := h1.cap
              clear hX hwl2 h2
              go_wp2_with (at_make; refine wpList_make_rd w (mk := lmv) 0 rfl _ _ 24 rfl 82 i0 4 Try.underlying24 hi hz0 hz1' hz2' rfl .i64 .i64 _ _ (X.length - wh) rfl rfl (by omega) (by omega) (by omega) (by simp only [maxLen]; omega) ?_; intro w1 hg1 hb1 hs1)
              have k1 := h1.below hb1
              go_wp2_with fail
              go_loopg [69] (X.length - wh) (fun rk iv wr => ∃ (i : Nat) (R : List Nat), rk + i = X.length - wh ∧ iv = .int .i64 i ∧ R.length = i ∧ (∀ t (ht : t < R.length), R[t] = nv X / (pw wh * 2 ^ s) / pw t % 4294967296) ∧ Gr lmv 82 wr w.heap.size (some ⟨w.heap.size, 0, none⟩) (X.length - wh) (R ++ List.replicate (X.length - wh - i) 0) ∧ Below w.heap.size w wr)
              case atStart => exact ⟨0, [], by omega, rfl, rfl, fun t ht => absurd ht (by simp), by simpa using hg1, hb1⟩
              case round =>
                obtain ⟨i, S, hi2, rfl, hR, hRv, gR, bR⟩ := hrel
                have HI := Lib.hid hi2
                have HRl := Lib.hid hR
                have HRv := Lib.hid hRv
                have hi3 : i ≤ X.length - wh := by omega
                clear hi2 hR hRv hg1 hb1 hs1 k1
                by_cases hlt : i < X.length - wh
                · obtain ⟨ad, hA, hbX, hcX, hvX⟩ := (h1.below bR).at (wh + i) (by omega)
                  subst hA
                  obtain ⟨x, hx⟩ : ∃ x, x = X[wh + i]'(by omega) := ⟨_, rfl⟩
                  rw [← hx] at hcX hvX
                  have HXX := Lib.hid hx
                  have XU := Lib.hid h1.u
                  have hw5 : IntKind.u64.wrap (x : Int) = x := by rw [IntKind.wrap_u64]; omega
                  clear hx
                  by_cases hnx : wh + i + 1 < X.length
                  · obtain ⟨ad2, hA, _, hcX2, hvX2⟩ := (h1.below bR).at (wh + i + 1) hnx
                    injection hA with hA
                    subst hA
                    obtain ⟨y, hy⟩ : ∃ y, y = X[wh + i + 1]'(by omega) := ⟨_, rfl⟩
                    rw [← hy] at hcX2 hvX2
                    have hcX3 := cell_at_succ hcX2
                    have hw6 : IntKind.u64.wrap (y : Int) = y := by rw [IntKind.wrap_u64]; omega
                    obtain ⟨hd, hhd⟩ : ∃ t, t = y * 4294967296 + x := ⟨_, rfl⟩
                    have hor : bits .or .u64 (x : Int) ((y : Int) * 4294967296) = (hd : Int) := by rw [or_low32 hvX hvX2, hhd]
                    have HHD := Lib.hid hhd
                    have HYY := Lib.hid hy
                    clear hhd hy hcX2
                    have hcr := gR.cell i (by have := HRl.out; simp; omega)
                    rw [List.getElem_append_right (by have := HRl.out; omega)] at hcr
                    simp only [List.getElem_replicate] at hcr
                    have hfr := gR.free i
                    have GR := Lib.hid gR
                    have BR := Lib.hid bR
                    clear gR bR
                    go_wp2_with fail
                    go_roundg (X.length - wh - (i + 1))
                    case measure => have := HI.out; omega
                    case rel =>
                      refine ⟨i + 1, S ++ [hd / 2 ^ s % 4294967296], by omega, by go_num, by have := HRl.out; simp; omega, ?_, ?_, BR.out.setCell (Nat.le_refl _) _⟩
                      · intro t ht
                        rcases Nat.lt_or_ge t S.length with h1 | h1
                        · rw [List.getElem_append_left h1]; exact HRv.out t h1
                        · have ht1 : t = i := by have := HRl.out; simp at ht; omega
                          subst ht1
                          rw [List.getElem_append_right h1]
                          simp only [List.getElem_singleton]
                          rw [HHD.out]
                          have := down_limb XU.out hs32 (wh := wh) (i := t) (by omega)
                          rw [← this]
                          (rw [HXX.out, HYY.out, List.getD_eq_getElem?_getD, List.getElem?_eq_getElem hnx, Option.getD_some])
                      · rw [cast_shr_mod hd s]
                        exact GR.out.push HRl.out hlt _
                  · have hnx1 : decide ((wh : Int) + i + 1 < X.length) = false := decide_eq_false (by omega)
                    have hnx2 : decide (wh + i + 1 < X.length) = false := decide_eq_false hnx
                    obtain ⟨hd, hhd⟩ : ∃ t, t = x := ⟨_, rfl⟩
                    have HHD := Lib.hid hhd
                    rw [← hhd] at hcX hw5 hvX HXX
                    clear hhd
                    have hcr := gR.cell i (by have := HRl.out; simp; omega)
                    rw [List.getElem_append_right (by have := HRl.out; omega)] at hcr
                    simp only [List.getElem_replicate] at hcr
                    have hfr := gR.free i
                    have GR := Lib.hid gR
                    have BR := Lib.hid bR
                    clear gR bR
                    go_wp2_with fail
                    go_roundg (X.length - wh - (i + 1))
                    case measure => have := HI.out; omega
                    case rel =>
                      refine ⟨i + 1, S ++ [hd / 2 ^ s % 4294967296], by omega, by go_num, by have := HRl.out; simp; omega, ?_, ?_, BR.out.setCell (Nat.le_refl _) _⟩
                      · intro t ht
                        rcases Nat.lt_or_ge t S.length with h1 | h1
                        · rw [List.getElem_append_left h1]; exact HRv.out t h1
                        · have ht1 : t = i := by have := HRl.out; simp at ht; omega
                          subst ht1
                          rw [List.getElem_append_right h1]
                          simp only [List.getElem_singleton]
                          rw [HHD.out]
                          have := down_limb XU.out hs32 (wh := wh) (i := t) (by omega)
                          rw [← this]
                          (rw [← HHD.out, HXX.out, List.getD_eq_getElem?_getD, List.getElem?_eq_none (by omega), Option.getD_none, Nat.zero_mul, Nat.zero_add])
                      · rw [cast_shr_mod hd s]
                        exact GR.out.push HRl.out hlt _
                · obtain rfl : i = X.length - wh := by omega
                  have gR2 : Gr lmv 82 wr w.heap.size (some ⟨w.heap.size, 0, none⟩) (X.length - wh) S := by simpa using gR
                  have hRu : U32 S := u32_of_at fun t ht => by rw [HRv.out t ht]; exact Nat.mod_lt _ (by omega)
                  have hval : nv S = nv xs / 2 ^ k := by
                    have h5 := nv_shift_down h1.u (k := k) (R := S) (by rw [← HWH.out]; exact hLw) (by rw [← HWH.out]; exact HRl.out) (by rw [← HWH.out, ← HS.out]; exact HRv.out)
                    rw [h5, HX.out, nv_lim]
                  have hle : nv xs / 2 ^ k ≤ nv xs := Nat.div_le_self _ _
                  have hl8 := lim_length_mono hle
                  have hcall := sized_any wr _ _ _ S R E (gR2.nt hRu) HRl.out.symm (by
                    rw [hval, sizS_small (by have := HL.out; omega), ← HR.out, HN.out, shiftS_down HL.out H0.out HK5.out HK0.out])
                  have HC := Lib.hid hcall
                  clear hcall gR gR2 hval hle hl8
                  go_wp2_with fail
                  refine HC.out.mono ?_
                  rintro e w4 ⟨⟨A4, c4, rfl, n4⟩, rfl⟩
                  go_wp2_with fail
                  go_ret2
                  exact ⟨A4, c4, rfl, n4, bR⟩
end Go.Proofs.Ytnmomigaedfdoaa
