/- The walks of package natural: length, large, Cmp. The walks of package natural: sized, Make, Trim, Add, Sub. -/
import Derived.Test.YtnmomigaedfdoaaProg
import Derived.Test.YtnmomigaedfdoaaBase
import Derived.BigQuiet
import Derived.Deep.QuietTactic
namespace Go.Proofs.Ytnmomigaedfdoaa
set_option maxRecDepth 100000
open Go.RowKit

theorem tl_yes {xs : List Nat} {k : Nat} (hk : k < xs.length) (h : xs[k] = 0) : tl xs (k + 1) = tl xs k := by
  simp [tl, List.getD_eq_getElem?_getD, hk, h]
theorem tl_no {xs : List Nat} {k : Nat} (hk : k < xs.length) (h : xs[k] ≠ 0) : tl xs (k + 1) = k + 1 := by
  simp [tl, List.getD_eq_getElem?_getD, hk, h]

theorem length_any (w : World) (A : Option Addr) (c n : Nat) (xs : List Nat) (h : Nt w A c xs) (hn : n = xs.length) :
    Calls Try.prog 89 #[.slice A n c] w fun e w' => e = .returned (.int .i64 (lim (nv xs)).length) ∧ w = w' := by
  subst hn
  have h1 := h.cap
  have h2 := h.max
  have HT := Lib.hid (tl_length h.u)
  go_enter Try.func89, Try.ntmps89
  go_wp2
  go_loop [3] (fun i => ∃ k : Nat, k ≤ xs.length ∧ i = .int .i64 k ∧ tl xs k = tl xs xs.length) (fun i => (intOf i).toNat)
  case atStart => exact ⟨xs.length, Nat.le_refl _, rfl, rfl⟩
  case round =>
    obtain ⟨k, hk, rfl, ht⟩ := hrel
    have HT2 := Lib.hid ht; clear ht
    rcases k with _ | k
    · go_wp2
      go_ret
      exact ⟨by rw [← HT.out, ← HT2.out]; rfl, rfl⟩
    · obtain ⟨ad, rfl, hb, hc, hlt⟩ := h.at k (by omega)
      clear h
      by_cases hz : xs[k] = 0
      · have hz' : ((xs[k] : Int) == 0) = true := by simp [hz]
        have HZ := Lib.hid hz; clear hz
        go_wp2
        go_round
        case rel => exact ⟨k, by omega, by go_num, by rw [← HT2.out, tl_yes (by omega) HZ.out]⟩
        case measure => simp [intOf]
      · have hz' : ((xs[k] : Int) == 0) = false := by simp; omega
        go_wp2
        go_ret
        exact ⟨by rw [← HT.out, ← HT2.out, tl_no (by omega) hz]; go_num, rfl⟩

theorem large_any (w : World) (A : Option Addr) (c n : Nat) (xs : List Nat) (b : Bool) (h : Nt w A c xs) (hn : n = xs.length) (hb : decide (512 < (lim (nv xs)).length) = b) :
    Calls Try.prog 108 #[.slice A n c] w fun e w' => e = .returned (.bool b) ∧ w = w' := by
  have HB := Lib.hid hb; clear hb
  subst hn
  go_enter Try.func108, Try.ntmps108
  go_wp2_with fail
  refine (length_any w A c _ xs h rfl).mono ?_
  rintro e w' ⟨rfl, rfl⟩
  go_wp2_with fail
  go_ret
  exact ⟨ret_bool (by rw [← HB.out]; apply decide_eq_decide.2; omega), rfl⟩

theorem cmp3_lt {m n : Nat} (h : m < n) : cmp3 m n = -1 := by simp [cmp3, h]
theorem cmp3_gt {m n : Nat} (h : n < m) : cmp3 m n = 1 := by
  have : ¬ m < n := by omega
  simp [cmp3, h, this]
theorem cmp3_eq {m n : Nat} (h : m = n) : cmp3 m n = 0 := by subst h; simp [cmp3]
theorem lt_of_lim_lt {m n : Nat} (h : (lim m).length < (lim n).length) : m < n := by
  rcases Nat.lt_or_ge m n with h1 | h1
  · exact h1
  · have := lim_length_mono h1; omega

/-- the comparison from above: the limbs from k on are alike -/
def Tops (xs ys : List Nat) (k : Nat) : Prop := ∀ j (h1 : j < xs.length) (h2 : j < ys.length), k ≤ j → xs[j] = ys[j]
theorem Tops.start (xs ys : List Nat) : Tops xs ys xs.length := fun j h1 _ h => absurd h (by omega)
theorem Tops.step {xs ys : List Nat} {k : Nat} (h : Tops xs ys (k + 1)) (hk : k < xs.length) (hk2 : k < ys.length) (e : xs[k] = ys[k]) : Tops xs ys k := fun j h1 h2 h3 => by
  rcases Nat.lt_or_ge k j with h4 | h4
  · exact h j h1 h2 h4
  · have : j = k := by omega
    subst this
    exact e
theorem Tops.lt {m n k : Nat} (h : Tops (lim m) (lim n) (k + 1)) (hl : (lim m).length = (lim n).length) (h1 : k < (lim m).length) (h2 : k < (lim n).length) (hlt : (lim m)[k] < (lim n)[k]) : m < n := by
  have := nv_lt_at (lim_u32 m) hl k h1 hlt (fun j hj hkj => h j hj (by omega) hkj)
  rwa [nv_lim, nv_lim] at this
theorem Tops.symm {xs ys : List Nat} {k : Nat} (h : Tops xs ys k) : Tops ys xs k := fun j h1 h2 h3 => (h j h2 h1 h3).symm
theorem Tops.eq {m n : Nat} (h : Tops (lim m) (lim n) 0) (hl : (lim m).length = (lim n).length) : m = n := by
  have : lim m = lim n := List.ext_getElem hl fun j h1 h2 => h j h1 h2 (by omega)
  rw [← nv_lim m, ← nv_lim n, this]

theorem cmp_any (w : World) (A D : Option Addr) (c d n m : Nat) (xs ys : List Nat) (z : Int) (h : Nt w A c xs) (k : Nt w D d ys) (hn : n = xs.length) (hm : m = ys.length) (hz : cmp3 (nv xs) (nv ys) = z) :
    Calls Try.prog 93 #[.slice A n c, .slice D m d] w fun e w' => e = .returned (.int .i64 z) ∧ Qt w w' := by
  have HZ := Lib.hid hz; clear hz
  subst hn hm
  have hx := h.lim
  have hy := k.lim
  have hxl := hx.len
  have hyl := hy.len
  have hx1 := lim_length_le_length h.u
  have hy1 := lim_length_le_length k.u
  have hc := h.cap
  have hd := k.cap
  have hc2 := h.max
  have hd2 := k.max
  go_enter Try.func93, Try.ntmps93
  go_wp2_with fail
  refine (length_any w A c _ xs h rfl).mono ?_
  rintro e w' ⟨rfl, rfl⟩
  go_wp2_with fail
  refine (length_any w D d _ ys k rfl).mono ?_
  rintro e w' ⟨rfl, rfl⟩
  clear h k
  rcases Nat.lt_trichotomy (lim (nv xs)).length (lim (nv ys)).length with hl | hl | hl
  · go_wp2_with fail
    go_ret
    exact ⟨ret_int (by rw [← HZ.out, cmp3_lt (lt_of_lim_lt hl)]), Qt.refl _⟩
  · have HL := Lib.hid hl
    have hl1 : decide ((lim (nv xs)).length < (lim (nv ys)).length) = false := by simp; omega
    have hl2 : decide ((lim (nv ys)).length < (lim (nv xs)).length) = false := by simp; omega
    clear hl
    go_wp2_with fail
    go_loopw [7] (fun i wr => ∃ k : Nat, k ≤ (lim (nv xs)).length ∧ i = .int .i64 ((k : Int) - 1) ∧ Tops (lim (nv xs)) (lim (nv ys)) k ∧ Qt w wr) (fun i _ => (intOf i + 1).toNat)
    case atStart => exact ⟨(lim (nv xs)).length, Nat.le_refl _, by go_num, Tops.start _ _, Qt.refl _⟩
    case round =>
      obtain ⟨k, hk, rfl, ht, q⟩ := hrel
      have HT := Lib.hid ht; clear ht
      rcases k with _ | k
      · go_wp2_with fail
        go_ret
        exact ⟨ret_int (by rw [← HZ.out, cmp3_eq (HT.out.eq HL.out)]), q⟩
      · have hk2 : k < (lim (nv ys)).length := by have := HL.out; omega
        obtain ⟨ad, rfl, hb, hcx, hlt⟩ := (hx.below (q.below _)).at k (by omega)
        obtain ⟨ad2, rfl, hb2, hcy, hlt2⟩ := (hy.below (q.below _)).at k hk2
        have hk1 : k < (lim (nv xs)).length := by omega
        clear hx hy
        rcases Nat.lt_trichotomy (lim (nv xs))[k] (lim (nv ys))[k] with he | he | he
        · have he1 : ((lim (nv xs))[k] : Int) < (lim (nv ys))[k] := by omega
          go_wp2_with fail
          go_quiet (fail)
          go_wp2_with fail
          go_ret
          exact ⟨ret_int (by rw [← HZ.out, cmp3_lt (HT.out.lt HL.out hk1 hk2 he)]), by first | exact q.drewN _ | exact (q.drewN _).drewN _⟩
        · have HE := Lib.hid he
          have he1 : ¬ ((lim (nv xs))[k] : Int) < (lim (nv ys))[k] := by omega
          have he2 : ¬ ((lim (nv ys))[k] : Int) < (lim (nv xs))[k] := by omega
          clear he
          go_wp2_with fail
          go_quiet (fail)
          go_wp2_with fail
          go_quiet (fail)
          go_wp2_with fail
          go_roundw
          case rel => exact ⟨k, by omega, by go_num, HT.out.step hk1 hk2 HE.out, by first | exact q.drewN _ | exact (q.drewN _).drewN _⟩
          case measure => simp [intOf]
        · have he1 : ¬ ((lim (nv xs))[k] : Int) < (lim (nv ys))[k] := by omega
          have he2 : ((lim (nv ys))[k] : Int) < (lim (nv xs))[k] := by omega
          go_wp2_with fail
          go_quiet (fail)
          go_wp2_with fail
          go_quiet (fail)
          go_wp2_with fail
          go_ret
          exact ⟨ret_int (by rw [← HZ.out, cmp3_gt (HT.out.symm.lt HL.out.symm hk2 hk1 he)]), by first | exact q.drewN _ | exact (q.drewN _).drewN _⟩
  · go_wp2_with fail
    go_ret
    exact ⟨ret_int (by rw [← HZ.out, cmp3_gt (lt_of_lim_lt hl)]), Qt.refl _⟩
end Go.Proofs.Ytnmomigaedfdoaa
namespace Go.Proofs.Ytnmomigaedfdoaa
set_option maxRecDepth 100000
open Go.RowKit

/-- the canonical limbs, or the error of a number that is too large -/
def sizS (n : Nat) : List Nat × Int := if 512 < (lim n).length then ([], 2) else (lim n, 0)
def addS (m n : Nat) : List Nat × Int := if 512 < (lim m).length ∨ 512 < (lim n).length then ([], 2) else sizS (m + n)

/-- what a call hands back: a number and an error; nothing that was there has turned -/
def NatRes (w : World) (R : List Nat) (E : Int) (e : Ending) (w' : World) : Prop :=
  ∃ A c, e = .returned (.tuple #[.slice A R.length c, .int .i64 E]) ∧ Nt w' A c R ∧ Below w.heap.size w w'

theorem sized_any (w : World) (A : Option Addr) (c n : Nat) (xs R : List Nat) (E : Int) (h : Nt w A c xs) (hn : n = xs.length) (hr : sizS (nv xs) = (R, E)) :
    Calls Try.prog 106 #[.slice A n c] w fun e w' => (∃ A c, e = .returned (.tuple #[.slice A R.length c, .int .i64 E]) ∧ Nt w A c R) ∧ w = w' := by
  subst hn
  have HR := Lib.hid hr; clear hr
  have h1 := h.lim
  have h2 := lim_length_le_length h.u
  have h3 := h.cap
  have h4 := h.max
  go_enter Try.func106, Try.ntmps106
  go_wp2_with fail
  refine (length_any w A c _ xs h rfl).mono ?_
  rintro e w' ⟨rfl, rfl⟩
  by_cases hl : 512 < (lim (nv xs)).length
  · go_wp2_with fail
    have e := HR.out
    rw [sizS, if_pos hl] at e
    obtain ⟨rfl, rfl⟩ := Prod.mk.inj e
    go_ret2
    exact ⟨⟨_, _, rfl, Nt.nil _ _ _ (by omega)⟩, rfl⟩
  · go_wp2_with fail
    have e := HR.out
    rw [sizS, if_neg hl] at e
    obtain ⟨rfl, rfl⟩ := Prod.mk.inj e
    go_ret2
    exact ⟨⟨_, _, rfl, ⟨Nat.le_refl _, by omega, h1.u, h1.rd⟩⟩, rfl⟩

theorem u32_info : (Try.prog.info? 82).map (fun i => (i.zero, i.size, i.bytes)) = some (some (.int .u32 0), 1, 4) := by kernel_rfl

theorem lim_two (v : Nat) (_ : v < 18446744073709551616) : nv [v % 4294967296, v / 4294967296] = v := by
  simp only [nv_cons, nv_nil]; omega
theorem u32_two (v : Nat) (hv : v < 18446744073709551616) : U32 [v % 4294967296, v / 4294967296] :=
  U32.cons (by omega) (U32.one (by omega))
theorem cast_mod (v : Nat) : ((v : Int) % 4294967296) = ((v % 4294967296 : Nat) : Int) := by omega
theorem cast_div (v : Nat) : ((v : Int) / 4294967296) = ((v / 4294967296 : Nat) : Int) := by omega

/-- what a call hands back: a number in memory of its own -/
def NatNew (w : World) (R : List Nat) (e : Ending) (w' : World) : Prop :=
  ∃ A c, e = .returned (.slice A R.length c) ∧ Gr lmv 82 w' w.heap.size A c R ∧ Below w.heap.size w w'

theorem make_any (w : World) (v : Nat) (hv : v < 18446744073709551616) :
    Calls Try.prog 74 #[.int .u64 v] w fun e w' => ∃ A c, e = .returned (.slice A (lim v).length c) ∧ Nt w' A c (lim v) ∧ Below w.heap.size w w' := by
  go_enter Try.func74, Try.ntmps74
  go_wp2_with fail
  simp only [cast_mod, cast_div]
  have hg := Gr.lit (mk := lmv) (e := 82) (B := w.heap.size) w [v % 4294967296, v / 4294967296] #[.int .u32 ((v % 4294967296 : Nat) : Int), .int .u32 ((v / 4294967296 : Nat) : Int)] rfl (by simp [maxLen]) (Nat.le_refl _)
  have hb := (Below.refl w.heap.size w).alloc (Nat.le_refl _) (.cells #[.int .u32 ((v % 4294967296 : Nat) : Int), .int .u32 ((v / 4294967296 : Nat) : Int)] 82)
  revert hg hb
  generalize (w.alloc (.cells #[.int .u32 ((v % 4294967296 : Nat) : Int), .int .u32 ((v / 4294967296 : Nat) : Int)] 82)) = w1
  intro hg hb
  have hn := hg.nt (u32_two v hv)
  refine (length_any w1 _ _ _ _ hn rfl).mono ?_
  rintro e w' ⟨rfl, rfl⟩
  have hl := lim_length_le_length hn.u
  have hl2 := hn.lim
  rw [lim_two v hv] at hl hl2 ⊢
  have hl3 : (lim v).length ≤ 2 := hl
  clear hn hg hl
  go_wp2_with fail
  go_ret
  exact ⟨_, _, rfl, hl2, hb⟩

theorem trim_any (w : World) (A : Option Addr) (c n : Nat) (xs : List Nat) (h : Nt w A c xs) (hn : n = xs.length) (hl : (lim (nv xs)).length ≤ 1000000) :
    Calls Try.prog 110 #[.slice A n c] w (NatNew w (lim (nv xs))) := by
  subst hn
  have h1 := h.lim
  have h2 := lim_length_le_length h.u
  have h3 := h.cap
  have h4 := h.max
  obtain ⟨i0, hi, hz0, hz1, hz2⟩ := info_parts u32_info
  go_enter Try.func110, Try.ntmps110
  go_wp2_with fail
  refine (length_any w A c _ xs h rfl).mono ?_
  rintro e w' ⟨rfl, rfl⟩
  go_wp2_with (at_builtin; refine wpList_append_rd w (mk := lmv) (fun _ => rfl) rfl _ _ 24 rfl 82 i0 (.int .u32 0) 4 Try.underlying24 hi hz0 hz1 hz2 rfl (xs := []) (B := w.heap.size) rfl rfl (Gr.nil _ _) A (lim (nv xs)).length c (lim (nv xs)) rfl rfl h1.rd (by simp only [maxLen]; omega) (by omega) (Nat.le_refl _) ?_; intro A' c' w1 hg hgr hb hat)
  go_ret
  exact ⟨A', c', by simp, by simpa using hg, hb⟩

/-- the length, asked for inside a region that draws its order -/
theorem length_q {w : World} {A : Option Addr} {c : Nat} {xs : List Nat} (h : Nt w A c xs) {q : Nat} :
    Calls Try.prog 89 #[.slice A xs.length c] (w.drewN q) fun e w'' => e = .returned (.int .i64 (lim (nv xs)).length) ∧ ∃ m, w'' = w.drewN m :=
  (length_any _ A c _ xs (h.below (below_drewN (Below.refl _ _) _)) rfl).mono fun _ _ ⟨he, hw⟩ => ⟨he, q, hw.symm⟩

theorem addS_big1 {m n : Nat} (h : 512 < (lim m).length) : addS m n = ([], 2) := by simp [addS, h]
theorem addS_big2 {m n : Nat} (h : 512 < (lim n).length) : addS m n = ([], 2) := by simp [addS, h]
theorem addS_ok {m n : Nat} (h : ¬ 512 < (lim m).length) (h2 : ¬ 512 < (lim n).length) : addS m n = sizS (m + n) := by simp [addS, h, h2]

/-- Add after j limbs: the limbs so far and the carry -/
def AddInv (X Y : List Nat) (j C : Nat) (O : List Nat) : Prop := C ≤ 1 ∧ O.length = j ∧ U32 O ∧ nv O + pw j * C = nv (X.take j) + nv (Y.take j)
theorem AddInv.start (X Y : List Nat) : AddInv X Y 0 0 [] := ⟨by omega, rfl, U32.nil, by simp [nv_nil]⟩
theorem nv_take_getD (Y : List Nat) (j : Nat) : nv (Y.take (j + 1)) = nv (Y.take j) + pw j * Y.getD j 0 := by
  rcases Nat.lt_or_ge j Y.length with h | h
  · rw [nv_take_succ Y j h]; simp [h]
  · rw [List.take_of_length_le (by omega), List.take_of_length_le (by omega)]; simp [List.getElem?_eq_none h]
theorem AddInv.step {X Y : List Nat} {j C : Nat} {O : List Nat} (h : AddInv X Y j C O) (hX : U32 X) (hY : U32 Y) (hj : j < X.length) (s : Nat) (hs : s = C + X[j] + Y.getD j 0) :
    AddInv X Y (j + 1) (s / 4294967296) (O ++ [s % 4294967296]) := by
  obtain ⟨h1, h2, h3, h4⟩ := h
  have b1 := hX.at j hj
  have b2 : Y.getD j 0 < 4294967296 := by
    rcases Nat.lt_or_ge j Y.length with h | h
    · have := hY.at j h; simpa [h] using this
    · simp [List.getElem?_eq_none h]
  refine ⟨by omega, by simp [h2], h3.append (U32.one (by omega)), ?_⟩
  rw [nv_append, nv_take_succ X j hj, nv_take_getD, h2, nv_cons, nv_nil, pw_succ]
  have h5 : s = 4294967296 * (s / 4294967296) + s % 4294967296 := (Nat.div_add_mod _ _).symm
  have h6 : pw j * s = pw j * (4294967296 * (s / 4294967296) + s % 4294967296) := by rw [← h5]
  rw [hs] at h6 ⊢
  grind
theorem AddInv.done {X Y : List Nat} {C : Nat} {O : List Nat} (h : AddInv X Y X.length C O) (hl : Y.length ≤ X.length) : U32 (O ++ [C]) ∧ nv (O ++ [C]) = nv X + nv Y ∧ (O ++ [C]).length = X.length + 1 := by
  obtain ⟨h1, h2, h3, h4⟩ := h
  rw [List.take_of_length_le (Nat.le_refl _), List.take_of_length_le hl] at h4
  exact ⟨h3.append (U32.one (by omega)), by rw [nv_append, nv_cons, nv_nil, h2, ← h4]; simp, by simp [h2]⟩
theorem cast_sum3_mod (a b c : Nat) : ((a : Int) + b + c) % 4294967296 = (((a + b + c) % 4294967296 : Nat) : Int) := by omega
theorem cast_sum3_div (a b c : Nat) : ((a : Int) + b + c) / 4294967296 = (((a + b + c) / 4294967296 : Nat) : Int) := by omega
theorem cast_sum2_mod (a b : Nat) : ((a : Int) + b) % 4294967296 = (((a + b) % 4294967296 : Nat) : Int) := by omega
theorem cast_sum2_div (a b : Nat) : ((a : Int) + b) / 4294967296 = (((a + b) / 4294967296 : Nat) : Int) := by omega


set_option maxHeartbeats 400000 in
theorem add_any (w : World) (A D : Option Addr) (c d n m : Nat) (xs ys R : List Nat) (E : Int) (h : Nt w A c xs) (k : Nt w D d ys) (hn : n = xs.length) (hm : m = ys.length) (hr : addS (nv xs) (nv ys) = (R, E)) :
    Calls Try.prog 96 #[.slice A n c, .slice D m d] w (NatRes w R E) := by
  subst hn hm
  have HR := Lib.hid hr; clear hr
  have h1 := h.lim
  have h2 := lim_length_le_length h.u
  have h3 := h.cap
  have h4 := h.max
  have k1 := k.lim
  have k2 := lim_length_le_length k.u
  have k3 := k.cap
  have k4 := k.max
  obtain ⟨i0, hi, hz0, hz1, hz2⟩ := info_parts u32_info
  by_cases hl : 512 < (lim (nv xs)).length
  · go_enter Try.func96, Try.ntmps96
    go_wp2_with fail
    refine (large_any w A c _ xs true h rfl (by simpa using hl)).mono ?_
    rintro e w' ⟨rfl, rfl⟩
    go_wp2_with fail
    go_ret2
    have e := HR.out
    rw [addS_big1 hl] at e
    obtain ⟨rfl, rfl⟩ := Prod.mk.inj e
    exact ⟨_, _, rfl, Nt.nil _ _ _ (by omega), Below.refl _ _⟩
  · by_cases hl2 : 512 < (lim (nv ys)).length
    · go_enter Try.func96, Try.ntmps96
      go_wp2_with fail
      refine (large_any w A c _ xs false h rfl (by simpa using hl)).mono ?_
      rintro e w' ⟨rfl, rfl⟩
      go_wp2_with fail
      refine (large_any w D d _ ys true k rfl (by simpa using hl2)).mono ?_
      rintro e w' ⟨rfl, rfl⟩
      go_wp2_with fail
      go_ret2
      have e := HR.out
      rw [addS_big2 hl2] at e
      obtain ⟨rfl, rfl⟩ := Prod.mk.inj e
      exact ⟨_, _, rfl, Nt.nil _ _ _ (by omega), Below.refl _ _⟩
    · by_cases hsw : (lim (nv xs)).length < (lim (nv ys)).length
      · go_enter Try.func96, Try.ntmps96
        go_wp2_with fail
        refine (large_any w A c _ xs false h rfl (by simpa using hl)).mono ?_
        rintro e w' ⟨rfl, rfl⟩
        go_wp2_with fail
        refine (large_any w D d _ ys false k rfl (by simpa using hl2)).mono ?_
        rintro e w' ⟨rfl, rfl⟩
        go_wp2_with fail
        go_quiet ((first | with_reducible exact length_q h | with_reducible exact length_q k))
        have hsw1 : decide ((lim (nv xs)).length < (lim (nv ys)).length) = true := by simpa using hsw
        have hX := k1.below (below_drewN (Below.refl w.heap.size w) nq)
        have hY := h1.below (below_drewN (Below.refl w.heap.size w) nq)
        have hb0 := below_drewN (Below.refl w.heap.size w) nq
        revert hX hY hb0
        generalize w.drewN nq = w0
        intro hX hY hb0
        have hs0 := hb0.size
        go_wp2_with (refine wpList_make_rd w0 (mk := lmv) 0 rfl _ _ 24 rfl 82 i0 4 Try.underlying24 hi hz0 hz1 hz2 rfl .i64 .i64 _ _ ((lim (nv ys)).length + 1) rfl rfl (by omega) (by omega) (by omega) (by simp only [maxLen]; omega) ?_; intro w1 hg1 hb1 hs1)
        go_loopw [7, 36] (fun cy i wr => ∃ (j C : Nat) (O : List Nat), j ≤ (lim (nv ys)).length ∧ i = .int .i64 j ∧ cy = .int .u64 C ∧ AddInv (lim (nv ys)) (lim (nv xs)) j C O ∧ Gr lmv 82 wr w0.heap.size (some ⟨w0.heap.size, 0, none⟩) ((lim (nv ys)).length + 1) (O ++ List.replicate ((lim (nv ys)).length + 1 - j) 0) ∧ Below w0.heap.size w0 wr) (fun _ i _ => (lim (nv ys)).length - (intOf i).toNat)
        case atStart => exact ⟨0, 0, [], by omega, rfl, rfl, AddInv.start _ _, by simpa using hg1, hb1⟩
        case round =>
          obtain ⟨j, C, O, hj, rfl, rfl, hinv, hgr, hbr⟩ := hrel
          have HI := Lib.hid hinv
          have hC : C ≤ 1 := hinv.1
          have HO := Lib.hid hinv.2.1
          clear hinv hg1 hb1 hs1
          have hsz := hbr.size
          have hfree := hgr.free j
          have hcell : wr.cell? ⟨w0.heap.size, j, none⟩ = some (.int .u32 0) := by
            rw [hgr.cell j (by have := HO.out; simp; omega), List.getElem_append_right (by have := HO.out; omega)]
            simp
          by_cases hlt : j < (lim (nv ys)).length
          · obtain ⟨adX, hadX, hbX, hcX, hvX⟩ := (hX.below hbr).at j hlt
            subst hadX
            by_cases hlt2 : j < (lim (nv xs)).length
            · obtain ⟨adY, hadY, hbY, hcY, hvY⟩ := (hY.below hbr).at j hlt2
              subst hadY
              have HB := Lib.hid hbr
              have HG := Lib.hid hgr
              clear hbr hgr
              go_wp2_with fail
              go_roundw
              case rel => exact ⟨j + 1, _, O ++ [(C + (lim (nv ys))[j] + (lim (nv xs))[j]) % 4294967296], by omega, by go_num, by rw [cast_sum3_div], HI.out.step hX.u hY.u hlt _ (by simp [hlt2]), by rw [cast_sum3_mod]; exact HG.out.push HO.out (by omega) _, HB.out.setCell (Nat.le_refl _) _⟩
              case measure => simp [intOf]; omega
            · have HB := Lib.hid hbr
              have HG := Lib.hid hgr
              clear hbr hgr
              go_wp2_with fail
              go_roundw
              case rel => exact ⟨j + 1, _, O ++ [(C + (lim (nv ys))[j]) % 4294967296], by omega, by go_num, by rw [cast_sum2_div], HI.out.step hX.u hY.u hlt _ (by simp [List.getElem?_eq_none (Nat.le_of_not_lt hlt2)]), by rw [cast_sum2_mod]; exact HG.out.push HO.out (by omega) _, HB.out.setCell (Nat.le_refl _) _⟩
              case measure => simp [intOf]; omega
          · obtain rfl : j = (lim (nv ys)).length := by omega
            have HB := Lib.hid hbr
            have HG := Lib.hid hgr
            clear hbr hgr
            have hfin := HI.out.done (by omega)
            have hgr2 := HG.out.push HO.out (by omega) C
            rw [Nat.sub_self, List.replicate_zero, List.append_nil] at hgr2
            have hnt := hgr2.nt hfin.1
            have hb2 := HB.out.setCell (p := ⟨w0.heap.size, (lim (nv ys)).length, none⟩) (Nat.le_refl _) (.int .u32 (C : Int))
            have HF := Lib.hid hfin
            clear hfin hgr2
            go_wp2_with fail
            refine (sized_any _ _ _ _ (O ++ [C]) R E hnt HF.out.2.2.symm (by rw [HF.out.2.1, nv_lim, nv_lim, ← HR.out, addS_ok hl hl2, Nat.add_comm])).mono ?_
            rintro e w' ⟨⟨A', c', rfl, hnt'⟩, rfl⟩
            clear hnt
            go_wp2_with fail
            go_ret2
            exact ⟨A', c', rfl, hnt', below_on hb0 hb2 hs0⟩
      · go_enter Try.func96, Try.ntmps96
        go_wp2_with fail
        refine (large_any w A c _ xs false h rfl (by simpa using hl)).mono ?_
        rintro e w' ⟨rfl, rfl⟩
        go_wp2_with fail
        refine (large_any w D d _ ys false k rfl (by simpa using hl2)).mono ?_
        rintro e w' ⟨rfl, rfl⟩
        go_wp2_with fail
        go_quiet ((first | with_reducible exact length_q h | with_reducible exact length_q k))
        have hsw1 : decide ((lim (nv xs)).length < (lim (nv ys)).length) = false := by simpa using hsw
        have hX := h1.below (below_drewN (Below.refl w.heap.size w) nq)
        have hY := k1.below (below_drewN (Below.refl w.heap.size w) nq)
        have hb0 := below_drewN (Below.refl w.heap.size w) nq
        revert hX hY hb0
        generalize w.drewN nq = w0
        intro hX hY hb0
        have hs0 := hb0.size
        go_wp2_with (refine wpList_make_rd w0 (mk := lmv) 0 rfl _ _ 24 rfl 82 i0 4 Try.underlying24 hi hz0 hz1 hz2 rfl .i64 .i64 _ _ ((lim (nv xs)).length + 1) rfl rfl (by omega) (by omega) (by omega) (by simp only [maxLen]; omega) ?_; intro w1 hg1 hb1 hs1)
        go_loopw [7, 36] (fun cy i wr => ∃ (j C : Nat) (O : List Nat), j ≤ (lim (nv xs)).length ∧ i = .int .i64 j ∧ cy = .int .u64 C ∧ AddInv (lim (nv xs)) (lim (nv ys)) j C O ∧ Gr lmv 82 wr w0.heap.size (some ⟨w0.heap.size, 0, none⟩) ((lim (nv xs)).length + 1) (O ++ List.replicate ((lim (nv xs)).length + 1 - j) 0) ∧ Below w0.heap.size w0 wr) (fun _ i _ => (lim (nv xs)).length - (intOf i).toNat)
        case atStart => exact ⟨0, 0, [], by omega, rfl, rfl, AddInv.start _ _, by simpa using hg1, hb1⟩
        case round =>
          obtain ⟨j, C, O, hj, rfl, rfl, hinv, hgr, hbr⟩ := hrel
          have HI := Lib.hid hinv
          have hC : C ≤ 1 := hinv.1
          have HO := Lib.hid hinv.2.1
          clear hinv hg1 hb1 hs1
          have hsz := hbr.size
          have hfree := hgr.free j
          have hcell : wr.cell? ⟨w0.heap.size, j, none⟩ = some (.int .u32 0) := by
            rw [hgr.cell j (by have := HO.out; simp; omega), List.getElem_append_right (by have := HO.out; omega)]
            simp
          by_cases hlt : j < (lim (nv xs)).length
          · obtain ⟨adX, hadX, hbX, hcX, hvX⟩ := (hX.below hbr).at j hlt
            subst hadX
            by_cases hlt2 : j < (lim (nv ys)).length
            · obtain ⟨adY, hadY, hbY, hcY, hvY⟩ := (hY.below hbr).at j hlt2
              subst hadY
              have HB := Lib.hid hbr
              have HG := Lib.hid hgr
              clear hbr hgr
              go_wp2_with fail
              go_roundw
              case rel => exact ⟨j + 1, _, O ++ [(C + (lim (nv xs))[j] + (lim (nv ys))[j]) % 4294967296], by omega, by go_num, by rw [cast_sum3_div], HI.out.step hX.u hY.u hlt _ (by simp [hlt2]), by rw [cast_sum3_mod]; exact HG.out.push HO.out (by omega) _, HB.out.setCell (Nat.le_refl _) _⟩
              case measure => simp [intOf]; omega
            · have HB := Lib.hid hbr
              have HG := Lib.hid hgr
              clear hbr hgr
              go_wp2_with fail
              go_roundw
              case rel => exact ⟨j + 1, _, O ++ [(C + (lim (nv xs))[j]) % 4294967296], by omega, by go_num, by rw [cast_sum2_div], HI.out.step hX.u hY.u hlt _ (by simp [List.getElem?_eq_none (Nat.le_of_not_lt hlt2)]), by rw [cast_sum2_mod]; exact HG.out.push HO.out (by omega) _, HB.out.setCell (Nat.le_refl _) _⟩
              case measure => simp [intOf]; omega
          · obtain rfl : j = (lim (nv xs)).length := by omega
            have HB := Lib.hid hbr
            have HG := Lib.hid hgr
            clear hbr hgr
            have hfin := HI.out.done (by omega)
            have hgr2 := HG.out.push HO.out (by omega) C
            rw [Nat.sub_self, List.replicate_zero, List.append_nil] at hgr2
            have hnt := hgr2.nt hfin.1
            have hb2 := HB.out.setCell (p := ⟨w0.heap.size, (lim (nv xs)).length, none⟩) (Nat.le_refl _) (.int .u32 (C : Int))
            have HF := Lib.hid hfin
            clear hfin hgr2
            go_wp2_with fail
            refine (sized_any _ _ _ _ (O ++ [C]) R E hnt HF.out.2.2.symm (by rw [HF.out.2.1, nv_lim, nv_lim, ← HR.out, addS_ok hl hl2])).mono ?_
            rintro e w' ⟨⟨A', c', rfl, hnt'⟩, rfl⟩
            clear hnt
            go_wp2_with fail
            go_ret2
            exact ⟨A', c', rfl, hnt', below_on hb0 hb2 hs0⟩
end Go.Proofs.Ytnmomigaedfdoaa
