/- The walks of package natural: length, large, Cmp. -/
import Derived.Test.YtnmomigaedfdoaaProg
import Derived.Test.YtnmomigaedfdoaaBase
import Derived.BigQuiet
import Derived.Deep.QuietTactic
namespace Go.Proofs.Ytnmomigaedfdoaa
set_option maxRecDepth 100000
open Go.RowKit

theorem tl_yes {xs : List Nat} {k : Nat} (hk : k < xs.length) (h : xs[k] = 0) : tl xs (k + 1) = tl xs k := by
  simp [tl, List.getD_eq_getElem?_getD, hk, h]
theorem tl_no {xs : List Nat} {k : Nat} (hk : k < xs.length) (h : xs[k] ≠ 0) : tl xs (k + 1) = k + 1 := by
  simp [tl, List.getD_eq_getElem?_getD, hk, h]

theorem length_any (w : World) (A : Option Addr) (c n : Nat) (xs : List Nat) (h : Nt w A c xs) (hn : n = xs.length) :
    Calls Try.prog 89 #[.slice A n c] w fun e w' => e = .returned (.int .i64 (lim (nv xs)).length) ∧ w = w' := by
  subst hn
  have h1 := h.cap
  have h2 := h.max
  have HT := Lib.hid (tl_length h.u)
  go_enter Try.func89, Try.ntmps89
  go_wp2
  go_loop [3] (fun i => ∃ k : Nat, k ≤ xs.length ∧ i = .int .i64 k ∧ tl xs k = tl xs xs.length) (fun i => (intOf i).toNat)
  case atStart => exact ⟨xs.length, Nat.le_refl _, rfl, rfl⟩
  case round =>
    obtain ⟨k, hk, rfl, ht⟩ := hrel
    have HT2 := Lib.hid ht; clear ht
    rcases k with _ | k
    · go_wp2
      go_ret
      exact ⟨by rw [← HT.out, ← HT2.out]; rfl, rfl⟩
    · obtain ⟨ad, rfl, hb, hc, hlt⟩ := h.at k (by omega)
      clear h
      by_cases hz : xs[k] = 0
      · have hz' : ((xs[k] : Int) == 0) = true := by simp [hz]
        have HZ := Lib.hid hz; clear hz
        go_wp2
        go_round
        case rel => exact ⟨k, by omega, by go_num, by rw [← HT2.out, tl_yes (by omega) HZ.out]⟩
        case measure => simp [intOf]
      · have hz' : ((xs[k] : Int) == 0) = false := by simp; omega
        go_wp2
        go_ret
        exact ⟨by rw [← HT.out, ← HT2.out, tl_no (by omega) hz]; go_num, rfl⟩

theorem large_any (w : World) (A : Option Addr) (c n : Nat) (xs : List Nat) (b : Bool) (h : Nt w A c xs) (hn : n = xs.length) (hb : decide (512 < (lim (nv xs)).length) = b) :
    Calls Try.prog 108 #[.slice A n c] w fun e w' => e = .returned (.bool b) ∧ w = w' := by
  have HB := Lib.hid hb; clear hb
  subst hn
  go_enter Try.func108, Try.ntmps108
  go_wp2_with fail
  refine (length_any w A c _ xs h rfl).mono ?_
  rintro e w' ⟨rfl, rfl⟩
  go_wp2_with fail
  go_ret
  exact ⟨ret_bool (by rw [← HB.out]; apply decide_eq_decide.2; omega), rfl⟩

theorem cmp3_lt {m n : Nat} (h : m < n) : cmp3 m n = -1 := by simp [cmp3, h]
theorem cmp3_gt {m n : Nat} (h : n < m) : cmp3 m n = 1 := by
  have : ¬ m < n := by omega
  simp [cmp3, h, this]
theorem cmp3_eq {m n : Nat} (h : m = n) : cmp3 m n = 0 := by subst h; simp [cmp3]
theorem lt_of_lim_lt {m n : Nat} (h : (lim m).length < (lim n).length) : m < n := by
  rcases Nat.lt_or_ge m n with h1 | h1
  · exact h1
  · have := lim_length_mono h1; omega

/-- the comparison from above: the limbs from k on are alike -/
def Tops (xs ys : List Nat) (k : Nat) : Prop := ∀ j (h1 : j < xs.length) (h2 : j < ys.length), k ≤ j → xs[j] = ys[j]
theorem Tops.start (xs ys : List Nat) : Tops xs ys xs.length := fun j h1 _ h => absurd h (by omega)
theorem Tops.step {xs ys : List Nat} {k : Nat} (h : Tops xs ys (k + 1)) (hk : k < xs.length) (hk2 : k < ys.length) (e : xs[k] = ys[k]) : Tops xs ys k := fun j h1 h2 h3 => by
  rcases Nat.lt_or_ge k j with h4 | h4
  · exact h j h1 h2 h4
  · have : j = k := by omega
    subst this
    exact e
theorem Tops.lt {m n k : Nat} (h : Tops (lim m) (lim n) (k + 1)) (hl : (lim m).length = (lim n).length) (h1 : k < (lim m).length) (h2 : k < (lim n).length) (hlt : (lim m)[k] < (lim n)[k]) : m < n := by
  have := nv_lt_at (lim_u32 m) hl k h1 hlt (fun j hj hkj => h j hj (by omega) hkj)
  rwa [nv_lim, nv_lim] at this
theorem Tops.symm {xs ys : List Nat} {k : Nat} (h : Tops xs ys k) : Tops ys xs k := fun j h1 h2 h3 => (h j h2 h1 h3).symm
theorem Tops.eq {m n : Nat} (h : Tops (lim m) (lim n) 0) (hl : (lim m).length = (lim n).length) : m = n := by
  have : lim m = lim n := List.ext_getElem hl fun j h1 h2 => h j h1 h2 (by omega)
  rw [← nv_lim m, ← nv_lim n, this]

theorem cmp_any (w : World) (A D : Option Addr) (c d n m : Nat) (xs ys : List Nat) (z : Int) (h : Nt w A c xs) (k : Nt w D d ys) (hn : n = xs.length) (hm : m = ys.length) (hz : cmp3 (nv xs) (nv ys) = z) :
    Calls Try.prog 93 #[.slice A n c, .slice D m d] w fun e w' => e = .returned (.int .i64 z) ∧ Qt w w' := by
  have HZ := Lib.hid hz; clear hz
  subst hn hm
  have hx := h.lim
  have hy := k.lim
  have hxl := hx.len
  have hyl := hy.len
  have hx1 := lim_length_le_length h.u
  have hy1 := lim_length_le_length k.u
  have hc := h.cap
  have hd := k.cap
  have hc2 := h.max
  have hd2 := k.max
  go_enter Try.func93, Try.ntmps93
  go_wp2_with fail
  refine (length_any w A c _ xs h rfl).mono ?_
  rintro e w' ⟨rfl, rfl⟩
  go_wp2_with fail
  refine (length_any w D d _ ys k rfl).mono ?_
  rintro e w' ⟨rfl, rfl⟩
  clear h k
  rcases Nat.lt_trichotomy (lim (nv xs)).length (lim (nv ys)).length with hl | hl | hl
  · go_wp2_with fail
    go_ret
    exact ⟨ret_int (by rw [← HZ.out, cmp3_lt (lt_of_lim_lt hl)]), Qt.refl _⟩
  · have HL := Lib.hid hl
    have hl1 : decide ((lim (nv xs)).length < (lim (nv ys)).length) = false := by simp; omega
    have hl2 : decide ((lim (nv ys)).length < (lim (nv xs)).length) = false := by simp; omega
    clear hl
    go_wp2_with fail
    go_loopw [7] (fun i wr => ∃ k : Nat, k ≤ (lim (nv xs)).length ∧ i = .int .i64 ((k : Int) - 1) ∧ Tops (lim (nv xs)) (lim (nv ys)) k ∧ Qt w wr) (fun i _ => (intOf i + 1).toNat)
    case atStart => exact ⟨(lim (nv xs)).length, Nat.le_refl _, by go_num, Tops.start _ _, Qt.refl _⟩
    case round =>
      obtain ⟨k, hk, rfl, ht, q⟩ := hrel
      have HT := Lib.hid ht; clear ht
      rcases k with _ | k
      · go_wp2_with fail
        go_ret
        exact ⟨ret_int (by rw [← HZ.out, cmp3_eq (HT.out.eq HL.out)]), q⟩
      · have hk2 : k < (lim (nv ys)).length := by have := HL.out; omega
        obtain ⟨ad, rfl, hb, hcx, hlt⟩ := (hx.below (q.below _)).at k (by omega)
        obtain ⟨ad2, rfl, hb2, hcy, hlt2⟩ := (hy.below (q.below _)).at k hk2
        have hk1 : k < (lim (nv xs)).length := by omega
        clear hx hy
        rcases Nat.lt_trichotomy (lim (nv xs))[k] (lim (nv ys))[k] with he | he | he
        · have he1 : ((lim (nv xs))[k] : Int) < (lim (nv ys))[k] := by omega
          go_wp2_with fail
          go_quiet (fail)
          go_wp2_with fail
          go_ret
          exact ⟨ret_int (by rw [← HZ.out, cmp3_lt (HT.out.lt HL.out hk1 hk2 he)]), by first | exact q.drewN _ | exact (q.drewN _).drewN _⟩
        · have HE := Lib.hid he
          have he1 : ¬ ((lim (nv xs))[k] : Int) < (lim (nv ys))[k] := by omega
          have he2 : ¬ ((lim (nv ys))[k] : Int) < (lim (nv xs))[k] := by omega
          clear he
          go_wp2_with fail
          go_quiet (fail)
          go_wp2_with fail
          go_quiet (fail)
          go_wp2_with fail
          go_roundw
          case rel => exact ⟨k, by omega, by go_num, HT.out.step hk1 hk2 HE.out, by first | exact q.drewN _ | exact (q.drewN _).drewN _⟩
          case measure => simp [intOf]
        · have he1 : ¬ ((lim (nv xs))[k] : Int) < (lim (nv ys))[k] := by omega
          have he2 : ((lim (nv ys))[k] : Int) < (lim (nv xs))[k] := by omega
          go_wp2_with fail
          go_quiet (fail)
          go_wp2_with fail
          go_quiet (fail)
          go_wp2_with fail
          go_ret
          exact ⟨ret_int (by rw [← HZ.out, cmp3_gt (HT.out.symm.lt HL.out.symm hk2 hk1 he)]), by first | exact q.drewN _ | exact (q.drewN _).drewN _⟩
  · go_wp2_with fail
    go_ret
    exact ⟨ret_int (by rw [← HZ.out, cmp3_gt (lt_of_lim_lt hl)]), Qt.refl _⟩
end Go.Proofs.Ytnmomigaedfdoaa
