/- The walks of natural.divide for all numbers, natural.Div and natural.Gcd -/
import Derived.Test.YtkpfbekmaafehaaGreatNatJ
import Derived.Test.YtkpfbekmaafehaaGreatNatD
import Derived.Deep.CutBlock
import Derived.Deep.DeepCutAuto
namespace Go.Proofs.YtkpfbekmaafehaaGreat
set_option maxRecDepth 100000
open Go.RowKit
theorem divide_any (w : World) (A D : Option Addr) (c d M N : Nat) (h : Nt w A c (lim M)) (k : Nt w D d (lim N)) (hl : (lim M).length ≤ 1000) (hN : 0 < N) :
 Calls Tryz.prog 120 #[.slice A (lim M).length c, .slice D (lim N).length d] w (DivRes w (M / N) (M % N)) := by
 rcases Nat.lt_or_ge M N with hlt | hge
 ·exact divide_less w A D c d M N h k hl hlt
 ·have h1 : 0 < (lim N).length := lim_length_pos.2 (by omega)
  rcases Nat.lt_or_ge 1 (lim N).length with h2 | h2
  ·obtain ⟨n, hn⟩ : ∃ n, (lim N).length = n + 2 := ⟨(lim N).length - 2, by omega⟩
   have := divide_long w A D c d M N n _ (lim N) h k rfl hl hn (nv_lim N) (fun hk => Nat.pos_of_ne_zero (lim_last N (n + 1) (by omega))) hge
   rw [hn]
   exact this
  ·obtain ⟨x, hx⟩ : ∃ x, lim N = [x] := by
    rcases hL : lim N with _ | ⟨x, _ | ⟨y, l⟩⟩
    ·rw [hL] at h1; simp at h1
    ·exact ⟨x, rfl⟩
    ·rw [hL] at h2; simp at h2
   have hv : x = N := by
    have := nv_lim N
    rw [hx] at this
    simpa [nv_cons, nv_nil] using this
   subst hv
   have := divide_short w A D c d M x h (by rw [← hx]; exact k) hl hN hge
   rw [hx]
   exact this
def divS (m n : Nat) : List Nat × List Nat × Int := if 512 < (lim m).length ∨ 512 < (lim n).length then ([], [], 2) else if n = 0 then ([], [], 3) else (lim (m / n), lim (m % n), 0)
theorem divS_big1 {m n : Nat} (h : 512 < (lim m).length) : divS m n = ([], [], 2) := by simp [divS, h]
theorem divS_big2 {m n : Nat} (h : 512 < (lim n).length) : divS m n = ([], [], 2) := by simp [divS, h]
theorem divS_zero {m n : Nat} (h : ¬ 512 < (lim m).length) (h2 : ¬ 512 < (lim n).length) (h3 : n = 0) : divS m n = ([], [], 3) := by rw [divS, if_neg (by omega), if_pos h3]
theorem divS_ok {m n : Nat} (h : ¬ 512 < (lim m).length) (h2 : ¬ 512 < (lim n).length) (h3 : n ≠ 0) : divS m n = (lim (m / n), lim (m % n), 0) := by simp [divS, h, h2, h3]
def Nat2Res (w : World) (Q R : List Nat) (E : Int) (e : Ending) (w' : World) : Prop :=
 ∃ A c D d, e = .returned (.tuple #[.slice A Q.length c, .slice D R.length d, .int .i64 E]) ∧ Nt w' A c Q ∧ Nt w' D d R ∧ Below w.heap.size w w'
def gcdS (m n : Nat) : List Nat × Int := if 512 < (lim m).length ∨ 512 < (lim n).length then ([], 2) else (lim (Nat.gcd m n), 0)
theorem gcdS_big1 {m n : Nat} (h : 512 < (lim m).length) : gcdS m n = ([], 2) := by simp [gcdS, h]
theorem gcdS_big2 {m n : Nat} (h : 512 < (lim n).length) : gcdS m n = ([], 2) := by simp [gcdS, h]
theorem gcdS_ok {m n : Nat} (h : ¬ 512 < (lim m).length) (h2 : ¬ 512 < (lim n).length) : gcdS m n = (lim (Nat.gcd m n), 0) := by simp [gcdS, h, h2]
set_option maxHeartbeats 400000 in
theorem div_any (w : World) (A D : Option Addr) (c d n m : Nat) (xs ys Q R : List Nat) (E : Int) (h : Nt w A c xs) (k : Nt w D d ys) (hn : n = xs.length) (hm : m = ys.length) (hr : divS (nv xs) (nv ys) = (Q, R, E)) :
 Calls Tryz.prog 107 #[.slice A n c, .slice D m d] w (Nat2Res w Q R E) := by
 subst hn hm
 have HR := Lib.hid hr; clear hr
 have h1 := h.lim
 have h2 := lim_length_le_length h.u
 have h3 := h.cap
 have h4 := h.max
 have k1 := k.lim
 have k2 := lim_length_le_length k.u
 have k3 := k.cap
 have k4 := k.max
 obtain ⟨i0, hi, hz0, hz1, hz2⟩ := info_parts u32_info
 by_cases hl : 512 < (lim (nv xs)).length
 ·go_enter Tryz.func107, Tryz.ntmps107
  go_wp2_with fail
  refine (large_any w A c _ xs true h rfl (by simpa using hl)).mono ?_
  rintro e w' ⟨rfl, rfl⟩
  go_wp2_with fail
  go_ret3
  have e := HR.out
  rw [divS_big1 hl] at e
  simp only [Prod.mk.injEq] at e
  obtain ⟨rfl, rfl, rfl⟩ := e
  exact ⟨_, _, _, _, rfl, Nt.nil _ _ _ (by omega), Nt.nil _ _ _ (by omega), Below.refl _ _⟩
 ·by_cases hl2 : 512 < (lim (nv ys)).length
  ·go_enter Tryz.func107, Tryz.ntmps107
   go_wp2_with fail
   refine (large_any w A c _ xs false h rfl (by simpa using hl)).mono ?_
   rintro e w' ⟨rfl, rfl⟩
   go_wp2_with fail
   refine (large_any w D d _ ys true k rfl (by simpa using hl2)).mono ?_
   rintro e w' ⟨rfl, rfl⟩
   go_wp2_with fail
   go_ret3
   have e := HR.out
   rw [divS_big2 hl2] at e
   simp only [Prod.mk.injEq] at e
   obtain ⟨rfl, rfl, rfl⟩ := e
   exact ⟨_, _, _, _, rfl, Nt.nil _ _ _ (by omega), Nt.nil _ _ _ (by omega), Below.refl _ _⟩
  ·by_cases h0 : nv ys = 0
   ·have hz1 : (((lim (nv ys)).length : Int) == 0) = true := by rw [h0, lim_zero]; rfl
    have H0 := Lib.hid h0
    clear h0
    go_enter Tryz.func107, Tryz.ntmps107
    go_wp2_with fail
    refine (large_any w A c _ xs false h rfl (by simpa using hl)).mono ?_
    rintro e w' ⟨rfl, rfl⟩
    go_wp2_with fail
    refine (large_any w D d _ ys false k rfl (by simpa using hl2)).mono ?_
    rintro e w' ⟨rfl, rfl⟩
    go_wp2_with fail
    refine (length_any w D d _ ys k rfl).mono ?_
    rintro e w' ⟨rfl, rfl⟩
    go_wp2_with fail
    go_ret3
    have e := HR.out
    rw [divS_zero hl hl2 H0.out] at e
    simp only [Prod.mk.injEq] at e
    obtain ⟨rfl, rfl, rfl⟩ := e
    exact ⟨_, _, _, _, rfl, Nt.nil _ _ _ (by omega), Nt.nil _ _ _ (by omega), Below.refl _ _⟩
   ·have hpos := lim_length_pos.2 h0
    have hz1 : (((lim (nv ys)).length : Int) == 0) = false := beq_eq_false_iff_ne.2 (by omega)
    have H0 : Hid (nv ys ≠ 0) := h0
    clear h0
    go_enter Tryz.func107, Tryz.ntmps107
    go_wp2_with fail
    refine (large_any w A c _ xs false h rfl (by simpa using hl)).mono ?_
    rintro e w' ⟨rfl, rfl⟩
    go_wp2_with fail
    refine (large_any w D d _ ys false k rfl (by simpa using hl2)).mono ?_
    rintro e w' ⟨rfl, rfl⟩
    go_wp2_with fail
    refine (length_any w D d _ ys k rfl).mono ?_
    rintro e w' ⟨rfl, rfl⟩
    go_wp2_with fail
    go_region_with (first
     | (go_at_call 105
        with_reducible refine (length_any _ A c _ xs (nt_drew h) rfl).mono ?_
        rintro e w' ⟨rfl, rfl⟩)
     | (go_at_call 105
        with_reducible refine (length_any _ D d _ ys (nt_drew k) rfl).mono ?_
        rintro e w' ⟨rfl, rfl⟩)
     | (go_at_call 120
        with_reducible refine (divide_any _ A D c d _ _ (nt_drew h1) (nt_drew k1) (by omega) (Nat.pos_of_ne_zero H0.out)).mono ?_
        rintro e w1 ⟨A1, c1, D1, d1, rfl, n1, n2, bb⟩))
    all_goals
     go_wp2_with fail
     go_ret3
     have e := HR.out
     rw [divS_ok hl hl2 H0.out] at e
     simp only [Prod.mk.injEq] at e
     obtain ⟨rfl, rfl, rfl⟩ := e
     exact ⟨_, _, _, _, rfl, n1, n2, below_of_drew bb⟩
set_option maxHeartbeats 400000 in
theorem gcd_any (w : World) (A D : Option Addr) (c d n m : Nat) (xs ys R : List Nat) (E : Int) (h : Nt w A c xs) (k : Nt w D d ys) (hn : n = xs.length) (hm : m = ys.length) (hr : gcdS (nv xs) (nv ys) = (R, E)) :
 Calls Tryz.prog 106 #[.slice A n c, .slice D m d] w (NatRes w R E) := by
 subst hn hm
 have HR := Lib.hid hr; clear hr
 have h1 := h.lim
 have h2 := lim_length_le_length h.u
 have h3 := h.cap
 have h4 := h.max
 have k1 := k.lim
 have k2 := lim_length_le_length k.u
 have k3 := k.cap
 have k4 := k.max
 obtain ⟨i0, hi, hz0, hz1, hz2⟩ := info_parts u32_info
 by_cases hl : 512 < (lim (nv xs)).length
 ·go_enter Tryz.func106, Tryz.ntmps106
  go_wp2_with fail
  refine (large_any w A c _ xs true h rfl (by simpa using hl)).mono ?_
  rintro e w' ⟨rfl, rfl⟩
  go_wp2_with fail
  go_ret2
  have e := HR.out
  rw [gcdS_big1 hl] at e
  obtain ⟨rfl, rfl⟩ := Prod.mk.inj e
  exact ⟨_, _, rfl, Nt.nil _ _ _ (by omega), Below.refl _ _⟩
 ·by_cases hl2 : 512 < (lim (nv ys)).length
  ·go_enter Tryz.func106, Tryz.ntmps106
   go_wp2_with fail
   refine (large_any w A c _ xs false h rfl (by simpa using hl)).mono ?_
   rintro e w' ⟨rfl, rfl⟩
   go_wp2_with fail
   refine (large_any w D d _ ys true k rfl (by simpa using hl2)).mono ?_
   rintro e w' ⟨rfl, rfl⟩
   go_wp2_with fail
   go_ret2
   have e := HR.out
   rw [gcdS_big2 hl2] at e
   obtain ⟨rfl, rfl⟩ := Prod.mk.inj e
   exact ⟨_, _, rfl, Nt.nil _ _ _ (by omega), Below.refl _ _⟩
  ·go_enter Tryz.func106, Tryz.ntmps106
   go_wp2_with fail
   refine (large_any w A c _ xs false h rfl (by simpa using hl)).mono ?_
   rintro e w' ⟨rfl, rfl⟩
   go_wp2_with fail
   refine (large_any w D d _ ys false k rfl (by simpa using hl2)).mono ?_
   rintro e w' ⟨rfl, rfl⟩
   go_wp2_with fail
   refine (trim_any w A c _ xs h rfl (by omega)).mono ?_
   rintro e wa ⟨A1, c1, rfl, g1, b1⟩
   have na := g1.nt (lim_u32 _)
   have k5 := k.below b1
   clear g1
   go_wp2_with fail
   refine (trim_any _ D d _ ys k5 rfl (by omega)).mono ?_
   rintro e wb ⟨A2, c2, rfl, g2, b2⟩
   have nb := g2.nt (lim_u32 _)
   have na2 := na.below b2
   have bw := below_on b1 b2 b1.size
   clear g2 na k5 b1 b2
   go_wp2_with fail
   go_loopg [0, 1] (nv ys) (fun kn a b wr => ∃ (M N : Nat) (A B : Option Addr) (c d : Nat), N = kn ∧ a = .slice A (lim M).length c ∧ b = .slice B (lim N).length d ∧ Nt wr A c (lim M) ∧ Nt wr B d (lim N) ∧ (lim M).length ≤ 512 ∧ (lim N).length ≤ 512 ∧ Nat.gcd M N = Nat.gcd (nv xs) (nv ys) ∧ Below w.heap.size w wr)
   case atStart => exact ⟨nv xs, nv ys, A1, A2, c1, c2, rfl, rfl, rfl, na2, nb, by omega, by omega, rfl, bw⟩
   case round =>
    obtain ⟨M, N, AM, AN, cM, cN, rfl, rfl, rfl, nM, nN, lM, lN, hg, bb⟩ := hrel
    have HG := Lib.hid hg
    clear hg na2 nb bw
    by_cases hN : N = 0
    ·have hN1 : (lim N).length = 0 := by rw [hN, lim_zero]; rfl
     have hN2 : decide ((0 : Int) < ((lim N).length : Int)) = false := decide_eq_false (by omega)
     have hN3 : decide (0 < (lim N).length) = false := decide_eq_false (by omega)
     have HN := Lib.hid hN
     clear hN hN1
     go_wp2_with fail
     go_ret2
     have e := HR.out
     rw [gcdS_ok hl hl2, ← HG.out, HN.out, Nat.gcd_zero_right] at e
     obtain ⟨rfl, rfl⟩ := Prod.mk.inj e
     exact ⟨_, _, rfl, nM, bb⟩
    ·have hN1 : 0 < (lim N).length := lim_length_pos.2 hN
     have HN : Hid (0 < N) := Lib.hid (by omega)
     clear hN
     go_wp2_with fail
     refine (divide_any _ AM AN cM cN M N nM nN (by omega) HN.out).mono ?_
     rintro e w1 ⟨A3, c3, D3, d3, rfl, n3, n4, b3⟩
     have nN2 := nN.below b3
     clear nM nN n3
     go_wp2_with fail
     go_roundg (M % N)
     case measure => exact Nat.mod_lt _ HN.out
     case rel =>
      refine ⟨N, M % N, AN, D3, cN, d3, rfl, rfl, rfl, nN2, n4, lN, ?_, ?_, below_on bb b3 bb.size⟩
      ·have := lim_length_mono (Nat.le_of_lt (Nat.mod_lt M HN.out)); omega
      ·rw [← HG.out, Nat.gcd_comm N (M % N), ← Nat.gcd_rec, Nat.gcd_comm]
set_option maxRecDepth 100000
open Go.RowKit
structure Bk3 (w : World) (G : Nat) (v0 v1 v2 : Value) : Prop where
 c0 : w.cell? ⟨G, 0, none⟩ = some v0
 c1 : w.cell? ⟨G, 1, none⟩ = some v1
 c2 : w.cell? ⟨G, 2, none⟩ = some v2
 f0 : w.frozen? ⟨G, 0, none⟩ = false
 f1 : w.frozen? ⟨G, 1, none⟩ = false
 f2 : w.frozen? ⟨G, 2, none⟩ = false
 lt : G < w.heap.size
 blk : ∃ t fr, w.heap[G]? = some (.cells #[v0, v1, v2] t fr)
theorem Bk3.below {w w' : World} {G : Nat} {v0 v1 v2 : Value} (h : Bk3 w G v0 v1 v2) (hb : Below w.heap.size w w') : Bk3 w' G v0 v1 v2 :=
 ⟨(hb.cell (p := ⟨G, 0, none⟩) h.lt).trans h.c0, (hb.cell (p := ⟨G, 1, none⟩) h.lt).trans h.c1, (hb.cell (p := ⟨G, 2, none⟩) h.lt).trans h.c2,
  (hb.frozen (p := ⟨G, 0, none⟩) h.lt).trans h.f0, (hb.frozen (p := ⟨G, 1, none⟩) h.lt).trans h.f1, (hb.frozen (p := ⟨G, 2, none⟩) h.lt).trans h.f2, Nat.lt_of_lt_of_le h.lt hb.size,
  by obtain ⟨t, fr, e⟩ := h.blk; exact ⟨t, fr, (hb.block G h.lt).trans e⟩⟩
def isInt : Value → Bool | .int _ _ => true | _ => false
theorem Nt.sep3 {w : World} {A : Option Addr} {c G : Nat} {xs : List Nat} {v0 v1 v2 : Value} (h : Nt w A c xs) (bk : Bk3 w G v0 v1 v2) (e0 : isInt v0 = false) (e1 : isInt v1 = false) (e2 : isInt v2 = false) (hx : 0 < xs.length) : ∀ ad, A = some ad → ad.block ≠ G := fun ad e hG => by
 obtain ⟨ad', e', _, hc, _⟩ := h.at 0 hx
 rw [e] at e'
 injection e' with e'
 subst e'
 obtain ⟨t, fr, hblk⟩ := bk.blk
 have hb0 : (ad.add 0).block = G := by rw [block_of_add]; exact hG
 unfold World.cell? at hc
 rw [hb0, hblk] at hc
 simp only at hc
 split at hc
 ·cases hc
 ·have : ∀ v ∈ [v0, v1, v2], isInt v = false := by intro v hv; simp at hv; rcases hv with rfl | rfl | rfl <;> assumption
  have hm := Array.mem_of_getElem? hc
  have := this (.int .u32 (xs[0] : Int)) (by simpa using hm)
  simp [isInt] at this
theorem Nt.nil_any {w : World} {A : Option Addr} {c : Nat} {xs : List Nat} (h : Nt w A c xs) (hx : xs.length = 0) (w' : World) : Nt w' A c xs := by
 obtain rfl := List.eq_nil_of_length_eq_zero hx
 exact ⟨h.cap, h.max, h.u, Rd.nil⟩
theorem fminus_any (w : World) (x : Fx) : Calls Tryz.prog 113 #[x.val] w fun e w' => e = .returned ({ x with b := !x.b } : Fx).val ∧ Below w.heap.size w w' := by
 go_enter Tryz.func113, Tryz.ntmps113
 go_wp2_with fail
 exact bodyPost_ret (v := ({ x with b := !x.b } : Fx).val) (by simp [results, Tryz.results113, go_sem]) rfl ⟨rfl, ((Below.refl _ _).alloc (Nat.le_refl _) _).alloc (by simp) _⟩
theorem fzero_any (w : World) (x : Fx) (b : Bool) (hx : Nt w x.A x.c x.xs) (hl : x.xs.length ≤ 10000) (hb : decide (nv x.xs = 0) = b) : Calls Tryz.prog 122 #[x.val] w fun e w' => e = .returned (.bool b) ∧ Below w.heap.size w w' := by
 have hbb : ((bits2 (nv x.xs) : Int) == 0) = b := by
  rw [← hb, Bool.eq_iff_iff, beq_iff_eq, decide_eq_true_eq]
  have : bits2 (nv x.xs) = 0 ↔ nv x.xs = 0 := by unfold bits2; split <;> omega
  omega
 have HB := Lib.hid hbb
 clear hb hbb
 go_enter Tryz.func122, Tryz.ntmps122
 go_wp2_with fail
 have bb := (Below.refl w.heap.size w).alloc (Nat.le_refl _) (.cells x.cells 29)
 refine (bits_any _ x.A x.c _ x.xs (hx.below bb) rfl (by omega)).mono ?_
 rintro e wn ⟨rfl, rfl⟩
 go_wp2_with fail
 go_ret
 exact ⟨ret_bool HB.out, bb⟩
theorem ftimes_any (w : World) (A D : Option Addr) (c d n m : Nat) (xs ys R : List Nat) (E : Int) (h : Nt w A c xs) (k : Nt w D d ys) (hn : n = xs.length) (hm : m = ys.length) (hr : mulS (nv xs) (nv ys) = (R, E)) :
 Calls Tryz.prog 117 #[.slice A n c, .slice D m d] w fun e w' => ∃ A' c', e = .returned (.slice A' R.length c') ∧ Nt w' A' c' R ∧ Below w.heap.size w w' := by
 have HR := Lib.hid hr; clear hr
 subst hn hm
 go_enter Tryz.func117, Tryz.ntmps117
 go_wp2_with fail
 refine (mul_any w A D c d _ _ xs ys R E h k rfl rfl HR.out).mono ?_
 rintro e wn ⟨A', c', rfl, n', bb⟩
 go_wp2_with fail
 go_ret
 exact ⟨A', c', rfl, n', bb⟩
theorem len_mulf {m n j k : Nat} (hm : (lim m).length ≤ j) (hn : (lim n).length ≤ k) : (lim (m * n)).length ≤ j + k := by
 rw [lim_length_le] at *
 rw [pw_add]
 exact Nat.mul_lt_mul'' hm hn
theorem len_addf {m n k : Nat} (hm : (lim m).length ≤ k) (hn : (lim n).length ≤ k) : (lim (m + n)).length ≤ k + 1 := by
 rw [lim_length_le] at *
 rw [pw_succ]; omega
theorem mulS_f {m n : Nat} (hm : (lim m).length ≤ 128) (hn : (lim n).length ≤ 128) : mulS m n = (lim (m * n), 0) := by
 have := len_mulf hm hn
 rw [mulS_ok (by omega) (by omega), sizS, if_neg (by omega)]
theorem ftimes_ok (w : World) (A D : Option Addr) (c d n m : Nat) (xs ys : List Nat) (h : Nt w A c xs) (k : Nt w D d ys) (hn : n = xs.length) (hm : m = ys.length) (h1 : (lim (nv xs)).length ≤ 128) (h2 : (lim (nv ys)).length ≤ 128) :
 Calls Tryz.prog 117 #[.slice A n c, .slice D m d] w fun e w' => ∃ A' c', e = .returned (.slice A' (lim (nv xs * nv ys)).length c') ∧ Nt w' A' c' (lim (nv xs * nv ys)) ∧ Below w.heap.size w w' :=
 ftimes_any w A D c d n m xs ys _ 0 h k hn hm (mulS_f h1 h2)
theorem fvalid_any (w : World) (x : Fx) (b : Bool) (hx : x.ok w) (hl : x.xs.length ≤ 10000) (hl2 : x.ys.length ≤ 10000) (hb : decide x.v = b) : Calls Tryz.prog 90 #[x.val] w fun e w' => e = .returned (.bool b) ∧ Below w.heap.size w w' := by
 have bb := (Below.refl w.heap.size w).alloc (Nat.le_refl _) (.cells x.cells 29)
 have nx := hx.num.below bb
 have ny := hx.den.below bb
 have e0 : 0 < bits2 (nv x.ys) ↔ nv x.ys ≠ 0 := by unfold bits2; split <;> omega
 have e1 := bits2_lim (nv x.ys) 128
 have e2 := bits2_lim (nv x.xs) 128
 have hv : x.v ↔ (0 < bits2 (nv x.ys) ∧ bits2 (nv x.ys) ≤ 4096 ∧ bits2 (nv x.xs) ≤ 4096) := ⟨fun ⟨a, b, c⟩ => ⟨e0.2 a, e1.2 b, e2.2 c⟩, fun ⟨a, b, c⟩ => ⟨e0.1 a, e1.1 b, e2.1 c⟩⟩
 have HB : Hid (decide (0 < bits2 (nv x.ys) ∧ bits2 (nv x.ys) ≤ 4096 ∧ bits2 (nv x.xs) ≤ 4096) = b) := Lib.hid (by rw [← hb]; exact decide_eq_decide.2 hv.symm)
 have hb1 : (bits2 (nv x.ys) : Int) ≤ 400000 := by
  have h1 := lim_length_le_length hx.den.u
  have h2 := (bits2_lim (nv x.ys) 10000).2 (by omega)
  omega
 have hb2 : (bits2 (nv x.xs) : Int) ≤ 400000 := by
  have h1 := lim_length_le_length hx.num.u
  have h2 := (bits2_lim (nv x.xs) 10000).2 (by omega)
  omega
 clear e0 e1 e2 hb hx hv
 obtain ⟨by_, hby⟩ : ∃ t, t = bits2 (nv x.ys) := ⟨_, rfl⟩
 obtain ⟨bx, hbx⟩ : ∃ t, t = bits2 (nv x.xs) := ⟨_, rfl⟩
 have C1 := fun w' (h' : Nt w' x.D x.d x.ys) => bits_any w' x.D x.d _ x.ys h' rfl (by omega)
 have C2 := fun w' (h' : Nt w' x.A x.c x.xs) => bits_any w' x.A x.c _ x.xs h' rfl (by omega)
 rw [← hby] at HB hb1 C1
 rw [← hbx] at HB hb2 C2
 have H1 := Lib.hid C1
 have H2 := Lib.hid C2
 clear hby hbx C1 C2
 by_cases h0 : 0 < by_
 ·by_cases h4 : by_ ≤ 4096
  ·by_cases h5 : bx ≤ 4096
   ·go_enter Tryz.func90, Tryz.ntmps90
    go_wp2_with fail
    refine (H1.out _ ny).mono ?_
    rintro e wn ⟨rfl, rfl⟩
    go_wp2_with fail
    refine (H2.out _ nx).mono ?_
    rintro e wn ⟨rfl, rfl⟩
    go_wp2_with fail
    go_ret
    exact ⟨ret_bool (by rw [← HB.out]; simp [h0, h4, h5]; omega), bb⟩
   ·have h5' : decide ((bx : Int) ≤ 4096) = false := decide_eq_false (by omega)
    have h5'' : decide (bx ≤ 4096) = false := decide_eq_false h5
    go_enter Tryz.func90, Tryz.ntmps90
    go_wp2_with fail
    refine (H1.out _ ny).mono ?_
    rintro e wn ⟨rfl, rfl⟩
    go_wp2_with fail
    refine (H2.out _ nx).mono ?_
    rintro e wn ⟨rfl, rfl⟩
    go_wp2_with fail
    go_ret
    exact ⟨ret_bool (by rw [← HB.out]; simp [h0, h4, h5]), bb⟩
  ·have h4' : decide ((by_ : Int) ≤ 4096) = false := decide_eq_false (by omega)
   have h4'' : decide (by_ ≤ 4096) = false := decide_eq_false h4
   go_enter Tryz.func90, Tryz.ntmps90
   go_wp2_with fail
   refine (H1.out _ ny).mono ?_
   rintro e wn ⟨rfl, rfl⟩
   go_wp2_with fail
   go_ret
   exact ⟨ret_bool (by rw [← HB.out]; simp [h0, h4]), bb⟩
 ·have h0' : decide (0 < (by_ : Int)) = false := decide_eq_false (by omega)
  have h0'' : decide (0 < by_) = false := decide_eq_false h0
  go_enter Tryz.func90, Tryz.ntmps90
  go_wp2_with fail
  refine (H1.out _ ny).mono ?_
  rintro e wn ⟨rfl, rfl⟩
  go_wp2_with fail
  go_ret
  exact ⟨ret_bool (by rw [← HB.out]; simp [h0'']), bb⟩
theorem bk3_new (w : World) : Bk3 (w.alloc (.cells #[.bool false, .slice none 0 0, .slice none 0 0] 29)) w.heap.size (.bool false) (.slice none 0 0) (.slice none 0 0) :=
 ⟨by go_simp, by go_simp, by go_simp, by go_simp, by go_simp, by go_simp, by simp, _, (0, 0), heap_alloc_new w _⟩
theorem bits2_gt_one (n : Nat) : 1 < bits2 n ↔ 1 < n := by
 have := bits2_le n 1
 rw [show (2 : Nat) ^ 1 = 2 from rfl] at this
 omega
theorem bits2_pos (n : Nat) : 0 < bits2 n ↔ n ≠ 0 := by unfold bits2; split <;> omega
theorem set3 {w wc : World} {a b c : Value} (h : Below w.heap.size w wc) : Below w.heap.size w (((wc.setCell ⟨w.heap.size, 0, none⟩ a).setCell ⟨w.heap.size, 1, none⟩ b).setCell ⟨w.heap.size, 2, none⟩ c) :=
 ((h.setCell (p := ⟨w.heap.size, 0, none⟩) (Nat.le_refl _) _).setCell (p := ⟨w.heap.size, 1, none⟩) (Nat.le_refl _) _).setCell (p := ⟨w.heap.size, 2, none⟩) (Nat.le_refl _) _
theorem nt_set3 {w : World} {A : Option Addr} {c G : Nat} {xs : List Nat} {v0 v1 v2 : Value} (h : Nt w A c xs) (hne : ∀ ad, A = some ad → ad.block ≠ G) : Nt (((w.setCell ⟨G, 0, none⟩ v0).setCell ⟨G, 1, none⟩ v1).setCell ⟨G, 2, none⟩ v2) A c xs :=
 nt_far (nt_far (nt_far h (fun a e => hne a e) _) (fun a e => hne a e) _) (fun a e => hne a e) _
set_option maxHeartbeats 800000 in
theorem flowest_any (w : World) (b : Bool) (A D : Option Addr) (c d n m : Nat) (xs ys : List Nat) (h : Nt w A c xs) (k : Nt w D d ys) (hn : n = xs.length) (hm : m = ys.length) (hd : nv ys ≠ 0) (l1 : xs.length ≤ 10000) (l2 : ys.length ≤ 10000) (l3 : (lim (nv xs)).length ≤ 512) (l4 : (lim (nv ys)).length ≤ 512) :
 Calls Tryz.prog 91 #[.bool b, .slice A n c, .slice D m d] w (FracRes w (frS (qv b (nv xs) (nv ys)))) := by
 subst hn hm
 obtain ⟨G, hG⟩ : ∃ G, G = Nat.gcd (nv xs) (nv ys) := ⟨_, rfl⟩
 have hG0 : 0 < G := by rw [hG]; exact Nat.gcd_pos_of_pos_right _ (Nat.pos_of_ne_zero hd)
 have hGl : (lim G).length ≤ 512 := by
  have := lim_length_mono (Nat.gcd_le_right (nv xs) (Nat.pos_of_ne_zero hd))
  rw [← hG] at this; omega
 obtain ⟨N, hN⟩ : ∃ N, N = nv xs / G := ⟨_, rfl⟩
 obtain ⟨M, hM⟩ : ∃ M, M = nv ys / G := ⟨_, rfl⟩
 have hqa := qv_abs (b := b) (n := nv xs) (d := nv ys) hd
 have hqd := qv_den (b := b) (n := nv xs) (d := nv ys) hd
 have hqn := qv_neg' (b := b) (n := nv xs) (d := nv ys) hd
 rw [← hG, ← hN] at hqa hqn
 rw [← hG, ← hM] at hqd
 have hF : frS (qv b (nv xs) (nv ys)) = if 128 < (lim N).length ∨ 128 < (lim M).length then (false, [], [], 2) else (b && decide (N ≠ 0), lim N, lim M, 0) := by
  unfold frS bigQ
  simp only [hqa, hqd, hqn]
 obtain ⟨S, hS⟩ : ∃ S, S = frS (qv b (nv xs) (nv ys)) := ⟨_, rfl⟩
 rw [← hS]
 rw [hF] at hS
 have HS := Lib.hid hS
 have HG := Lib.hid hG
 have HN := Lib.hid hN
 have HM := Lib.hid hM
 have HG0 := Lib.hid hG0
 have lN : (lim N).length ≤ 512 := by have := lim_length_mono (Nat.div_le_self (nv xs) G); rw [← hN] at this; omega
 have lM : (lim M).length ≤ 512 := by have := lim_length_mono (Nat.div_le_self (nv ys) G); rw [← hM] at this; omega
 have hd' : Hid (nv ys ≠ 0) := hd
 clear hqa hqd hqn hF hG hN hM hG0 hd hS
 go_enter Tryz.func91, Tryz.ntmps91
 go_wp2_with fail
 have bk := bk3_new w
 have bw := (Below.refl w.heap.size w).alloc (Nat.le_refl _) (.cells #[.bool false, .slice none 0 0, .slice none 0 0] 29)
 have na := h.below bw
 have nd := k.below bw
 revert bk bw na nd
 generalize (w.alloc (.cells #[.bool false, .slice none 0 0, .slice none 0 0] 29)) = w1
 intro bk bw na nd
 clear h k
 refine (gcd_any w1 A D c d _ _ xs ys (lim G) 0 na nd rfl rfl (by rw [gcdS_ok (by omega) (by omega), HG.out])).mono ?_
 rintro e w2 ⟨AG, cG, rfl, ng, bb⟩
 replace bk := bk.below bb
 try replace na := na.below bb
 try replace nd := nd.below bb
 replace bw := below_on bw bb bw.size
 clear bb
 go_wp2_with fail
 refine (bits_any w2 AG cG _ (lim G) ng rfl (by omega)).mono ?_
 rintro e wn ⟨rfl, rfl⟩
 rw [nv_lim]
 obtain ⟨tg, htg⟩ : ∃ tg, tg = bits2 G := ⟨_, rfl⟩
 rw [← htg]
 have htg1 : 1 < tg ↔ 1 < G := by rw [htg]; exact bits2_gt_one G
 clear htg
 go_upto_if 18 with fail
 go_cut [1, 2] (fun s1 s2 wx => ∃ (A1 D1 : Option Addr) (c1 d1 : Nat) (xs1 ys1 : List Nat), s1 = .slice A1 xs1.length c1 ∧ s2 = .slice D1 ys1.length d1 ∧ xs1.length ≤ 10000 ∧ ys1.length ≤ 10000 ∧ nv xs1 = N ∧ nv ys1 = M ∧ Nt wx A1 c1 xs1 ∧ Nt wx D1 d1 ys1 ∧ Below w2.heap.size w2 wx)
 case first =>
  by_cases hg : 1 < G
  ·have hg1 : (1 : Int) < tg := by have := htg1.2 hg; omega
   have HG1 := Lib.hid hg
   clear hg htg1
   go_wp2_with fail
   refine (div_any w2 A AG c cG _ _ xs (lim G) (lim N) (lim (nv xs % G)) 0 na ng rfl rfl (by rw [nv_lim, divS_ok (by omega) (by omega) (by have := HG1.out; omega), HN.out])).mono ?_
   rintro e w3 ⟨A1, c1, A2, c2, rfl, n1, n2, b3⟩
   have ng3 := ng.below b3
   have nd3 := nd.below b3
   clear n2
   go_wp2_with fail
   refine (div_any w3 D AG d cG _ _ ys (lim G) (lim M) (lim (nv ys % G)) 0 nd3 ng3 rfl rfl (by rw [nv_lim, divS_ok (by omega) (by omega) (by have := HG1.out; omega), HM.out])).mono ?_
   rintro e w4 ⟨D1, d1, A4, c4, rfl, n3, n4, b4⟩
   have n1' := n1.below b4
   clear n4 n1 nd3 ng3
   go_wp2_with fail
   go_meet
   case rel => exact ⟨A1, D1, c1, d1, lim N, lim M, rfl, rfl, by omega, by omega, nv_lim N, nv_lim M, n1', n3, below_on b3 b4 b3.size⟩
  ·have hg1 : decide ((1 : Int) < tg) = false := decide_eq_false (by omega)
   have hg2 : decide (1 < tg) = false := decide_eq_false (by omega)
   have hg3 : tg ≤ 1 := by omega
   have HG1 : Hid (G = 1) := Lib.hid (by have := HG0.out; omega)
   clear hg htg1
   go_wp2_with fail
   go_meet
   case rel => exact ⟨A, D, c, d, xs, ys, rfl, rfl, l1, l2, by rw [HN.out, HG1.out, Nat.div_one], by rw [HM.out, HG1.out, Nat.div_one], na, nd, Below.refl _ _⟩
 case rest =>
  obtain ⟨A1, D1, c1, d1, xs1, ys1, rfl, rfl, m1, m2, hv1, hv2, n1, n2, b2⟩ := hcut
  replace bk := bk.below b2
  replace bw := below_on bw b2 bw.size
  have hN1 : (lim (nv xs1)).length ≤ 512 := by rw [hv1]; exact lN
  have hM1 : (lim (nv ys1)).length ≤ 512 := by rw [hv2]; exact lM
  have C1 := fun w' (h' : Nt w' A1 c1 xs1) => bits_any w' A1 c1 _ xs1 h' rfl (by omega)
  have C2 := fun w' (h' : Nt w' D1 d1 ys1) => bits_any w' D1 d1 _ ys1 h' rfl (by omega)
  have T1 := fun w' (h' : Nt w' A1 c1 xs1) => trim_any w' A1 c1 _ xs1 h' rfl (by omega)
  have T2 := fun w' (h' : Nt w' D1 d1 ys1) => trim_any w' D1 d1 _ ys1 h' rfl (by omega)
  rw [hv1] at C1 T1
  rw [hv2] at C2 T2
  obtain ⟨bn, hbn⟩ : ∃ t, t = bits2 N := ⟨_, rfl⟩
  obtain ⟨bm, hbm⟩ : ∃ t, t = bits2 M := ⟨_, rfl⟩
  have q1 := bits2_lim N 128
  have q2 := bits2_lim M 128
  have q3 := bits2_pos N
  rw [← hbn] at C1 q1 q3
  rw [← hbm] at C2 q2
  have HC1 := Lib.hid C1
  have HC2 := Lib.hid C2
  have HT1 := Lib.hid T1
  have HT2 := Lib.hid T2
  have Q1 := Lib.hid q1
  have Q2 := Lib.hid q2
  have Q3 := Lib.hid q3
  have NA := Lib.hid na
  clear hv1 hv2 hbn hbm C1 C2 T1 T2 q1 q2 q3 na nd ng hN1 hM1 b2
  obtain ⟨k0, k1, k2, f0, f1, f2, klt, kblk⟩ := bk
  by_cases e1 : 4096 < bn
  ·have e1' : (4096 : Int) < bn := by omega
   have HE : Hid (128 < (lim N).length ∨ 128 < (lim M).length) := Lib.hid (.inl (by have := Q1.out; omega))
   go_wp2_with fail
   refine (HC1.out _ n1).mono ?_
   rintro e wn ⟨rfl, rfl⟩
   go_wp2_with fail
   refine bodyPost_ret (v := .tuple #[Fx.nil.val, .int .i64 2]) (by simp [results, Tryz.results91, go_sem, k0, k1, k2]) rfl ?_
   rw [HS.out, if_pos HE.out]
   exact ⟨Fx.nil, rfl, ⟨rfl, rfl, rfl⟩, Fx.nil_ok _, set3 bw⟩
  ·have e1' : decide ((4096 : Int) < bn) = false := decide_eq_false (by omega)
   have e1'' : decide (4096 < bn) = false := decide_eq_false e1
   by_cases e2 : 4096 < bm
   ·have e2' : (4096 : Int) < bm := by omega
    have HE : Hid (128 < (lim N).length ∨ 128 < (lim M).length) := Lib.hid (.inr (by have := Q2.out; omega))
    go_wp2_with fail
    refine (HC1.out _ n1).mono ?_
    rintro e wn ⟨rfl, rfl⟩
    go_wp2_with fail
    refine (HC2.out _ n2).mono ?_
    rintro e wn ⟨rfl, rfl⟩
    go_wp2_with fail
    refine bodyPost_ret (v := .tuple #[Fx.nil.val, .int .i64 2]) (by simp [results, Tryz.results91, go_sem, k0, k1, k2]) rfl ?_
    rw [HS.out, if_pos HE.out]
    exact ⟨Fx.nil, rfl, ⟨rfl, rfl, rfl⟩, Fx.nil_ok _, set3 bw⟩
   ·have e2' : decide ((4096 : Int) < bm) = false := decide_eq_false (by omega)
    have e2'' : decide (4096 < bm) = false := decide_eq_false e2
    have e1l : bn ≤ 4096 := by omega
    have e2l : bm ≤ 4096 := by omega
    have HE : Hid (¬ (128 < (lim N).length ∨ 128 < (lim M).length)) := Lib.hid (by have := Q1.out; have := Q2.out; omega)
    clear e1 e2
    cases b
    ·skip
     go_wp2_with fail
     refine (HC1.out _ n1).mono ?_
     rintro e wn ⟨rfl, rfl⟩
     go_wp2_with fail
     refine (HC2.out _ n2).mono ?_
     rintro e wn ⟨rfl, rfl⟩
     go_wp2_with fail
     have n2' := n2
     refine (HT1.out _ n1).mono ?_
     rintro e w5 ⟨A5, c5, rfl, g5, b5⟩
     have n5 := g5.nt (lim_u32 _)
     have h5 : ∀ ad : Addr, A5 = some ad → ad.block ≠ w.heap.size := fun ad e => by have := (g5.form.2.2 ad e).1; omega
     have n2b := n2'.below b5
     have bk5 : Bk3 w5 w.heap.size _ _ _ := (Bk3.mk k0 k1 k2 f0 f1 f2 klt kblk).below b5
     have bw5 := below_on bw b5 bw.size
     clear g5 b5 k0 k1 k2 f0 f1 f2 n2' n2 n1 bw klt kblk
     go_wp2_with fail
     refine (HT2.out _ n2b).mono ?_
     rintro e w6 ⟨A6, c6, rfl, g6, b6⟩
     have n6 := g6.nt (lim_u32 _)
     have n5b := n5.below b6
     have h6 : ∀ ad : Addr, A6 = some ad → ad.block ≠ w.heap.size := fun ad e => by have := (g6.form.2.2 ad e).1; have := bk5.lt; omega
     obtain ⟨k0, k1, k2, f0, f1, f2, klt, _⟩ := bk5.below b6
     have bw6 := below_on bw5 b6 bw5.size
     have H5 := Lib.hid h5
     have H6 := Lib.hid h6
     clear g6 b6 n5 bk5 bw5 h5 h6
     go_wp2_with fail
     refine bodyPost_ret (v := .tuple #[(⟨false, A5, c5, lim N, A6, c6, lim M⟩ : Fx).val, .int .i64 0]) (by simp [results, Tryz.results91, go_sem, k0, k1, k2]) rfl ?_
     rw [HS.out, if_neg HE.out]
     exact ⟨⟨false, A5, c5, lim N, A6, c6, lim M⟩, rfl, ⟨rfl, rfl, rfl⟩, ⟨nt_set3 n5b H5.out, nt_set3 n6 H6.out⟩, set3 bw6⟩
    ·by_cases h0 : 0 < bn
     ·have h0' : (0 : Int) < bn := by omega
      have hb0 : (true && decide (N ≠ 0)) = true := by rw [decide_eq_true (Q3.out.1 h0)]; rfl
      have HB0 := Lib.hid hb0
      clear hb0
      skip
      go_wp2_with fail
      refine (HC1.out _ n1).mono ?_
      rintro e wn ⟨rfl, rfl⟩
      go_wp2_with fail
      refine (HC2.out _ n2).mono ?_
      rintro e wn ⟨rfl, rfl⟩
      go_wp2_with fail
      refine (HC1.out _ n1).mono ?_
      rintro e wn ⟨rfl, rfl⟩
      go_wp2_with fail
      have n2' := n2
      refine (HT1.out _ n1).mono ?_
      rintro e w5 ⟨A5, c5, rfl, g5, b5⟩
      have n5 := g5.nt (lim_u32 _)
      have h5 : ∀ ad : Addr, A5 = some ad → ad.block ≠ w.heap.size := fun ad e => by have := (g5.form.2.2 ad e).1; omega
      have n2b := n2'.below b5
      have bk5 : Bk3 w5 w.heap.size _ _ _ := (Bk3.mk k0 k1 k2 f0 f1 f2 klt kblk).below b5
      have bw5 := below_on bw b5 bw.size
      clear g5 b5 k0 k1 k2 f0 f1 f2 n2' n2 n1 bw klt kblk
      go_wp2_with fail
      refine (HT2.out _ n2b).mono ?_
      rintro e w6 ⟨A6, c6, rfl, g6, b6⟩
      have n6 := g6.nt (lim_u32 _)
      have n5b := n5.below b6
      have h6 : ∀ ad : Addr, A6 = some ad → ad.block ≠ w.heap.size := fun ad e => by have := (g6.form.2.2 ad e).1; have := bk5.lt; omega
      obtain ⟨k0, k1, k2, f0, f1, f2, klt, _⟩ := bk5.below b6
      have bw6 := below_on bw5 b6 bw5.size
      have H5 := Lib.hid h5
      have H6 := Lib.hid h6
      clear g6 b6 n5 bk5 bw5 h5 h6
      go_wp2_with fail
      refine bodyPost_ret (v := .tuple #[(⟨true, A5, c5, lim N, A6, c6, lim M⟩ : Fx).val, .int .i64 0]) (by simp [results, Tryz.results91, go_sem, k0, k1, k2]) rfl ?_
      rw [HS.out, if_neg HE.out]
      exact ⟨⟨true, A5, c5, lim N, A6, c6, lim M⟩, rfl, ⟨HB0.out.symm, rfl, rfl⟩, ⟨nt_set3 n5b H5.out, nt_set3 n6 H6.out⟩, set3 bw6⟩
     ·have h0' : decide ((0 : Int) < bn) = false := decide_eq_false (by omega)
      have h0'' : decide (0 < bn) = false := decide_eq_false h0
      have h0l : bn ≤ 0 := by omega
      have hb0 : (true && decide (N ≠ 0)) = false := by rw [decide_eq_false (fun h => h0 (Q3.out.2 h))]; rfl
      have HB0 := Lib.hid hb0
      clear hb0 h0
      skip
      go_wp2_with fail
      refine (HC1.out _ n1).mono ?_
      rintro e wn ⟨rfl, rfl⟩
      go_wp2_with fail
      refine (HC2.out _ n2).mono ?_
      rintro e wn ⟨rfl, rfl⟩
      go_wp2_with fail
      refine (HC1.out _ n1).mono ?_
      rintro e wn ⟨rfl, rfl⟩
      go_wp2_with fail
      have n2' := n2
      refine (HT1.out _ n1).mono ?_
      rintro e w5 ⟨A5, c5, rfl, g5, b5⟩
      have n5 := g5.nt (lim_u32 _)
      have h5 : ∀ ad : Addr, A5 = some ad → ad.block ≠ w.heap.size := fun ad e => by have := (g5.form.2.2 ad e).1; omega
      have n2b := n2'.below b5
      have bk5 : Bk3 w5 w.heap.size _ _ _ := (Bk3.mk k0 k1 k2 f0 f1 f2 klt kblk).below b5
      have bw5 := below_on bw b5 bw.size
      clear g5 b5 k0 k1 k2 f0 f1 f2 n2' n2 n1 bw klt kblk
      go_wp2_with fail
      refine (HT2.out _ n2b).mono ?_
      rintro e w6 ⟨A6, c6, rfl, g6, b6⟩
      have n6 := g6.nt (lim_u32 _)
      have n5b := n5.below b6
      have h6 : ∀ ad : Addr, A6 = some ad → ad.block ≠ w.heap.size := fun ad e => by have := (g6.form.2.2 ad e).1; have := bk5.lt; omega
      obtain ⟨k0, k1, k2, f0, f1, f2, klt, _⟩ := bk5.below b6
      have bw6 := below_on bw5 b6 bw5.size
      have H5 := Lib.hid h5
      have H6 := Lib.hid h6
      clear g6 b6 n5 bk5 bw5 h5 h6
      go_wp2_with fail
      refine bodyPost_ret (v := .tuple #[(⟨false, A5, c5, lim N, A6, c6, lim M⟩ : Fx).val, .int .i64 0]) (by simp [results, Tryz.results91, go_sem, k0, k1, k2]) rfl ?_
      rw [HS.out, if_neg HE.out]
      exact ⟨⟨false, A5, c5, lim N, A6, c6, lim M⟩, rfl, ⟨HB0.out.symm, rfl, rfl⟩, ⟨nt_set3 n5b H5.out, nt_set3 n6 H6.out⟩, set3 bw6⟩
end Go.Proofs.YtkpfbekmaafehaaGreat
