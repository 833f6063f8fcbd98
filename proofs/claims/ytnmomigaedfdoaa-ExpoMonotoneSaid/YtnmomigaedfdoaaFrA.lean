/- The walks of package fraction: zero, minus, times, Valid, lowest, Reduce. -/
import Derived.Test.YtnmomigaedfdoaaFrx
import Derived.Test.YtnmomigaedfdoaaShT
import Derived.Deep.CutBlock
import Derived.Deep.DeepCutAuto
namespace Go.Proofs.Ytnmomigaedfdoaa
set_option maxRecDepth 100000
open Go.RowKit

/-- a block of three cells that can be written -/
structure Bk3 (w : World) (G : Nat) (v0 v1 v2 : Value) : Prop where
  c0 : w.cell? ⟨G, 0, none⟩ = some v0
  c1 : w.cell? ⟨G, 1, none⟩ = some v1
  c2 : w.cell? ⟨G, 2, none⟩ = some v2
  f0 : w.frozen? ⟨G, 0, none⟩ = false
  f1 : w.frozen? ⟨G, 1, none⟩ = false
  f2 : w.frozen? ⟨G, 2, none⟩ = false
  lt : G < w.heap.size
  blk : ∃ t fr, w.heap[G]? = some (.cells #[v0, v1, v2] t fr)
theorem Bk3.below {w w' : World} {G : Nat} {v0 v1 v2 : Value} (h : Bk3 w G v0 v1 v2) (hb : Below w.heap.size w w') : Bk3 w' G v0 v1 v2 :=
  ⟨(hb.cell (p := ⟨G, 0, none⟩) h.lt).trans h.c0, (hb.cell (p := ⟨G, 1, none⟩) h.lt).trans h.c1, (hb.cell (p := ⟨G, 2, none⟩) h.lt).trans h.c2,
   (hb.frozen (p := ⟨G, 0, none⟩) h.lt).trans h.f0, (hb.frozen (p := ⟨G, 1, none⟩) h.lt).trans h.f1, (hb.frozen (p := ⟨G, 2, none⟩) h.lt).trans h.f2, Nat.lt_of_lt_of_le h.lt hb.size,
   by obtain ⟨t, fr, e⟩ := h.blk; exact ⟨t, fr, (hb.block G h.lt).trans e⟩⟩
def isInt : Value → Bool | .int _ _ => true | _ => false
/-- limbs do not lie in such a block -/
theorem Nt.sep3 {w : World} {A : Option Addr} {c G : Nat} {xs : List Nat} {v0 v1 v2 : Value} (h : Nt w A c xs) (bk : Bk3 w G v0 v1 v2) (e0 : isInt v0 = false) (e1 : isInt v1 = false) (e2 : isInt v2 = false) (hx : 0 < xs.length) : ∀ ad, A = some ad → ad.block ≠ G := fun ad e hG => by
  obtain ⟨ad', e', _, hc, _⟩ := h.at 0 hx
  rw [e] at e'
  injection e' with e'
  subst e'
  obtain ⟨t, fr, hblk⟩ := bk.blk
  have hb0 : (ad.add 0).block = G := by rw [block_of_add]; exact hG
  unfold World.cell? at hc
  rw [hb0, hblk] at hc
  simp only at hc
  split at hc
  · cases hc
  · have : ∀ v ∈ [v0, v1, v2], isInt v = false := by intro v hv; simp at hv; rcases hv with rfl | rfl | rfl <;> assumption
    have hm := Array.mem_of_getElem? hc
    have := this (.int .u32 (xs[0] : Int)) (by simpa using hm)
    simp [isInt] at this
theorem Nt.nil_any {w : World} {A : Option Addr} {c : Nat} {xs : List Nat} (h : Nt w A c xs) (hx : xs.length = 0) (w' : World) : Nt w' A c xs := by
  obtain rfl := List.eq_nil_of_length_eq_zero hx
  exact ⟨h.cap, h.max, h.u, Rd.nil⟩
theorem fzero_any (w : World) (x : Fx) (b : Bool) (hx : Nt w x.A x.c x.xs) (hl : x.xs.length ≤ 10000) (hb : decide (nv x.xs = 0) = b) : Calls Try.prog 100 #[x.val] w fun e w' => e = .returned (.bool b) ∧ Below w.heap.size w w' := by
  have hbb : ((bits2 (nv x.xs) : Int) == 0) = b := by
    rw [← hb, Bool.eq_iff_iff, beq_iff_eq, decide_eq_true_eq]
    have : bits2 (nv x.xs) = 0 ↔ nv x.xs = 0 := by unfold bits2; split <;> omega
    omega
  have HB := Lib.hid hbb
  clear hb hbb
  go_enter Try.func100, Try.ntmps100
  go_wp2_with fail
  have bb := (Below.refl w.heap.size w).alloc (Nat.le_refl _) (.cells x.cells 26)
  refine (bits_any _ x.A x.c _ x.xs (hx.below bb) rfl (by omega)).mono ?_
  rintro e wn ⟨rfl, rfl⟩
  go_wp2_with fail
  go_ret
  exact ⟨ret_bool HB.out, bb⟩

theorem ftimes_any (w : World) (A D : Option Addr) (c d n m : Nat) (xs ys R : List Nat) (E : Int) (h : Nt w A c xs) (k : Nt w D d ys) (hn : n = xs.length) (hm : m = ys.length) (hr : mulS (nv xs) (nv ys) = (R, E)) :
    Calls Try.prog 99 #[.slice A n c, .slice D m d] w fun e w' => ∃ A' c', e = .returned (.slice A' R.length c') ∧ Nt w' A' c' R ∧ Below w.heap.size w w' := by
  have HR := Lib.hid hr; clear hr
  subst hn hm
  go_enter Try.func99, Try.ntmps99
  go_wp2_with fail
  refine (mul_any w A D c d _ _ xs ys R E h k rfl rfl HR.out).mono ?_
  rintro e wn ⟨A', c', rfl, n', bb⟩
  go_wp2_with fail
  go_ret
  exact ⟨A', c', rfl, n', bb⟩
theorem len_mulf {m n j k : Nat} (hm : (lim m).length ≤ j) (hn : (lim n).length ≤ k) : (lim (m * n)).length ≤ j + k := by
  rw [lim_length_le] at *
  rw [pw_add]
  exact Nat.mul_lt_mul'' hm hn
theorem len_addf {m n k : Nat} (hm : (lim m).length ≤ k) (hn : (lim n).length ≤ k) : (lim (m + n)).length ≤ k + 1 := by
  rw [lim_length_le] at *
  rw [pw_succ]; omega
theorem mulS_f {m n : Nat} (hm : (lim m).length ≤ 128) (hn : (lim n).length ≤ 128) : mulS m n = (lim (m * n), 0) := by
  have := len_mulf hm hn
  rw [mulS_ok (by omega) (by omega), sizS, if_neg (by omega)]
theorem ftimes_ok (w : World) (A D : Option Addr) (c d n m : Nat) (xs ys : List Nat) (h : Nt w A c xs) (k : Nt w D d ys) (hn : n = xs.length) (hm : m = ys.length) (h1 : (lim (nv xs)).length ≤ 128) (h2 : (lim (nv ys)).length ≤ 128) :
    Calls Try.prog 99 #[.slice A n c, .slice D m d] w fun e w' => ∃ A' c', e = .returned (.slice A' (lim (nv xs * nv ys)).length c') ∧ Nt w' A' c' (lim (nv xs * nv ys)) ∧ Below w.heap.size w w' :=
  ftimes_any w A D c d n m xs ys _ 0 h k hn hm (mulS_f h1 h2)

theorem fvalid_any (w : World) (x : Fx) (b : Bool) (hx : x.ok w) (hl : x.xs.length ≤ 10000) (hl2 : x.ys.length ≤ 10000) (hb : decide x.v = b) : Calls Try.prog 97 #[x.val] w fun e w' => e = .returned (.bool b) ∧ Below w.heap.size w w' := by
  have bb := (Below.refl w.heap.size w).alloc (Nat.le_refl _) (.cells x.cells 26)
  have nx := hx.num.below bb
  have ny := hx.den.below bb
  have e0 : 0 < bits2 (nv x.ys) ↔ nv x.ys ≠ 0 := by unfold bits2; split <;> omega
  have e1 := bits2_lim (nv x.ys) 128
  have e2 := bits2_lim (nv x.xs) 128
  have hv : x.v ↔ (0 < bits2 (nv x.ys) ∧ bits2 (nv x.ys) ≤ 4096 ∧ bits2 (nv x.xs) ≤ 4096) := ⟨fun ⟨a, b, c⟩ => ⟨e0.2 a, e1.2 b, e2.2 c⟩, fun ⟨a, b, c⟩ => ⟨e0.1 a, e1.1 b, e2.1 c⟩⟩
  have HB : Hid (decide (0 < bits2 (nv x.ys) ∧ bits2 (nv x.ys) ≤ 4096 ∧ bits2 (nv x.xs) ≤ 4096) = b) := Lib.hid (by rw [← hb]; exact decide_eq_decide.2 hv.symm)
  have hb1 : (bits2 (nv x.ys) : Int) ≤ 400000 := by
    have h1 := lim_length_le_length hx.den.u
    have h2 := (bits2_lim (nv x.ys) 10000).2 (by omega)
    omega
  have hb2 : (bits2 (nv x.xs) : Int) ≤ 400000 := by
    have h1 := lim_length_le_length hx.num.u
    have h2 := (bits2_lim (nv x.xs) 10000).2 (by omega)
    omega
  clear e0 e1 e2 hb hx hv
  obtain ⟨by_, hby⟩ : ∃ t, t = bits2 (nv x.ys) := ⟨_, rfl⟩
  obtain ⟨bx, hbx⟩ : ∃ t, t = bits2 (nv x.xs) := ⟨_, rfl⟩
  have C1 := fun w' (h' : Nt w' x.D x.d x.ys) => bits_any w' x.D x.d _ x.ys h' rfl (by omega)
  have C2 := fun w' (h' : Nt w' x.A x.c x.xs) => bits_any w' x.A x.c _ x.xs h' rfl (by omega)
  rw [← hby] at HB hb1 C1
  rw [← hbx] at HB hb2 C2
  have H1 := Lib.hid C1
  have H2 := Lib.hid C2
  clear hby hbx C1 C2
  by_cases h0 : 0 < by_
  · by_cases h4 : by_ ≤ 4096
    · by_cases h5 : bx ≤ 4096
      · go_enter Try.func97, Try.ntmps97
        go_wp2_with fail
        refine (H1.out _ ny).mono ?_
        rintro e wn ⟨rfl, rfl⟩
        go_wp2_with fail
        refine (H2.out _ nx).mono ?_
        rintro e wn ⟨rfl, rfl⟩
        go_wp2_with fail
        go_ret
        exact ⟨ret_bool (by rw [← HB.out]; simp [h0, h4, h5]; omega), bb⟩
      · have h5' : decide ((bx : Int) ≤ 4096) = false := decide_eq_false (by omega)
        have h5'' : decide (bx ≤ 4096) = false := decide_eq_false h5
        go_enter Try.func97, Try.ntmps97
        go_wp2_with fail
        refine (H1.out _ ny).mono ?_
        rintro e wn ⟨rfl, rfl⟩
        go_wp2_with fail
        refine (H2.out _ nx).mono ?_
        rintro e wn ⟨rfl, rfl⟩
        go_wp2_with fail
        go_ret
        exact ⟨ret_bool (by rw [← HB.out]; simp [h0, h4, h5]), bb⟩
    · have h4' : decide ((by_ : Int) ≤ 4096) = false := decide_eq_false (by omega)
      have h4'' : decide (by_ ≤ 4096) = false := decide_eq_false h4
      go_enter Try.func97, Try.ntmps97
      go_wp2_with fail
      refine (H1.out _ ny).mono ?_
      rintro e wn ⟨rfl, rfl⟩
      go_wp2_with fail
      go_ret
      exact ⟨ret_bool (by rw [← HB.out]; simp [h0, h4]), bb⟩
  · have h0' : decide (0 < (by_ : Int)) = false := decide_eq_false (by omega)
    have h0'' : decide (0 < by_) = false := decide_eq_false h0
    go_enter Try.func97, Try.ntmps97
    go_wp2_with fail
    refine (H1.out _ ny).mono ?_
    rintro e wn ⟨rfl, rfl⟩
    go_wp2_with fail
    go_ret
    exact ⟨ret_bool (by rw [← HB.out]; simp [h0'']), bb⟩
/-- the block of a fraction that is to be handed back -/
theorem bk3_new (w : World) : Bk3 (w.alloc (.cells #[.bool false, .slice none 0 0, .slice none 0 0] 26)) w.heap.size (.bool false) (.slice none 0 0) (.slice none 0 0) :=
  ⟨by go_simp, by go_simp, by go_simp, by go_simp, by go_simp, by go_simp, by simp, _, (0, 0), heap_alloc_new w _⟩
theorem bits2_gt_one (n : Nat) : 1 < bits2 n ↔ 1 < n := by
  have := bits2_le n 1
  rw [show (2 : Nat) ^ 1 = 2 from rfl] at this
  omega
theorem bits2_pos (n : Nat) : 0 < bits2 n ↔ n ≠ 0 := by unfold bits2; split <;> omega
theorem set3 {w wc : World} {a b c : Value} (h : Below w.heap.size w wc) : Below w.heap.size w (((wc.setCell ⟨w.heap.size, 0, none⟩ a).setCell ⟨w.heap.size, 1, none⟩ b).setCell ⟨w.heap.size, 2, none⟩ c) :=
  ((h.setCell (p := ⟨w.heap.size, 0, none⟩) (Nat.le_refl _) _).setCell (p := ⟨w.heap.size, 1, none⟩) (Nat.le_refl _) _).setCell (p := ⟨w.heap.size, 2, none⟩) (Nat.le_refl _) _
theorem nt_set3 {w : World} {A : Option Addr} {c G : Nat} {xs : List Nat} {v0 v1 v2 : Value} (h : Nt w A c xs) (hne : ∀ ad, A = some ad → ad.block ≠ G) : Nt (((w.setCell ⟨G, 0, none⟩ v0).setCell ⟨G, 1, none⟩ v1).setCell ⟨G, 2, none⟩ v2) A c xs :=
  nt_far (nt_far (nt_far h (fun a e => hne a e) _) (fun a e => hne a e) _) (fun a e => hne a e) _
set_option maxHeartbeats 800000 in
theorem flowest_any (w : World) (b : Bool) (A D : Option Addr) (c d n m : Nat) (xs ys : List Nat) (h : Nt w A c xs) (k : Nt w D d ys) (hn : n = xs.length) (hm : m = ys.length) (hd : nv ys ≠ 0) (l1 : xs.length ≤ 10000) (l2 : ys.length ≤ 10000) (l3 : (lim (nv xs)).length ≤ 512) (l4 : (lim (nv ys)).length ≤ 512) :
    Calls Try.prog 98 #[.bool b, .slice A n c, .slice D m d] w (FracRes w (frS (qv b (nv xs) (nv ys)))) := by
  subst hn hm
  obtain ⟨G, hG⟩ : ∃ G, G = Nat.gcd (nv xs) (nv ys) := ⟨_, rfl⟩
  have hG0 : 0 < G := by rw [hG]; exact Nat.gcd_pos_of_pos_right _ (Nat.pos_of_ne_zero hd)
  have hGl : (lim G).length ≤ 512 := by
    have := lim_length_mono (Nat.gcd_le_right (nv xs) (Nat.pos_of_ne_zero hd))
    rw [← hG] at this; omega
  obtain ⟨N, hN⟩ : ∃ N, N = nv xs / G := ⟨_, rfl⟩
  obtain ⟨M, hM⟩ : ∃ M, M = nv ys / G := ⟨_, rfl⟩
  have hqa := qv_abs (b := b) (n := nv xs) (d := nv ys) hd
  have hqd := qv_den (b := b) (n := nv xs) (d := nv ys) hd
  have hqn := qv_neg' (b := b) (n := nv xs) (d := nv ys) hd
  rw [← hG, ← hN] at hqa hqn
  rw [← hG, ← hM] at hqd
  have hF : frS (qv b (nv xs) (nv ys)) = if 128 < (lim N).length ∨ 128 < (lim M).length then (false, [], [], 2) else (b && decide (N ≠ 0), lim N, lim M, 0) := by
    unfold frS bigQ
    simp only [hqa, hqd, hqn]
  obtain ⟨S, hS⟩ : ∃ S, S = frS (qv b (nv xs) (nv ys)) := ⟨_, rfl⟩
  rw [← hS]
  rw [hF] at hS
  have HS := Lib.hid hS
  have HG := Lib.hid hG
  have HN := Lib.hid hN
  have HM := Lib.hid hM
  have HG0 := Lib.hid hG0
  have lN : (lim N).length ≤ 512 := by have := lim_length_mono (Nat.div_le_self (nv xs) G); rw [← hN] at this; omega
  have lM : (lim M).length ≤ 512 := by have := lim_length_mono (Nat.div_le_self (nv ys) G); rw [← hM] at this; omega
  have hd' : Hid (nv ys ≠ 0) := hd
  clear hqa hqd hqn hF hG hN hM hG0 hd hS
  go_enter Try.func98, Try.ntmps98
  go_wp2_with fail
  have bk := bk3_new w
  have bw := (Below.refl w.heap.size w).alloc (Nat.le_refl _) (.cells #[.bool false, .slice none 0 0, .slice none 0 0] 26)
  have na := h.below bw
  have nd := k.below bw
  revert bk bw na nd
  generalize (w.alloc (.cells #[.bool false, .slice none 0 0, .slice none 0 0] 26)) = w1
  intro bk bw na nd
  clear h k
  refine (gcd_any w1 A D c d _ _ xs ys (lim G) 0 na nd rfl rfl (by rw [gcdS_ok (by omega) (by omega), HG.out])).mono ?_
  rintro e w2 ⟨AG, cG, rfl, ng, bb⟩
  replace bk := bk.below bb
  try replace na := na.below bb
  try replace nd := nd.below bb
  replace bw := below_on bw bb bw.size
  clear bb
  go_wp2_with fail
  refine (bits_any w2 AG cG _ (lim G) ng rfl (by omega)).mono ?_
  rintro e wn ⟨rfl, rfl⟩
  rw [nv_lim]
  obtain ⟨tg, htg⟩ : ∃ tg, tg = bits2 G := ⟨_, rfl⟩
  rw [← htg]
  have htg1 : 1 < tg ↔ 1 < G := by rw [htg]; exact bits2_gt_one G
  clear htg
  go_upto_if 18 with fail
  go_cut [1, 2] (fun s1 s2 wx => ∃ (A1 D1 : Option Addr) (c1 d1 : Nat) (xs1 ys1 : List Nat), s1 = .slice A1 xs1.length c1 ∧ s2 = .slice D1 ys1.length d1 ∧ xs1.length ≤ 10000 ∧ ys1.length ≤ 10000 ∧ nv xs1 = N ∧ nv ys1 = M ∧ Nt wx A1 c1 xs1 ∧ Nt wx D1 d1 ys1 ∧ Below w2.heap.size w2 wx)
  case first =>
    by_cases hg : 1 < G
    · have hg1 : (1 : Int) < tg := by have := htg1.2 hg; omega
      have HG1 := Lib.hid hg
      clear hg htg1
      go_wp2_with fail
      refine (div_any w2 A AG c cG _ _ xs (lim G) (lim N) (lim (nv xs % G)) 0 na ng rfl rfl (by rw [nv_lim, divS_ok (by omega) (by omega) (by have := HG1.out; omega), HN.out])).mono ?_
      rintro e w3 ⟨A1, c1, A2, c2, rfl, n1, n2, b3⟩
      have ng3 := ng.below b3
      have nd3 := nd.below b3
      clear n2
      go_wp2_with fail
      refine (div_any w3 D AG d cG _ _ ys (lim G) (lim M) (lim (nv ys % G)) 0 nd3 ng3 rfl rfl (by rw [nv_lim, divS_ok (by omega) (by omega) (by have := HG1.out; omega), HM.out])).mono ?_
      rintro e w4 ⟨D1, d1, A4, c4, rfl, n3, n4, b4⟩
      have n1' := n1.below b4
      clear n4 n1 nd3 ng3
      go_wp2_with fail
      go_meet
      case rel => exact ⟨A1, D1, c1, d1, lim N, lim M, rfl, rfl, by omega, by omega, nv_lim N, nv_lim M, n1', n3, below_on b3 b4 b3.size⟩
    · have hg1 : decide ((1 : Int) < tg) = false := decide_eq_false (by omega)
      have hg2 : decide (1 < tg) = false := decide_eq_false (by omega)
      have hg3 : tg ≤ 1 := by omega
      have HG1 : Hid (G = 1) := Lib.hid (by have := HG0.out; omega)
      clear hg htg1
      go_wp2_with fail
      go_meet
      case rel => exact ⟨A, D, c, d, xs, ys, rfl, rfl, l1, l2, by rw [HN.out, HG1.out, Nat.div_one], by rw [HM.out, HG1.out, Nat.div_one], na, nd, Below.refl _ _⟩
  case rest =>
    obtain ⟨A1, D1, c1, d1, xs1, ys1, rfl, rfl, m1, m2, hv1, hv2, n1, n2, b2⟩ := hcut
    replace bk := bk.below b2
    replace bw := below_on bw b2 bw.size
    have hN1 : (lim (nv xs1)).length ≤ 512 := by rw [hv1]; exact lN
    have hM1 : (lim (nv ys1)).length ≤ 512 := by rw [hv2]; exact lM
    have C1 := fun w' (h' : Nt w' A1 c1 xs1) => bits_any w' A1 c1 _ xs1 h' rfl (by omega)
    have C2 := fun w' (h' : Nt w' D1 d1 ys1) => bits_any w' D1 d1 _ ys1 h' rfl (by omega)
    have T1 := fun w' (h' : Nt w' A1 c1 xs1) => trim_any w' A1 c1 _ xs1 h' rfl (by omega)
    have T2 := fun w' (h' : Nt w' D1 d1 ys1) => trim_any w' D1 d1 _ ys1 h' rfl (by omega)
    rw [hv1] at C1 T1
    rw [hv2] at C2 T2
    obtain ⟨bn, hbn⟩ : ∃ t, t = bits2 N := ⟨_, rfl⟩
    obtain ⟨bm, hbm⟩ : ∃ t, t = bits2 M := ⟨_, rfl⟩
    have q1 := bits2_lim N 128
    have q2 := bits2_lim M 128
    have q3 := bits2_pos N
    rw [← hbn] at C1 q1 q3
    rw [← hbm] at C2 q2
    have HC1 := Lib.hid C1
    have HC2 := Lib.hid C2
    have HT1 := Lib.hid T1
    have HT2 := Lib.hid T2
    have Q1 := Lib.hid q1
    have Q2 := Lib.hid q2
    have Q3 := Lib.hid q3
    have NA := Lib.hid na
    clear hv1 hv2 hbn hbm C1 C2 T1 T2 q1 q2 q3 na nd ng hN1 hM1 b2
    obtain ⟨k0, k1, k2, f0, f1, f2, klt, kblk⟩ := bk
    by_cases e1 : 4096 < bn
    · have e1' : (4096 : Int) < bn := by omega
      have HE : Hid (128 < (lim N).length ∨ 128 < (lim M).length) := Lib.hid (.inl (by have := Q1.out; omega))
      go_wp2_with fail
      refine (HC1.out _ n1).mono ?_
      rintro e wn ⟨rfl, rfl⟩
      go_wp2_with fail
      refine bodyPost_ret (v := .tuple #[Fx.nil.val, .int .i64 2]) (by simp [results, Try.results98, go_sem, k0, k1, k2]) rfl ?_
      rw [HS.out, if_pos HE.out]
      exact ⟨Fx.nil, rfl, ⟨rfl, rfl, rfl⟩, Fx.nil_ok _, set3 bw⟩
    · have e1' : decide ((4096 : Int) < bn) = false := decide_eq_false (by omega)
      have e1'' : decide (4096 < bn) = false := decide_eq_false e1
      by_cases e2 : 4096 < bm
      · have e2' : (4096 : Int) < bm := by omega
        have HE : Hid (128 < (lim N).length ∨ 128 < (lim M).length) := Lib.hid (.inr (by have := Q2.out; omega))
        go_wp2_with fail
        refine (HC1.out _ n1).mono ?_
        rintro e wn ⟨rfl, rfl⟩
        go_wp2_with fail
        refine (HC2.out _ n2).mono ?_
        rintro e wn ⟨rfl, rfl⟩
        go_wp2_with fail
        refine bodyPost_ret (v := .tuple #[Fx.nil.val, .int .i64 2]) (by simp [results, Try.results98, go_sem, k0, k1, k2]) rfl ?_
        rw [HS.out, if_pos HE.out]
        exact ⟨Fx.nil, rfl, ⟨rfl, rfl, rfl⟩, Fx.nil_ok _, set3 bw⟩
      · have e2' : decide ((4096 : Int) < bm) = false := decide_eq_false (by omega)
        have e2'' : decide (4096 < bm) = false := decide_eq_false e2
        have e1l : bn ≤ 4096 := by omega
        have e2l : bm ≤ 4096 := by omega
        have HE : Hid (¬ (128 < (lim N).length ∨ 128 < (lim M).length)) := Lib.hid (by have := Q1.out; have := Q2.out; omega)
        clear e1 e2
        cases b
        · skip
          go_wp2_with fail
          refine (HC1.out _ n1).mono ?_
          rintro e wn ⟨rfl, rfl⟩
          go_wp2_with fail
          refine (HC2.out _ n2).mono ?_
          rintro e wn ⟨rfl, rfl⟩
          go_wp2_with fail
          have n2' := n2
          refine (HT1.out _ n1).mono ?_
          rintro e w5 ⟨A5, c5, rfl, g5, b5⟩
          have n5 := g5.nt (lim_u32 _)
          have h5 : ∀ ad : Addr, A5 = some ad → ad.block ≠ w.heap.size := fun ad e => by have := (g5.form.2.2 ad e).1; omega
          have n2b := n2'.below b5
          have bk5 : Bk3 w5 w.heap.size _ _ _ := (Bk3.mk k0 k1 k2 f0 f1 f2 klt kblk).below b5
          have bw5 := below_on bw b5 bw.size
          clear g5 b5 k0 k1 k2 f0 f1 f2 n2' n2 n1 bw klt kblk
          go_wp2_with fail
          refine (HT2.out _ n2b).mono ?_
          rintro e w6 ⟨A6, c6, rfl, g6, b6⟩
          have n6 := g6.nt (lim_u32 _)
          have n5b := n5.below b6
          have h6 : ∀ ad : Addr, A6 = some ad → ad.block ≠ w.heap.size := fun ad e => by have := (g6.form.2.2 ad e).1; have := bk5.lt; omega
          obtain ⟨k0, k1, k2, f0, f1, f2, klt, _⟩ := bk5.below b6
          have bw6 := below_on bw5 b6 bw5.size
          have H5 := Lib.hid h5
          have H6 := Lib.hid h6
          clear g6 b6 n5 bk5 bw5 h5 h6
          go_wp2_with fail
          refine bodyPost_ret (v := .tuple #[(⟨false, A5, c5, lim N, A6, c6, lim M⟩ : Fx).val, .int .i64 0]) (by simp [results, Try.results98, go_sem, k0, k1, k2]) rfl ?_
          rw [HS.out, if_neg HE.out]
          exact ⟨⟨false, A5, c5, lim N, A6, c6, lim M⟩, rfl, ⟨rfl, rfl, rfl⟩, ⟨nt_set3 n5b H5.out, nt_set3 n6 H6.out⟩, set3 bw6⟩
        · by_cases h0 : 0 < bn
          · have h0' : (0 : Int) < bn := by omega
            have hb0 : (true && decide (N ≠ 0)) = true := by rw [decide_eq_true (Q3.out.1 h0)]; rfl
            have HB0 := Lib.hid hb0
            clear hb0
            skip
            go_wp2_with fail
            refine (HC1.out _ n1).mono ?_
            rintro e wn ⟨rfl, rfl⟩
            go_wp2_with fail
            refine (HC2.out _ n2).mono ?_
            rintro e wn ⟨rfl, rfl⟩
            go_wp2_with fail
            refine (HC1.out _ n1).mono ?_
            rintro e wn ⟨rfl, rfl⟩
            go_wp2_with fail
            have n2' := n2
            refine (HT1.out _ n1).mono ?_
            rintro e w5 ⟨A5, c5, rfl, g5, b5⟩
            have n5 := g5.nt (lim_u32 _)
            have h5 : ∀ ad : Addr, A5 = some ad → ad.block ≠ w.heap.size := fun ad e => by have := (g5.form.2.2 ad e).1; omega
            have n2b := n2'.below b5
            have bk5 : Bk3 w5 w.heap.size _ _ _ := (Bk3.mk k0 k1 k2 f0 f1 f2 klt kblk).below b5
            have bw5 := below_on bw b5 bw.size
            clear g5 b5 k0 k1 k2 f0 f1 f2 n2' n2 n1 bw klt kblk
            go_wp2_with fail
            refine (HT2.out _ n2b).mono ?_
            rintro e w6 ⟨A6, c6, rfl, g6, b6⟩
            have n6 := g6.nt (lim_u32 _)
            have n5b := n5.below b6
            have h6 : ∀ ad : Addr, A6 = some ad → ad.block ≠ w.heap.size := fun ad e => by have := (g6.form.2.2 ad e).1; have := bk5.lt; omega
            obtain ⟨k0, k1, k2, f0, f1, f2, klt, _⟩ := bk5.below b6
            have bw6 := below_on bw5 b6 bw5.size
            have H5 := Lib.hid h5
            have H6 := Lib.hid h6
            clear g6 b6 n5 bk5 bw5 h5 h6
            go_wp2_with fail
            refine bodyPost_ret (v := .tuple #[(⟨true, A5, c5, lim N, A6, c6, lim M⟩ : Fx).val, .int .i64 0]) (by simp [results, Try.results98, go_sem, k0, k1, k2]) rfl ?_
            rw [HS.out, if_neg HE.out]
            exact ⟨⟨true, A5, c5, lim N, A6, c6, lim M⟩, rfl, ⟨HB0.out.symm, rfl, rfl⟩, ⟨nt_set3 n5b H5.out, nt_set3 n6 H6.out⟩, set3 bw6⟩
          · have h0' : decide ((0 : Int) < bn) = false := decide_eq_false (by omega)
            have h0'' : decide (0 < bn) = false := decide_eq_false h0
            have h0l : bn ≤ 0 := by omega
            have hb0 : (true && decide (N ≠ 0)) = false := by rw [decide_eq_false (fun h => h0 (Q3.out.2 h))]; rfl
            have HB0 := Lib.hid hb0
            clear hb0 h0
            skip
            go_wp2_with fail
            refine (HC1.out _ n1).mono ?_
            rintro e wn ⟨rfl, rfl⟩
            go_wp2_with fail
            refine (HC2.out _ n2).mono ?_
            rintro e wn ⟨rfl, rfl⟩
            go_wp2_with fail
            refine (HC1.out _ n1).mono ?_
            rintro e wn ⟨rfl, rfl⟩
            go_wp2_with fail
            have n2' := n2
            refine (HT1.out _ n1).mono ?_
            rintro e w5 ⟨A5, c5, rfl, g5, b5⟩
            have n5 := g5.nt (lim_u32 _)
            have h5 : ∀ ad : Addr, A5 = some ad → ad.block ≠ w.heap.size := fun ad e => by have := (g5.form.2.2 ad e).1; omega
            have n2b := n2'.below b5
            have bk5 : Bk3 w5 w.heap.size _ _ _ := (Bk3.mk k0 k1 k2 f0 f1 f2 klt kblk).below b5
            have bw5 := below_on bw b5 bw.size
            clear g5 b5 k0 k1 k2 f0 f1 f2 n2' n2 n1 bw klt kblk
            go_wp2_with fail
            refine (HT2.out _ n2b).mono ?_
            rintro e w6 ⟨A6, c6, rfl, g6, b6⟩
            have n6 := g6.nt (lim_u32 _)
            have n5b := n5.below b6
            have h6 : ∀ ad : Addr, A6 = some ad → ad.block ≠ w.heap.size := fun ad e => by have := (g6.form.2.2 ad e).1; have := bk5.lt; omega
            obtain ⟨k0, k1, k2, f0, f1, f2, klt, _⟩ := bk5.below b6
            have bw6 := below_on bw5 b6 bw5.size
            have H5 := Lib.hid h5
            have H6 := Lib.hid h6
            clear g6 b6 n5 bk5 bw5 h5 h6
            go_wp2_with fail
            refine bodyPost_ret (v := .tuple #[(⟨false, A5, c5, lim N, A6, c6, lim M⟩ : Fx).val, .int .i64 0]) (by simp [results, Try.results98, go_sem, k0, k1, k2]) rfl ?_
            rw [HS.out, if_neg HE.out]
            exact ⟨⟨false, A5, c5, lim N, A6, c6, lim M⟩, rfl, ⟨HB0.out.symm, rfl, rfl⟩, ⟨nt_set3 n5b H5.out, nt_set3 n6 H6.out⟩, set3 bw6⟩
end Go.Proofs.Ytnmomigaedfdoaa
