/- The walk of a tableau's improve -/
import Derived.Test.YtkpfbekmaafehaaGreatSqD
import Derived.Test.YtkpfbekmaafehaaGreatSqB
import Derived.Test.YtkpfbekmaafehaaGreatSqL
namespace Go.Proofs.YtkpfbekmaafehaaGreat
set_option maxRecDepth 100000
open Go.RowKit
section
variable {m n most : Nat} {c : Nat → Rat} {T : Nat → Nat → Rat} {B : Nat → Nat}
theorem entP_of {s : Nat} : ∀ f j, j ≤ s → s < j + f → redT m c T B s < 0 → (∀ k, j ≤ k → k < s → 0 ≤ redT m c T B k) → entP m c T B f j = some s := by
 intro f
 induction f with
 | zero => intro j h1 h2; omega
 | succ f ih =>
   intro j h1 h2 h3 h4
   rw [entP]
   by_cases h : j = s
   ·subst h; rw [if_pos h3]
   ·have := h4 j (Nat.le_refl _) (by omega)
    rw [if_neg (by grind)]
    exact ih (j + 1) (by omega) (by omega) h3 (fun k k1 k2 => h4 k (by omega) k2)
theorem entP_all : ∀ f j, (∀ k, j ≤ k → k < j + f → 0 ≤ redT m c T B k) → entP m c T B f j = none := by
 intro f
 induction f with
 | zero => intro j _; rfl
 | succ f ih =>
   intro j h
   rw [entP]
   have := h j (Nat.le_refl _) (by omega)
   rw [if_neg (by grind)]
   exact ih (j + 1) (fun k k1 k2 => h k (by omega) (by omega))
theorem itP_next {x : St} {t s i : Nat} (h : nxtP m n most c (itP m n most c x t) = some (s, i)) : itP m n most c x (t + 1) = ⟨pivT (itP m n most c x t).T i s, pivB (itP m n most c x t).B i s⟩ := by
 show stpP m n most c (itP m n most c x t) = _
 rw [stpP, h]
theorem nxtP_some {x : St} {s i : Nat} (he : entP m c x.T x.B most 0 = some s) (hl : leaP x.T x.B (n + m) s m = some i) : nxtP m n most c x = some (s, i) := by
 rw [nxtP, he]; simp only [hl]
theorem nxtP_none {x : St} (he : entP m c x.T x.B most 0 = none) : nxtP m n most c x = none := by rw [nxtP, he]
theorem nxtP_unb {x : St} {s : Nat} (he : entP m c x.T x.B most 0 = some s) (hl : leaP x.T x.B (n + m) s m = none) : nxtP m n most c x = none := by
 rw [nxtP, he]; simp only [hl]
end
set_option maxHeartbeats 4000000 in
theorem simprove_any (w : World) (B : Nat) (L : Lay) (x : St) (A : Option Addr) (cc : Nat) (vs : List Fx) (c : Nat → Rat) (most K : Nat) (h : Tw w B L x) (hc : Cl w A vs c) (hA : 0 < vs.length → ∀ ad, A = some ad → ¬ L.S ad.block) (hl : vs.length = L.n + L.gs.length) (hmost : most ≤ L.n) (hN : L.N ≤ 1000)
 (hB : ∀ t, t ≤ K → ∀ i, i < L.gs.length → (itP L.gs.length L.n most c x t).B i < L.n + L.gs.length) (hf : ∀ t, t ≤ K → Fit L.gs.length L.n c (itP L.gs.length L.n most c x t)) (hK : nxtP L.gs.length L.n most c (itP L.gs.length L.n most c x K) = none) :
 Calls Tryz.prog 52 #[.pointer (some ⟨L.G, 0, none⟩), .slice A vs.length cc, .int .i64 (most : Int)] w fun e w' => ∃ t, t ≤ K ∧ e = .returned (.int .i64 (leaZ (entP L.gs.length c (itP L.gs.length L.n most c x t).T (itP L.gs.length L.n most c x t).B most 0))) ∧ nxtP L.gs.length L.n most c (itP L.gs.length L.n most c x t) = none ∧ Tw w' B L (itP L.gs.length L.n most c x t) ∧ Kp L.S w w' := by
 have HNL : Hid (L.N = L.n + L.gs.length + 1) := Lib.hid rfl
 have HT := Lib.hid h
 have HC := Lib.hid hc
 have HA := Lib.hid hA
 have HL := Lib.hid hl
 have HMO := Lib.hid hmost
 have HB := Lib.hid hB
 have HF := Lib.hid hf
 have HK := Lib.hid hK
 have hml : most ≤ 1000 := by have := HNL.out; omega
 obtain ⟨m, hm⟩ : ∃ m, L.gs.length = m := ⟨_, rfl⟩
 obtain ⟨X, hX⟩ : ∃ X, itP L.gs.length L.n most c x = X := ⟨_, rfl⟩
 rw [hX] at HB HF HK ⊢
 rw [hm] at HB HF HK HL HNL ⊢
 have HM := Lib.hid hm
 have HX : Hid (itP m L.n most c x = X) := Lib.hid (by rw [← hm]; exact hX)
 have HX0 : Hid (X 0 = x) := Lib.hid (by rw [← HX.out]; rfl)
 clear h hc hA hl hmost hB hf hK hm hX
 go_enter Tryz.func52, Tryz.ntmps52
 go_wp2_with fail
 go_loopg [7] (K * (most + 2) + (most + 1)) (fun kn jv wr => ∃ t j : Nat, kn = (K - t) * (most + 2) + (most + 1 - j) ∧ t ≤ K ∧ j ≤ most ∧ jv = .int .i64 j ∧ (∀ k, k < j → 0 ≤ redT m c (X t).T (X t).B k) ∧ Tw wr B L (X t) ∧ Kp L.S w wr)
 case atStart => exact ⟨0, 0, by simp, by omega, by omega, rfl, (fun k hk => by omega), by rw [HX0.out]; exact HT.out, Kp.refl _ _⟩
 case round =>
  obtain ⟨t, j, hkn, ht, hj, rfl, hlow, tw, kp⟩ := hrel
  have HKN := Lib.hid hkn
  have HLOW := Lib.hid hlow
  have HTW := Lib.hid tw
  have HKP := Lib.hid kp
  clear hkn hlow tw kp
  by_cases hlt : j < most
  ·have hcall := sreduced_any wr B L (X t) A cc vs c j HTW.out (HC.out.kp HKP.out HT.out.q.nl HA.out) (by rw [HM.out]; exact HL.out) (by have := HMO.out; omega) (by rw [HM.out]; exact HB.out t ht) hN (by rw [HM.out]; exact HF.out t ht)
   rw [HM.out] at hcall
   have HCALL := Lib.hid hcall
   clear hcall
   obtain ⟨z, hz⟩ : ∃ z, cmpQ (redT m c (X t).T (X t).B j) 0 = z := ⟨_, rfl⟩
   have HZ := Lib.hid hz
   have HSR : Hid (Sz (redT m c (X t).T (X t).B j) 128 128) := Lib.hid ((((HF.out t ht).cs j (by have := HMO.out; omega)).sub ((HF.out t ht).dt j (by have := HMO.out; omega) _ (Nat.le_refl _))).mono (by omega) (by omega))
   by_cases h0 : 0 ≤ z
   ·have HN0 : Hid (0 ≤ redT m c (X t).T (X t).B j) := Lib.hid (by
     rcases cmpQ_cases (redT m c (X t).T (X t).B j) 0 with ⟨k1, k2⟩ | ⟨k1, k2⟩ | ⟨k1, k2⟩
     ·rw [hz] at k2; omega
     ·grind
     ·grind)
    clear hz
    go_wp2_with fail
    refine HCALL.out.mono ?_
    rintro e w4 ⟨y, rfl, el, bb⟩
    go_wp2_with fail
    refine (ssign_el w4 y _ z el HSR.out HZ.out).mono ?_
    rintro e w5 ⟨rfl, b5⟩
    go_wp2_with fail
    go_roundg ((K - t) * (most + 2) + (most + 1 - (j + 1)))
    case rel => exact ⟨t, j + 1, rfl, ht, by omega, by go_num, (fun k hk => by
     rcases Nat.lt_or_ge k j with k1 | k1
     ·exact HLOW.out k k1
     ·obtain rfl : k = j := by omega
      exact HN0.out), (HTW.out.below bb).below b5, (HKP.out.then bb).then b5⟩
    case measure => have := HKN.out; omega
   ·have HNEG : Hid (redT m c (X t).T (X t).B j < 0) := Lib.hid (by
     rcases cmpQ_cases (redT m c (X t).T (X t).B j) 0 with ⟨k1, k2⟩ | ⟨k1, k2⟩ | ⟨k1, k2⟩
     ·exact k1
     ·rw [hz] at k2; omega
     ·rw [hz] at k2; omega)
    clear hz
    have HENT : Hid (entP m c (X t).T (X t).B most 0 = some j) := Lib.hid (entP_of most 0 (by omega) (by omega) HNEG.out (fun k _ k2 => HLOW.out k k2))
    have hb1 : (decide (0 ≤ z)) = false := decide_eq_false h0
    go_wp2_with fail
    refine HCALL.out.mono ?_
    rintro e w4 ⟨y, rfl, el, bb⟩
    go_wp2_with fail
    refine (ssign_el w4 y _ z el HSR.out HZ.out).mono ?_
    rintro e w5 ⟨rfl, b5⟩
    replace HTW := Lib.hid ((HTW.out.below bb).below b5)
    replace HKP := Lib.hid ((HKP.out.then bb).then b5)
    clear bb b5 el HCALL HZ
    have hcall := sleave_any w5 B L (X t) j HTW.out (by have := HMO.out; omega) hN (fun i hi => by have := HB.out t ht i (by rw [← HM.out]; exact hi); have := HNL.out; omega) (by rw [HM.out]; exact (HF.out t ht).el)
    rw [HM.out] at hcall
    cases hla : leaP (X t).T (X t).B (L.n + m) j m with
    | none =>
      rw [hla] at hcall
      have HCALL := Lib.hid hcall
      have HLA := Lib.hid hla
      clear hcall hla
      go_wp2_with fail
      refine HCALL.out.mono ?_
      rintro e w6 ⟨rfl, b6⟩
      rw [show leaZ none = -1 from rfl]
      go_wp2_with fail
      go_ret
      exact ⟨t, ht, by rw [HENT.out]; rfl, nxtP_unb HENT.out HLA.out, HTW.out.below b6, HKP.out.then b6⟩
    | some i =>
      rw [hla, show leaZ (some i) = (i : Int) from rfl] at hcall
      have HCALL := Lib.hid hcall
      have HNX : Hid (nxtP m L.n most c (X t) = some (j, i)) := Lib.hid (nxtP_some HENT.out hla)
      obtain ⟨l1, l2, _, _⟩ := leaP_some _ _ hla
      have HTK : Hid (t < K) := Lib.hid (by
       rcases Nat.lt_or_ge t K with k1 | k1
       ·exact k1
       ·exfalso
        have e : t = K := by omega
        have := HNX.out
        rw [e, HK.out] at this; cases this)
      have HXN : Hid (X (t + 1) = ⟨pivT (X t).T i j, pivB (X t).B i j⟩) := Lib.hid (by
       have := HNX.out
       rw [← HX.out] at this ⊢
       exact itP_next this)
      have HIM : Hid (i < m) := Lib.hid l1
      have HNZ : Hid ((X t).T i j ≠ 0) := Lib.hid (pos_ne l2)
      have hi0 : ¬ (i : Int) < 0 := by omega
      clear hcall hla l1 l2
      go_wp2_with fail
      refine HCALL.out.mono ?_
      rintro e w6 ⟨rfl, b6⟩
      replace HTW := Lib.hid (HTW.out.below b6)
      replace HKP := Lib.hid (HKP.out.then b6)
      clear b6 HCALL
      go_wp2_with fail
      refine (spivot_any w6 B L (X t) i j HTW.out (by rw [HM.out]; exact HIM.out) (by have := HMO.out; omega) HNZ.out hN (by rw [HM.out]; exact (HF.out t ht).el) (by
       rw [HM.out]
       have := (HF.out (t + 1) HTK.out).el
       rw [HXN.out] at this; exact this)).mono ?_
      rintro e w7 ⟨rfl, t7, k7⟩
      have HT7 : Hid (Tw w7 B L (X (t + 1))) := Lib.hid (by rw [HXN.out]; exact t7)
      have HK7 := Lib.hid (HKP.out.trans k7)
      clear t7 k7
      go_wp2_with fail
      go_roundg ((K - (t + 1)) * (most + 2) + (most + 1))
      case rel => exact ⟨t + 1, 0, rfl, HTK.out, by omega, by go_num, (fun k hk => by omega), HT7.out, HK7.out⟩
      case measure =>
       have := HKN.out
       have e : K - t = (K - (t + 1)) + 1 := by have := HTK.out; omega
       rw [e, Nat.add_mul] at this
       omega
  ·obtain rfl : j = most := by omega
   have HENT : Hid (entP m c (X t).T (X t).B j 0 = none) := Lib.hid (entP_all j 0 (fun k _ k2 => HLOW.out k (by omega)))
   go_wp2_with fail
   go_ret
   exact ⟨t, ht, by rw [HENT.out]; rfl, nxtP_none HENT.out, HTW.out, HKP.out⟩
set_option maxRecDepth 100000
open Go.RowKit
theorem fstN_of {g : Nat → Rat} {s : Nat} : ∀ f j, j ≤ s → s < j + f → g s ≠ 0 → (∀ k, j ≤ k → k < s → g k = 0) → fstN g f j = some s := by
 intro f
 induction f with
 | zero => intro j h1 h2; omega
 | succ f ih =>
   intro j h1 h2 h3 h4
   rw [fstN]
   by_cases h : j = s
   ·subst h; rw [if_neg h3]
   ·rw [if_pos (h4 j (Nat.le_refl _) (by omega))]
    exact ih (j + 1) (by omega) (by omega) h3 (fun k k1 k2 => h4 k (by omega) k2)
theorem fstN_all {g : Nat → Rat} : ∀ f j, (∀ k, j ≤ k → k < j + f → g k = 0) → fstN g f j = none := by
 intro f
 induction f with
 | zero => intro j _; rfl
 | succ f ih =>
   intro j h
   rw [fstN, if_pos (h j (Nat.le_refl _) (by omega))]
   exact ih (j + 1) (fun k k1 k2 => h k (by omega) (by omega))
theorem clrR_skip {n i : Nat} {x : St} (h : x.B i < n) : clrR n x i = x := by rw [clrR, if_neg (by omega)]
theorem clrR_none {n i : Nat} {x : St} (h : ∀ k, k < n → x.T i k = 0) : clrR n x i = x := by
 rw [clrR]
 split
 ·rw [fstN_all n 0 (fun k _ k2 => h k (by omega))]
 ·rfl
theorem clrR_some {n i j : Nat} {x : St} (hb : n ≤ x.B i) (hj : j < n) (h : ∀ k, k < j → x.T i k = 0) (hn : x.T i j ≠ 0) : clrR n x i = ⟨pivT x.T i j, pivB x.B i j⟩ := by
 rw [clrR, if_pos hb, fstN_of n 0 (by omega) (by omega) hn (fun k _ k2 => h k k2)]
set_option maxHeartbeats 4000000 in
theorem sclear_any (w : World) (B : Nat) (L : Lay) (x : St) (h : Tw w B L x) (hN : L.N ≤ 1000) (hB : ∀ t, t ≤ L.gs.length → ∀ i, i < L.gs.length → (clrA L.n x t).B i ≤ 100000) (hf : ∀ t, t ≤ L.gs.length → ∀ i, i < L.gs.length → ∀ k, k ≤ L.n + L.gs.length → Sz ((clrA L.n x t).T i k) 60 60) :
 Calls Tryz.prog 55 #[.pointer (some ⟨L.G, 0, none⟩)] w fun e w' => e = .returned (.tuple #[]) ∧ Tw w' B L (clrA L.n x L.gs.length) ∧ Kp L.S w w' := by
 have HNL : Hid (L.N = L.n + L.gs.length + 1) := Lib.hid rfl
 have HT := Lib.hid h
 have HB := Lib.hid hB
 have HF := Lib.hid hf
 have hnl : L.n ≤ 1000 := by have := HNL.out; omega
 have hml : L.gs.length ≤ 1000 := by have := HNL.out; omega
 have c0 := h.c0
 clear h hB hf
 go_enter Tryz.func55, Tryz.ntmps55
 go_wp2_with fail
 clear c0
 go_loopw [9] (fun iv wr => ∃ i : Nat, i ≤ L.gs.length ∧ iv = .int .i64 i ∧ Tw wr B L (clrA L.n x i) ∧ Kp L.S w wr) (fun iv _ => L.gs.length - (intOf iv).toNat)
 case atStart => exact ⟨0, by omega, rfl, HT.out, Kp.refl _ _⟩
 case round =>
  obtain ⟨i, hi, rfl, tw, kp⟩ := hrel
  by_cases hlt : i < L.gs.length
  ·obtain ⟨y, hy⟩ : ∃ y, clrA L.n x i = y := ⟨_, rfl⟩
   have HY : Hid (clrA L.n x (i + 1) = clrR L.n y i) := Lib.hid (by rw [← hy]; rfl)
   have HYF : Hid (∀ r, r < L.gs.length → ∀ k, k ≤ L.n + L.gs.length → Sz (y.T r k) 60 60) := Lib.hid (by rw [← hy]; exact HF.out i hi)
   have HYB : Hid (y.B i ≤ 100000) := Lib.hid (by rw [← hy]; exact HB.out i hi i hlt)
   have HYG : Hid (∀ r, r < L.gs.length → ∀ k, k ≤ L.n + L.gs.length → Sz ((clrR L.n y i).T r k) 60 60) := Lib.hid (by rw [← HY.out]; exact HF.out (i + 1) hlt)
   rw [hy] at tw
   have HTW := Lib.hid tw
   have HKP := Lib.hid kp
   have HLT := Lib.hid hlt
   clear tw kp hy
   obtain ⟨gi, hgi⟩ : ∃ g, L.gs[i] = g := ⟨_, rfl⟩
   have HGI := Lib.hid hgi
   clear hgi
   go_wp2_with fail
   go_loopw [3] (fun jv wr => ∃ j : Nat, j ≤ L.n ∧ jv = .int .i64 j ∧ ((Tw wr B L y ∧ (∀ k, k < j → y.T i k = 0)) ∨ (Tw wr B L (clrR L.n y i) ∧ (clrR L.n y i).B i < L.n)) ∧ Kp L.S w wr) (fun jv _ => L.n - (intOf jv).toNat)
   case atStart => exact ⟨0, by omega, rfl, .inl ⟨HTW.out, fun k hk => by omega⟩, HKP.out⟩
   case round =>
    clear HTW HKP
    obtain ⟨j, hj, rfl, hor, kp⟩ := hrel
    have HKP := Lib.hid kp
    clear kp
    rcases hor with ⟨tw, hz⟩ | ⟨tw, hbl⟩
    ·obtain ⟨bi, hbi⟩ : ∃ b, y.B i = b := ⟨_, rfl⟩
     have HBI := Lib.hid hbi
     have c1 := tw.c1
     have c2 := tw.c2
     have cb := (tw.q.bas HLT.out).1
     rw [hbi] at cb
     have HTW := Lib.hid tw
     have HZ0 := Lib.hid hz
     have hb1 := HYB.out
     rw [hbi] at hb1
     clear tw hz hbi
     by_cases hjn : j < L.n
     ·have q1 : decide ((j : Int) < (L.n : Int)) = true := decide_eq_true (by omega)
      by_cases hbn : L.n ≤ bi
      ·have q2 : decide ((L.n : Int) ≤ (bi : Int)) = true := decide_eq_true (by omega)
       go_upto_region 4 with fail
       go_cut [31] (fun v wx => v = .bool true ∧ ∃ q, wx = wr.drewN q)
       case first =>
        go_quiet (fail)
        go_wp2
        go_meet
        case rel => exact ⟨rfl, nq, rfl⟩
       case rest =>
        obtain ⟨rfl, nq, rfl⟩ := hcut
        have hqb := below_drewN (Below.refl wr.heap.size wr) nq
        replace HTW := Lib.hid (HTW.out.below hqb)
        replace HKP := Lib.hid (HKP.out.then hqb)
        clear q1 q2 c1 c2 cb hqb
        generalize wr.drewN nq = wr at *
        have hjN : j < L.N := by have := HNL.out; omega
        obtain ⟨xe, ev⟩ := HTW.out.elg HLT.out HGI.out hjN
        have HEV := Lib.hid ev
        have c0 := HTW.out.c0
        have cr := HTW.out.rowg HLT.out HGI.out
        have k0 := ev.c0
        have k1 := ev.c1
        have k2 := ev.c2
        have HSE : Hid (Sz (y.T i j) 128 128) := Lib.hid (HYF.out i HLT.out j (by omega)).up
        clear ev
        obtain ⟨z, hz⟩ : ∃ z, cmpQ (y.T i j) 0 = z := ⟨_, rfl⟩
        have HZ := Lib.hid hz
        by_cases h0 : z = 0
        ·subst h0
         have HE : Hid (y.T i j = 0) := Lib.hid ((cmpQ_zero _).1 hz)
         clear hz
         go_wp2_with fail
         refine (ssign_el wr xe _ 0 HEV.out.el HSE.out HZ.out).mono ?_
         rintro e w5 ⟨rfl, bb⟩
         go_wp2_with fail
         go_roundw
         case rel => exact ⟨j + 1, by omega, by go_num, .inl ⟨HTW.out.below bb, fun k hk => by
          rcases Nat.lt_or_ge k j with k1 | k1
          ·exact HZ0.out k k1
          ·obtain rfl : k = j := by omega
           exact HE.out⟩, HKP.out.then bb⟩
         case measure => simp [intOf]; omega
        ·have HNE : Hid (y.T i j ≠ 0) := Lib.hid (fun hh => h0 (by rw [← hz]; exact (cmpQ_zero _).2 hh))
         have HCL : Hid (clrR L.n y i = ⟨pivT y.T i j, pivB y.B i j⟩) := Lib.hid (clrR_some (by rw [HBI.out]; exact hbn) hjn HZ0.out HNE.out)
         clear hz
         have hb2 : (z != 0) = true := by simpa using h0
         go_wp2_with fail
         refine (ssign_el wr xe _ z HEV.out.el HSE.out HZ.out).mono ?_
         rintro e w5 ⟨rfl, bb⟩
         replace HTW := Lib.hid (HTW.out.below bb)
         replace HKP := Lib.hid (HKP.out.then bb)
         clear HZ bb HEV k0 k1 k2 c0 cr
         go_wp2_with fail
         refine (spivot_any w5 B L y i j HTW.out HLT.out (by omega) HNE.out hN HYF.out (by have := HYG.out; rw [HCL.out] at this; exact this)).mono ?_
         rintro e w7 ⟨rfl, t7, k7⟩
         have HT7 : Hid (Tw w7 B L (clrR L.n y i)) := Lib.hid (by rw [HCL.out]; exact t7)
         have HBP : Hid ((clrR L.n y i).B i < L.n) := Lib.hid (by rw [HCL.out]; show pivB y.B i j i < L.n; rw [pivB, if_pos rfl]; exact hjn)
         have HK7 := Lib.hid (HKP.out.trans k7)
         clear t7 k7
         go_wp2_with fail
         go_roundw
         case rel => exact ⟨j + 1, by omega, by go_num, .inr ⟨HT7.out, HBP.out⟩, HK7.out⟩
         case measure => simp [intOf]; omega
      ·have q2 : decide ((L.n : Int) ≤ (bi : Int)) = false := decide_eq_false (by omega)
       go_upto_region 4 with fail
       go_cut [31] (fun v wx => v = .bool false ∧ ∃ q, wx = wr.drewN q)
       case first =>
        go_quiet (fail)
        go_wp2
        go_meet
        case rel => exact ⟨rfl, nq, rfl⟩
       case rest =>
        obtain ⟨rfl, nq, rfl⟩ := hcut
        have hqb := below_drewN (Below.refl wr.heap.size wr) nq
        replace HTW := Lib.hid (HTW.out.below hqb)
        replace HKP := Lib.hid (HKP.out.then hqb)
        clear q1 q2 c1 c2 cb hqb
        generalize wr.drewN nq = wr at *
        have HCL : Hid (clrR L.n y i = y) := Lib.hid (clrR_skip (by rw [HBI.out]; omega))
        go_wp2_with fail
        go_roundw
        case rel => exact ⟨i + 1, by omega, by go_num, by rw [HY.out, HCL.out]; exact HTW.out, HKP.out⟩
        case measure => simp [intOf]; omega
     ·have q1 : decide ((j : Int) < (L.n : Int)) = false := decide_eq_false (by omega)
      go_upto_region 4 with fail
      go_cut [31] (fun v wx => v = .bool false ∧ ∃ q, wx = wr.drewN q)
      case first =>
       go_quiet (fail)
       go_wp2
       go_meet
       case rel => exact ⟨rfl, nq, rfl⟩
      case rest =>
       obtain ⟨rfl, nq, rfl⟩ := hcut
       have hqb := below_drewN (Below.refl wr.heap.size wr) nq
       replace HTW := Lib.hid (HTW.out.below hqb)
       replace HKP := Lib.hid (HKP.out.then hqb)
       clear q1 c1 c2 cb hqb
       generalize wr.drewN nq = wr at *
       have HCL : Hid (clrR L.n y i = y) := Lib.hid (clrR_none (fun k hk => HZ0.out k (by omega)))
       go_wp2_with fail
       go_roundw
       case rel => exact ⟨i + 1, by omega, by go_num, by rw [HY.out, HCL.out]; exact HTW.out, HKP.out⟩
       case measure => simp [intOf]; omega
    ·obtain ⟨y2, hy2⟩ : ∃ y2, clrR L.n y i = y2 := ⟨_, rfl⟩
     rw [hy2] at tw hbl
     have HY2 := Lib.hid hy2
     obtain ⟨bi, hbi⟩ : ∃ b, y2.B i = b := ⟨_, rfl⟩
     have c1 := tw.c1
     have c2 := tw.c2
     have cb := (tw.q.bas HLT.out).1
     rw [hbi] at cb hbl
     have HTW := Lib.hid tw
     clear tw hbi hy2
     have hbn : ¬ L.n ≤ bi := by omega
     have q2 : decide ((L.n : Int) ≤ (bi : Int)) = false := decide_eq_false (by omega)
     go_upto_region 4 with fail
     go_cut [31] (fun v wx => v = .bool false ∧ ∃ q, wx = wr.drewN q)
     case first =>
      by_cases hjn : j < L.n
      ·have q1 : decide ((j : Int) < (L.n : Int)) = true := decide_eq_true (by omega)
       go_quiet (fail)
       go_wp2
       go_meet
       case rel => exact ⟨rfl, nq, rfl⟩
      ·have q1 : decide ((j : Int) < (L.n : Int)) = false := decide_eq_false (by omega)
       go_quiet (fail)
       go_wp2
       go_meet
       case rel => exact ⟨rfl, nq, rfl⟩
     case rest =>
      obtain ⟨rfl, nq, rfl⟩ := hcut
      have hqb := below_drewN (Below.refl wr.heap.size wr) nq
      replace HTW := Lib.hid (HTW.out.below hqb)
      replace HKP := Lib.hid (HKP.out.then hqb)
      clear q2 c1 c2 cb hqb
      generalize wr.drewN nq = wr at *
      go_wp2_with fail
      go_roundw
      case rel => exact ⟨i + 1, by omega, by go_num, by rw [HY.out, HY2.out]; exact HTW.out, HKP.out⟩
      case measure => simp [intOf]; omega
  ·obtain rfl : i = L.gs.length := by omega
   go_wp2_with fail
   go_end0
   exact ⟨rfl, tw, kp⟩
set_option maxRecDepth 100000
open Go.RowKit
theorem sum_list {α : Type} (f : α → Nat) (d : α) (l : List α) : ∀ k, k ≤ l.length → ((l.take k).map f).sum = sumM (fun i => f (l.getD i d)) k := by
 intro k
 induction k with
 | zero => intro _; rfl
 | succ k ih =>
   intro h
   rw [List.take_succ_eq_append_getElem (by omega), List.map_append, List.sum_append, ih (by omega), sumM, List.map_cons, List.map_nil, List.sum_cons, List.sum_nil, Nat.add_zero, getD_lt _ _ _ (by omega)]
theorem sumM_swap (g : Nat → Nat → Nat) (n m : Nat) : sumM (fun i => sumM (g i) m) n = sumM (fun j => sumM (fun i => g i j) n) m := by
 induction n with
 | zero =>
   have : ∀ m, sumM (fun _ => 0) m = 0 := by
    intro m
    induction m with
    | zero => rfl
    | succ m ih => rw [sumM, ih]
   show 0 = sumM (fun _ => 0) m
   rw [this]
 | succ n ih =>
   have add : ∀ (a b : Nat → Nat) m, sumM (fun j => a j + b j) m = sumM a m + sumM b m := by
    intro a b m
    induction m with
    | zero => rfl
    | succ m ih => rw [sumM, sumM, sumM, ih]; omega
   rw [sumM, ih]
   show _ = sumM (fun j => sumM (fun i => g i j) n + g n j) m
   rw [add]
theorem sumM_eq {f g : Nat → Nat} : ∀ n, (∀ i, i < n → f i = g i) → sumM f n = sumM g n := by
 intro n
 induction n with
 | zero => intro _; rfl
 | succ n ih => intro h; rw [sumM, sumM, ih (fun i hi => h i (by omega)), h n (by omega)]
theorem wgB_neg (q : Rat) : wgB (-q) = wgB q := by
 unfold wgB
 rw [Rat.neg_num, Rat.neg_den, Int.natAbs_neg]
 by_cases h : q = 0
 ·rw [if_pos h, if_pos (by rw [h]; rfl)]
 ·have e1 : q = - -q := by grind
  rw [if_neg h, if_neg (fun e => h (by rw [e1, e]; rfl))]
theorem wgB_sgT (t : Bool) (q : Rat) : wgB (sgT t * q) = wgB q := by
 cases t
 ·rw [sgT_ff]
 ·rw [sgT_tt, show ((0 : Int) : Rat) - q = -q by grind, wgB_neg]
theorem wlF_sum (vs : List Fx) : wlF vs = sumM (fun i => wgB (vs.getD i Fx.nil).q) vs.length := by
 have := sum_list (fun v : Fx => wgB v.q) Fx.nil vs vs.length (Nat.le_refl _)
 rw [List.take_length] at this
 exact this
theorem Pg.vd.wgt {p : Pg} (v : p.vd) : Wgt p.rows.length p.cost.vs.length (orgT p.rows.length p.cost.vs.length p.a p.b) p.c := by
 refine ⟨org_art, ?_, v.r2⟩
 have e1 : wgA p.rows.length p.cost.vs.length (orgT p.rows.length p.cost.vs.length p.a p.b) = (p.rows.map (fun r => wlF r.vs)).sum := by
  rw [wgA, sumM_swap]
  have h1 := sum_list (fun r : Sl => wlF r.vs) ⟨none, 0, []⟩ p.rows p.rows.length (Nat.le_refl _)
  rw [List.take_length] at h1
  rw [h1]
  refine sumM_eq _ fun r hr => ?_
  have hm := List.getElem_mem hr
  rw [wlF_sum, getD_lt _ _ _ hr, v.la _ hm]
  refine sumM_eq _ fun j hj => ?_
  rw [org_col hj, wgB_sgT, Pg.a, getD_lt _ _ _ hr]
 have e2 : sumM (fun r => wgB (orgT p.rows.length p.cost.vs.length p.a p.b r (p.cost.vs.length + p.rows.length))) p.rows.length = wlF p.right.vs := by
  rw [wlF_sum, v.lb]
  refine sumM_eq _ fun r hr => ?_
  rw [org_rt, wgB_sgT, Pg.b]
 have e3 : sumM (fun j => wgB (p.c j)) p.cost.vs.length = wlF p.cost.vs := by rw [wlF_sum]; rfl
 have w := v.wt
 omega
structure Sn where
 kind : Int
 X : Sl
 Y : Sl
 R : Sl
 v : Fx
abbrev Sn.cells (s : Sn) : Array Value := #[.int .i64 s.kind, s.X.val, s.Y.val, s.R.val, .bool s.v.b, .slice s.v.A s.v.xs.length s.v.c, .slice s.v.D s.v.ys.length s.v.d]
abbrev Sn.val (s : Sn) : Value := .agg s.cells
abbrev slN : Sl := ⟨none, 0, []⟩
structure Os (w : World) (B : Nat) (s : Sl) (N : Nat) (f : Nat → Rat) : Prop where
 adr : ∃ g, s.A = some ⟨g, 0, none⟩
 cap : s.c = N
 qr : Qr w B s.A s.vs
 len : s.vs.length = N
 rp : ∀ k (h : k < s.vs.length), Rp s.vs[k] (f k)
theorem Ou.os {w : World} {B g N : Nat} {f : Nat → Rat} (h : Ou w B g N (fun _ => True) f) : ∃ vs : List Fx, vs.length = N ∧ Os w B ⟨some ⟨g, 0, none⟩, N, vs⟩ N f := by
 obtain ⟨vs, a, b, c⟩ := h.ex
 exact ⟨vs, b, ⟨g, rfl⟩, rfl, a, b, fun k hk => c k hk trivial⟩
theorem Os.kp {w w' : World} {B N : Nat} {s : Sl} {f : Nat → Rat} {S : Nat → Prop} (h : Os w B s N f) (k : Kp S w w') (nl : ∀ g, S g → NL w g) (hA : ∀ ad, s.A = some ad → ¬ S ad.block) : Os w' B s N f := ⟨h.adr, h.cap, k.qr h.qr nl hA, h.len, h.rp⟩
theorem Os.mono {w : World} {B B' N : Nat} {s : Sl} {f : Nat → Rat} (h : Os w B s N f) (hB : B' ≤ B) : Os w B' s N f := by
 obtain ⟨g, hg⟩ := h.adr
 refine ⟨h.adr, h.cap, ⟨?_, h.qr.ok⟩, h.len, h.rp⟩
 have := h.qr.fr
 unfold Fr at *
 obtain ⟨h1, h2⟩ := this
 refine ⟨h1, ?_⟩
 rcases h2 with h2 | ⟨g', cap, cur, hv, hb, r⟩
 ·exact .inl h2
 ·exact .inr ⟨g', cap, cur, hv, by omega, r⟩
inductive SolS (w : World) (B m n : Nat) (a : Nat → Nat → Rat) (b c : Nat → Rat) (s : Sn) : Prop where
 | inf (y : St) (ok : Okx m n (orgT m n a b) y) (nx : nxtP m n n (cst1 n) y = none) (pos : 0 < dotT m (cst1 n) y.T y.B (n + m)) (k : s.kind = 2) (x : s.X = slN) (r : s.R = slN) (Y : Os w B s.Y m (prcT m n b (cst1 n) y)) (v : El w s.v 0)
 | opt (y : St) (ok : Okx m n (orgT m n a b) y) (ar : Art m n m y) (nx : entP m (cst2 n c) y.T y.B n 0 = none) (k : s.kind = 1) (r : s.R = slN) (X : Os w B s.X n (pntT m y.T y.B (n + m))) (Y : Os w B s.Y m (prcT m n b (cst2 n c) y)) (v : El w s.v (dotT m (cst2 n c) y.T y.B (n + m)))
 | unb (y : St) (ok : Okx m n (orgT m n a b) y) (ar : Art m n m y) (t : Nat) (nx : entP m (cst2 n c) y.T y.B n 0 = some t) (le : leaP y.T y.B (n + m) t m = none) (k : s.kind = 3) (y0 : s.Y = slN) (X : Os w B s.X n (pntT m y.T y.B (n + m))) (R : Os w B s.R n (rayT m y.T y.B t)) (v : El w s.v 0)
structure Zs (w : World) (G : Nat) : Prop where
 c0 : w.cell? ⟨G, 0, none⟩ = some (.int .i64 0)
 c1 : w.cell? ⟨G, 1, none⟩ = some (.slice none 0 0)
 c2 : w.cell? ⟨G, 2, none⟩ = some (.slice none 0 0)
 c3 : w.cell? ⟨G, 3, none⟩ = some (.slice none 0 0)
 c4 : w.cell? ⟨G, 4, none⟩ = some (.bool false)
 c5 : w.cell? ⟨G, 5, none⟩ = some (.slice none 0 0)
 c6 : w.cell? ⟨G, 6, none⟩ = some (.slice none 0 0)
 fz : ∀ k, w.frozen? ⟨G, k, none⟩ = false
 lt : G < w.heap.size
 nl : NL w G
theorem Zs.kp {w w' : World} {G : Nat} {S : Nat → Prop} (h : Zs w G) (k : Kp S w w') (hG : ¬ S G) : Zs w' G := by
 have hc : ∀ o, w'.cell? ⟨G, o, none⟩ = w.cell? ⟨G, o, none⟩ := fun o => k.cell (p := ⟨G, o, none⟩) h.lt hG
 obtain ⟨cur, t, e1, hn⟩ := h.nl
 exact ⟨(hc 0).trans h.c0, (hc 1).trans h.c1, (hc 2).trans h.c2, (hc 3).trans h.c3, (hc 4).trans h.c4, (hc 5).trans h.c5, (hc 6).trans h.c6, fun o => (k.frozen (p := ⟨G, o, none⟩) h.lt hG).trans (h.fz o), Nat.lt_of_lt_of_le h.lt k.size, cur, t, (k.block _ h.lt hG).trans e1, hn⟩
theorem Zs.below {w w' : World} {G : Nat} (h : Zs w G) (hb : Below w.heap.size w w') : Zs w' G := h.kp (kp_of (fun _ => False) hb) (fun h => h)
theorem zs_alloc (w : World) (e : TypeId) : Zs (w.alloc (.cells #[.int .i64 0, .slice none 0 0, .slice none 0 0, .slice none 0 0, .bool false, .slice none 0 0, .slice none 0 0] e)) w.heap.size := by
 refine ⟨by go_simp, by go_simp, by go_simp, by go_simp, by go_simp, by go_simp, by go_simp, fun k => by go_simp, by simp, _, _, heap_alloc_new w _, fun u hu => ?_⟩
 simp only [List.mem_cons, List.not_mem_nil, or_false] at hu
 rcases hu with rfl | rfl | rfl | rfl | rfl | rfl | rfl <;> rfl
theorem Kp.set7 {S : Nat → Prop} {w w' : World} {G : Nat} (h : Kp S w w') (hG : S G) (v0 v1 v2 v3 v4 v5 v6 : Value) :
 Kp S w (((((((w'.setCell ⟨G, 0, none⟩ v0).setCell ⟨G, 1, none⟩ v1).setCell ⟨G, 2, none⟩ v2).setCell ⟨G, 3, none⟩ v3).setCell ⟨G, 4, none⟩ v4).setCell ⟨G, 5, none⟩ v5).setCell ⟨G, 6, none⟩ v6) :=
 ((((((h.set hG 0 v0).set hG 1 v1).set hG 2 v2).set hG 3 v3).set hG 4 v4).set hG 5 v5).set hG 6 v6
theorem SolS.kp {w w' : World} {B m n : Nat} {a : Nat → Nat → Rat} {b c : Nat → Rat} {s : Sn} {S : Nat → Prop} (h : SolS w B m n a b c s) (k : Kp S w w') (nl : ∀ g, S g → NL w g) (hX : ∀ ad, s.X.A = some ad → ¬ S ad.block) (hY : ∀ ad, s.Y.A = some ad → ¬ S ad.block) (hR : ∀ ad, s.R.A = some ad → ¬ S ad.block) : SolS w' B m n a b c s := by
 rcases h with ⟨y, ok, nx, pos, kd, x, r, Y, v⟩ | ⟨y, ok, ar, nx, kd, r, X, Y, v⟩ | ⟨y, ok, ar, t, nx, le, kd, y0, X, R, v⟩
 ·exact .inf y ok nx pos kd x r (Y.kp k nl hY) ⟨k.ok v.ok nl, v.rp⟩
 ·exact .opt y ok ar nx kd r (X.kp k nl hX) (Y.kp k nl hY) ⟨k.ok v.ok nl, v.rp⟩
 ·exact .unb y ok ar t nx le kd y0 (X.kp k nl hX) (R.kp k nl hR) ⟨k.ok v.ok nl, v.rp⟩
end Go.Proofs.YtkpfbekmaafehaaGreat
