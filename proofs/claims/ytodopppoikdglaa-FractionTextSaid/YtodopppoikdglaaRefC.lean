/- The walk of drydockref01.Parse. -/
import Derived.Test.YtodopppoikdglaaRefB
import Derived.Deep.RegionHeld3
namespace Go.Proofs.Ytodopppoikdglaa
open Go.RowKit

theorem nt_ten (w : World) : Nt (w.alloc (.cells #[.int .u32 10] 37)) (some ⟨w.heap.size, 0, none⟩) 1 [10] :=
  ⟨by simp, by omega, U32.one (by omega), Rd.one_ w _ 10 _ rfl⟩

theorem len_mul' {m n j k : Nat} (hm : (lim m).length ≤ j) (hn : (lim n).length ≤ k) : (lim (m * n)).length ≤ j + k := by
  rw [lim_length_le] at *
  rw [pw_add]
  exact Nat.mul_lt_mul'' hm hn
theorem len_add' {m n k : Nat} (hm : (lim m).length ≤ k) (hn : (lim n).length ≤ k) : (lim (m + n)).length ≤ k + 1 := by
  rw [lim_length_le] at *
  rw [pw_succ]; omega
theorem Nt.alloc_drew {w : World} {A : Option Addr} {c : Nat} {xs : List Nat} (h : Nt w A c xs) (o : Obj) : Nt ((w.alloc o).drew) A c xs := h.below (below_drew ((Below.refl _ _).alloc (Nat.le_refl _) o))
theorem nt_ten_drew (w : World) : Nt ((w.alloc (.cells #[.int .u32 10] 37)).drew) (some ⟨w.heap.size, 0, none⟩) 1 [10] := (nt_ten w).below (below_drew (Below.refl _ _))
theorem times_ten (w : World) (A D : Option Addr) (c N : Nat) (h : Nt w A c (lim N)) (k : Nt w D 1 [10]) (hl : (lim N).length ≤ 10000) :
    Calls Try.prog 69 #[.slice A (lim N).length c, .slice D 1 1] w (NatNew w (lim (N * 10))) := by
  have hc := times_any w A D c 1 _ _ (lim N) [10] h k rfl rfl hl (by simp)
  rw [nv_lim, show nv [10] = 10 from rfl] at hc
  exact hc
theorem plus_lim (w : World) (A D : Option Addr) (c d M N : Nat) (h : Nt w A c (lim M)) (k : Nt w D d (lim N)) (hl : (lim M).length ≤ 10000) (hl2 : (lim N).length ≤ 10000) :
    Calls Try.prog 90 #[.slice A (lim M).length c, .slice D (lim N).length d] w (NatNew w (lim (M + N))) := by
  have hc := plus_any w A D c d _ _ (lim M) (lim N) h k rfl rfl hl hl2
  rw [nv_lim, nv_lim] at hc
  exact hc
theorem below_alloc_drew (w : World) (o : Obj) : Below w.heap.size w ((w.alloc o).drew) := below_drew ((Below.refl _ _).alloc (Nat.le_refl _) o)
set_option maxRecDepth 100000 in
set_option maxHeartbeats 1000000 in
theorem rparse_any (w : World) (s : ByteArray) (R : List Nat) (E : Int) (hs : s.size ≤ 9223372036854775807) (hr : parseS (bl s) = (R, E)) :
    Calls Try.prog 74 #[.string s] w (NatRes w R E) := by
  have HR := Lib.hid hr
  clear hr
  have hbl := bl_len s
  by_cases h5 : 5000 < s.size
  · go_enter Try.func74, Try.ntmps74
    go_wp2_with fail
    go_ret2
    have e := HR.out
    rw [parse_long (by omega)] at e
    obtain ⟨rfl, rfl⟩ := Prod.mk.inj e
    exact ⟨_, _, rfl, Nt.nil _ _ _ (by omega), Below.refl _ _⟩
  · by_cases h0 : s.size = 0
    · have hnil : bl s = [] := List.eq_nil_of_length_eq_zero (by rw [hbl]; exact h0)
      have h01 : ((s.size : Int) == 0) = true := by simp [h0]
      have HN := Lib.hid hnil
      clear hnil hbl h0
      go_enter Try.func74, Try.ntmps74
      go_wp2_with fail
      go_ret2
      have e := HR.out
      rw [HN.out, parse_nil] at e
      obtain ⟨rfl, rfl⟩ := Prod.mk.inj e
      exact ⟨_, _, rfl, Nt.nil _ _ _ (by omega), Below.refl _ _⟩
    · have HBL := Lib.hid hbl
      clear hbl
      have hd5 : decide ((5000 : Int) < (s.size : Int)) = false := decide_eq_false (by omega)
      have h01 : ((s.size : Int) == 0) = false := beq_eq_false_iff_ne.2 (by omega)
      go_enter Try.func74, Try.ntmps74
      go_wp2_with fail
      go_loop [4] (fun i => ∃ k : Nat, k ≤ s.size ∧ i = .int .i64 k ∧ DigTo (bl s) k) (fun i => s.size - (intOf i).toNat)
      case atStart => exact ⟨0, by omega, rfl, fun j _ h => absurd h (by omega)⟩
      case round =>
        obtain ⟨k, hk, rfl, hd⟩ := hrel
        have HD := Lib.hid hd
        clear hd
        by_cases hlt : k < s.size
        · have hkl : k < (bl s).length := by rw [HBL.out]; exact hlt
          have HA := Lib.hid (bl_at s k hlt hkl)
          by_cases hb1 : s[k].toNat < 48
          · have hb1' : (s[k].toNat : Int) < 48 := by omega
            go_wp2_with fail
            go_ret2
            have e := HR.out
            rw [parse_bad (by have := HBL.out; omega) k hkl (isDig_false (by rw [HA.out]; omega))] at e
            obtain ⟨rfl, rfl⟩ := Prod.mk.inj e
            exact ⟨_, _, rfl, Nt.nil _ _ _ (by omega), Below.refl _ _⟩
          · have hb1' : decide ((s[k].toNat : Int) < 48) = false := decide_eq_false (by omega)
            by_cases hb2 : 57 < s[k].toNat
            · have hb2' : (57 : Int) < s[k].toNat := by omega
              go_wp2_with fail
              go_ret2
              have e := HR.out
              rw [parse_bad (by have := HBL.out; omega) k hkl (isDig_false (by rw [HA.out]; omega))] at e
              obtain ⟨rfl, rfl⟩ := Prod.mk.inj e
              exact ⟨_, _, rfl, Nt.nil _ _ _ (by omega), Below.refl _ _⟩
            · have hb2' : decide ((57 : Int) < s[k].toNat) = false := decide_eq_false (by omega)
              go_wp2_with fail
              go_round
              case rel => exact ⟨k + 1, by omega, by go_num, HD.out.step hkl (isDig_iff.2 (by rw [HA.out]; omega))⟩
              case measure => simp [intOf]; omega
        · have hlist0 : bl s ≠ [] := fun h1 => h0 (by rw [← HBL.out, h1]; rfl)
          have HP := Lib.hid (parse_good (by have := HBL.out; omega) hlist0 (fun j hj => HD.out j hj (by have := HBL.out; omega)))
          have hks : k = s.size := by omega
          have HDD : Hid (DigTo (bl s) s.size) := by rw [← hks]; exact HD.out
          clear hks hlist0
          go_wp2_with fail
          go_loopw [5, 6] (fun o at_ wr => ∃ (k N : Nat) (AO : Option Addr) (cO : Nat), k ≤ s.size ∧ at_ = .int .i64 k ∧ o = .slice AO (lim N).length cO ∧ N = dval ((bl s).take k) ∧ (lim N).length ≤ 512 ∧ Nt wr AO cO (lim N) ∧ Below w.heap.size w wr) (fun _ at_ _ => s.size - (intOf at_).toNat)
          case atStart => exact ⟨0, 0, none, 0, by omega, rfl, by rw [lim_zero]; rfl, by simp [dval], by rw [lim_zero]; simp, by rw [lim_zero]; exact Nt.nil _ _ _ (by omega), Below.refl _ _⟩
          case round =>
            obtain ⟨k, N, AO, cO, hk, rfl, rfl, hN, hNl, hnt, hbr⟩ := hrel
            have HN := Lib.hid hN
            clear hN
            by_cases hlt : k < s.size
            · have hkl : k < (bl s).length := by rw [HBL.out]; exact hlt
              have hA := bl_at s k hlt hkl
              have hdg := isDig_iff.1 (HDD.out k hkl hlt)
              rw [hA] at hdg
              have HA := Lib.hid hA
              obtain ⟨d, hd⟩ : ∃ d, d = s[k].toNat - 48 := ⟨_, rfl⟩
              have HDG := Lib.hid hdg
              clear hA hdg
              go_wp2_with fail
              have hsub : IntKind.u8.wrap ((s[k].toNat : Int) - 48) = (d : Int) := by rw [IntKind.wrap_u8]; have := HDG.out; omega
              have hd9 : d ≤ 9 := by have := HDG.out; omega
              have HDD2 := Lib.hid hd
              have hw64 : IntKind.u64.wrap (d : Int) = (d : Int) := by rw [IntKind.wrap_u64]; omega
              clear hd
              have hN1 : (lim (N * 10)).length ≤ 10000 := by
                have h1 : (lim 10).length ≤ 1 := by rw [lim_length_le]; show 10 < 4294967296; omega
                have := len_mul' hNl h1
                omega
              have hd1 : (lim d).length ≤ 10000 := by
                have h1 : (lim d).length ≤ 1 := by rw [lim_length_le]; show d < 4294967296; omega
                omega
              go_region_with (first
                | (go_at_call 69
                   refine (times_ten _ AO _ cO N ?_ ?_ (by omega)).mono ?_
                   · exact hnt.alloc_drew _
                   · exact nt_ten_drew _
                   rintro e w3 ⟨A3, c3, rfl, g3, b3⟩)
                | (go_at_call 49
                   refine (rmake_any _ d (by omega)).mono ?_
                   rintro e w4 ⟨A4, c4, rfl, g4, b4⟩)
                | (go_at_call 90
                   refine (plus_lim _ A3 A4 c3 c4 (N * 10) d ?_ ?_ hN1 hd1).mono ?_
                   · exact (g3.nt (lim_u32 _)).below b4
                   · exact g4.nt (lim_u32 _)
                   rintro e w5 ⟨A5, c5, rfl, g5, b5⟩))
              all_goals
                have hbb := below_on (below_on (below_on hbr (below_alloc_drew _ _) hbr.size) b3 (Nat.le_trans hbr.size (below_alloc_drew _ _).size)) b4 (Nat.le_trans (Nat.le_trans hbr.size (below_alloc_drew _ _).size) b3.size)
                have hb5 := below_on hbb b5 hbb.size
                have hn5 := g5.nt (lim_u32 _)
                have hval : N * 10 + d = dval ((bl s).take (k + 1)) := by rw [dval_take_succ _ _ hkl, ← HN.out, HA.out, HDD2.out]
                have hlen5 : (lim (N * 10 + d)).length ≤ 1000000 := by
                  have h1 := len_add' hN1 hd1
                  omega
                obtain ⟨M, hM⟩ : ∃ M, M = N * 10 + d := ⟨_, rfl⟩
                rw [← hM] at hn5 hval hlen5 ⊢
                have HM := Lib.hid hval
                clear hM hval g3 b3 g4 b4 g5 b5 hbb hnt hbr hsub hw64
                by_cases hbig : 512 < (lim M).length
                · have hcall := rlarge_any _ A5 c5 _ (lim M) true hn5 rfl (by rw [nv_lim]; exact hlen5) (by rw [nv_lim]; exact decide_eq_true hbig)
                  have HF := Lib.hid hcall
                  clear hcall
                  go_wp2_with fail
                  refine HF.out.mono ?_
                  rintro e w6 ⟨rfl, b6⟩
                  go_wp2_with fail
                  go_ret2
                  have hle : M ≤ dval (bl s) := by
                    rw [HM.out]
                    have h1 := dval_append ((bl s).take (k + 1)) ((bl s).drop (k + 1))
                    rw [List.take_append_drop] at h1
                    have h2 : dval ((bl s).take (k + 1)) * 1 ≤ dval ((bl s).take (k + 1)) * 10 ^ ((bl s).drop (k + 1)).length := Nat.mul_le_mul_left _ (Nat.pow_pos (by omega))
                    omega
                  have hl2 := lim_length_mono hle
                  have e := HR.out
                  rw [HP.out, sizS, if_pos (by omega)] at e
                  obtain ⟨rfl, rfl⟩ := Prod.mk.inj e
                  exact ⟨_, _, rfl, Nt.nil _ _ _ (by omega), below_on hb5 b6 hb5.size⟩
                · have hcall := rlarge_any _ A5 c5 _ (lim M) false hn5 rfl (by rw [nv_lim]; exact hlen5) (by rw [nv_lim]; exact decide_eq_false hbig)
                  have HF := Lib.hid hcall
                  clear hcall
                  go_wp2_with fail
                  refine HF.out.mono ?_
                  rintro e w6 ⟨rfl, b6⟩
                  go_wp2_with fail
                  go_roundw
                  case rel => exact ⟨k + 1, M, A5, c5, by omega, by go_num, rfl, HM.out, by omega, hn5.below b6, below_on hb5 b6 hb5.size⟩
                  case measure => simp [intOf]; omega
            · have hks : k = s.size := by omega
              have hval : N = dval (bl s) := by rw [HN.out, hks, ← HBL.out, List.take_length]
              have HV := Lib.hid hval
              clear hval hks
              go_wp2_with fail
              go_ret2
              have e := HR.out
              rw [HP.out, sizS, if_neg (by rw [← HV.out]; omega), ← HV.out] at e
              obtain ⟨rfl, rfl⟩ := Prod.mk.inj e
              exact ⟨_, _, rfl, hnt, hbr⟩
end Go.Proofs.Ytodopppoikdglaa
