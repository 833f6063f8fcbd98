/- The walks of the reference's Uses, up and Bound. -/
import Derived.Test.YtgjhjdjbhmblmaaTrD
import Derived.Test.YtgjhjdjbhmblmaaTrO
namespace Go.Proofs.Ytgjhjdjbhmblmaa
open Go.RowKit

theorem rup_any (w : World) (a b : Int) (ha : 0 ≤ a) (hb : 0 < b) (ha2 : a ≤ 1000000000) (hb2 : b ≤ 4096) : Calls Try.prog 36 #[.int .i64 a, .int .i64 b] w fun e w' => e = .returned (.int .i64 (upM a b)) ∧ w = w' := by
  have h0 : ¬ b = 0 := by omega
  go_enter Try.func36, Try.ntmps36
  go_wp2_with fail
  go_ret
  exact ⟨ret_int rfl, rfl⟩
theorem ruses_any (w : World) (x : Fm) (e : Int) (b : Bool) (hx : x.ok w) (hb : decide (e ∈ x.ls) = b) :
    Calls Try.prog 37 #[x.val, .int .i64 e] w fun e w' => e = .returned (.bool b) ∧ Below w.heap.size w w' := by
  have HB := Lib.hid hb; clear hb
  go_enter Try.func37, Try.ntmps37
  go_upto_region 1 with fail
  have bb := (fb_alloc w x 54).2
  have fb := (fb_alloc w x 54).1
  have HX := Lib.hid (hx.below bb)
  clear hx
  generalize (w.alloc (.cells #[.slice x.A x.ls.length x.c, .int .i64 x.m] 54)) = wm at fb bb HX ⊢
  have tc0 := fb.c0
  have hxl := HX.out.is.len
  go_wp2_with fail
  go_loop [5] (fun i => ∃ j : Nat, j ≤ x.ls.length ∧ i = .int .i64 j ∧ e ∉ x.ls.take j) (fun i => x.ls.length - (intOf i).toNat)
  case atStart => exact ⟨0, by omega, rfl, by simp⟩
  case round =>
    obtain ⟨j, hj, rfl, hP⟩ := hrel
    have HP := Lib.hid hP
    clear hP
    by_cases hjt : j < x.ls.length
    · obtain ⟨ae, hae, _, hce⟩ := HX.out.is.at j hjt
      rw [hae] at tc0
      have HM : Hid (x.ls[j] ∈ x.ls) := Lib.hid (List.getElem_mem hjt)
      by_cases c2 : x.ls[j] = e
      · have c2' : (x.ls[j] == e) = true := by simp [c2]
        have HBB : Hid (b = true) := Lib.hid (by rw [← HB.out, ← c2]; exact decide_eq_true HM.out)
        clear c2
        go_wp2_with fail
        go_ret
        exact ⟨ret_bool HBB.out.symm, bb⟩
      · have c2' : (x.ls[j] == e) = false := beq_eq_false_iff_ne.2 c2
        have HNX : Hid (e ∉ x.ls.take (j + 1)) := Lib.hid (by
          rw [List.take_succ_eq_append_getElem hjt, List.mem_append, List.mem_singleton]
          rintro (h | h)
          · exact HP.out h
          · exact c2 h.symm)
        clear c2 HP
        go_wp2_with fail
        go_round
        case rel => exact ⟨j + 1, by omega, by go_num, HNX.out⟩
        case measure => simp [intOf]; omega
    · have HBB : Hid (b = false) := Lib.hid (by rw [← HB.out]; exact decide_eq_false (by have := HP.out; rwa [List.take_of_length_le (by omega)] at this))
      clear HP
      go_wp2_with fail
      go_ret
      exact ⟨ret_bool HBB.out.symm, bb⟩
theorem rbound_bad (w : World) (A : Option Addr) (n c : Nat) (caps : List Int) (D : Option Addr) (m d : Nat) (ts : List Tm) (hA : Is w A c caps) (hD : Ts w D d ts) (hn : n = caps.length) (hm : m = ts.length) (h60 : ts.length ≤ 60) (E : Int) (hE : checkM caps (ts.map Tm.tr) = E) (h0 : E ≠ 0) :
    Calls Try.prog 22 #[.slice A n c, .slice D m d] w fun e w' => e = .returned (.tuple #[.int .i64 0, .int .i64 E]) ∧ Below w.heap.size w w' := by
  have HA := Lib.hid hA; clear hA
  have HD := Lib.hid hD; clear hD
  have HE := Lib.hid hE; clear hE
  subst hn hm
  have h0' : (E == 0) = false := beq_eq_false_iff_ne.2 h0
  have h0'' : (E != 0) = true := by simp [h0]
  clear h0
  go_enter Try.func22, Try.ntmps22
  go_wp2_with fail
  refine (able_any w A _ c caps D _ d ts HA.out HD.out rfl rfl h60).mono ?_
  rw [HE.out]
  rintro e w1 ⟨rfl, bb⟩
  go_wp2_with fail
  go_ret2
  exact ⟨rfl, bb⟩
set_option maxRecDepth 100000 in
set_option maxHeartbeats 4000000 in
theorem rbound_ok (w : World) (A : Option Addr) (n c : Nat) (caps : List Int) (D : Option Addr) (m d : Nat) (ts : List Tm) (hA : Is w A c caps) (hD : Ts w D d ts) (hn : n = caps.length) (hm : m = ts.length) (h60 : ts.length ≤ 60) (l : List Tr) (hl : ts.map Tm.tr = l) (hE : checkM caps l = 0) :
    Calls Try.prog 22 #[.slice A n c, .slice D m d] w fun e w' => e = .returned (.tuple #[.int .i64 (boundM caps l), .int .i64 0]) ∧ Below w.heap.size w w' := by
  have HA := Lib.hid hA; clear hA
  have HD := Lib.hid hD; clear hD
  have HL := Lib.hid hl
  have HE : Hid (checkM caps (ts.map Tm.tr) = 0) := Lib.hid (by rw [hl]; exact hE)
  have HV : Hid (validTr caps l ∧ ∀ x ∈ l, ¬ stuckT caps x) := Lib.hid (checkM_zero hE)
  have l0 : l.length = ts.length := by rw [← hl, List.length_map]
  clear hl hE
  subst hn hm
  go_enter Try.func22, Try.ntmps22
  go_wp2_with fail
  refine (able_any w A _ c caps D _ d ts HA.out HD.out rfl rfl h60).mono ?_
  rw [HE.out]
  rintro e w1 ⟨rfl, bw0⟩
  go_wp2_with fail
  go_loopg [7, 8] ts.length (fun kn bv i wr => ∃ (k : Nat) (b : Int), kn + k = ts.length ∧ i = .int .i64 k ∧ bv = .int .i64 b ∧ (l.take k).foldl (bndT caps l) 0 = b ∧ Below w.heap.size w wr)
  case atStart => exact ⟨0, 0, by omega, rfl, rfl, rfl, bw0⟩
  case round =>
    clear bw0
    obtain ⟨k, b, hk, rfl, rfl, hb, bw⟩ := hrel
    have HB := Lib.hid hb
    clear hb
    by_cases hlt : k < ts.length
    · obtain ⟨ad, rfl, tc0, tc1, tc2, _⟩ := (HD.out.below bw).at k hlt
      have hdc := HD.out.cap
      have hdm := HD.out.max
      have hkl : k < l.length := by rw [l0]; exact hlt
      have HG : Hid (l[k] = ts[k].tr) := Lib.hid (by
        have : l.getD k ([], 0, 0) = ts[k].tr := by rw [← HL.out, getD_tr, getD_lt _ _ _ hlt]
        rwa [getD_lt _ _ _ hkl] at this)
      have HNX : Hid ((l.take (k + 1)).foldl (bndT caps l) 0 = bndT caps l b ts[k].tr) := Lib.hid (by rw [foldl_take_succ _ _ _ _ hkl, HB.out, HG.out])
      have hbd := boundTo_bd HV.out.1 HV.out.2 (by omega) k (by omega)
      rw [HB.out] at hbd
      have HOKT : Hid (trOk ts[k].tr) := Lib.hid (by rw [← HG.out]; exact HV.out.1.1 _ (List.getElem_mem hkl))
      have HXM : Hid (ts[k] ∈ ts) := Lib.hid (List.getElem_mem hlt)
      have HMEM : Hid (ts[k].tr ∈ l) := Lib.hid (by rw [← HG.out]; exact List.getElem_mem hkl)
      obtain ⟨x, hx⟩ : ∃ x, ts[k] = x := ⟨_, rfl⟩
      have HXK := Lib.hid hx
      rw [hx] at tc0 tc1 tc2 HNX HOKT HMEM HXM
      have hxl := (HD.out.ok x HXM.out).is.len
      clear hx HG
      have hbd1 : 0 ≤ b := hbd.1
      have hbd2 : b ≤ 1000000 := hbd.2
      have hs1 : 0 ≤ x.s := HOKT.out.2.2.1
      have hs2 : x.s ≤ 4096 := HOKT.out.2.2.2
      have hb1 : 0 ≤ x.b := HOKT.out.1
      have hb2 : x.b ≤ 4096 := HOKT.out.2.1
      have HBD := Lib.hid hbd
      clear hbd
      by_cases hz : x.b = 0
      · have hz' : (x.b == 0) = true := by simp [hz]
        have HNX2 : Hid ((l.take (k + 1)).foldl (bndT caps l) 0 = b) := Lib.hid (by rw [HNX.out, bndT, if_pos hz])
        clear hz
        go_wp2_with fail
        go_roundg (ts.length - (k + 1))
        case rel => exact ⟨k + 1, b, by omega, by go_num, rfl, HNX2.out, bw⟩
        case measure => omega
      · have hz' : (x.b == 0) = false := beq_eq_false_iff_ne.2 hz
        have HZ : Hid (¬ x.b = 0) := hz
        clear hz
        go_upto_if 37 with fail
        have e1 : IntKind.i64.wrap (x.s + 1) = x.s + 1 := IntWalk.i64_in _ (by omega)
        go_cut [7] (fun s7 w' => s7 = .int .i64 (bndS x.tr b) ∧ w' = wr)
        case first =>
          by_cases he : x.ls.length = 0
          · have he' : ((x.ls.length : Int) == 0) = true := by simp [he]
            have HEE : Hid (x.ls = []) := Lib.hid (List.eq_nil_of_length_eq_zero he)
            clear he
            by_cases hm : b < x.s + 1
            · have HM : Hid (bndS x.tr b = x.s + 1) := Lib.hid (by rw [bndS, if_pos HEE.out]; show max b (x.s + 1) = _; omega)
              go_wp2_with fail
              go_meet
              case rel => exact ⟨by rw [HM.out], rfl⟩
            · have HM : Hid (bndS x.tr b = b) := Lib.hid (by rw [bndS, if_pos HEE.out]; show max b (x.s + 1) = _; omega)
              go_wp2_with fail
              go_meet
              case rel => exact ⟨by rw [HM.out], rfl⟩
          · have he' : ((x.ls.length : Int) == 0) = false := beq_eq_false_iff_ne.2 (by omega)
            have HM : Hid (bndS x.tr b = b) := Lib.hid (by rw [bndS, if_neg (fun h => he (by have : x.ls = [] := h; rw [this]; rfl))])
            clear he
            go_wp2_with fail
            go_meet
            case rel => exact ⟨by rw [HM.out], rfl⟩
        case rest =>
          obtain ⟨rfl, rfl⟩ := hcut
          have HBS := Lib.hid (bndS_bd HOKT.out HBD.out)
          obtain ⟨b1, hb1'⟩ : ∃ b1, bndS x.tr b = b1 := ⟨_, rfl⟩
          rw [hb1'] at HBS ⊢
          have HB1 := Lib.hid hb1'
          clear hb1' e1
          go_wp2_with fail
          go_loopg [7, 9] x.ls.length (fun jn bv i wr => ∃ (j : Nat) (b2 : Int), jn + j = x.ls.length ∧ i = .int .i64 j ∧ bv = .int .i64 b2 ∧ (x.ls.take j).foldl (bndE caps l x.tr) b1 = b2 ∧ (0 ≤ b2 ∧ b2 ≤ bdB) ∧ Below w.heap.size w wr)
          case atStart => exact ⟨0, b1, by omega, rfl, rfl, rfl, HBS.out, bw⟩
          case round =>
            clear bw tc0 tc1 tc2
            obtain ⟨j, b2, hj, rfl, rfl, hb2', hbb, bw⟩ := hrel
            have HB2 := Lib.hid hb2'
            have HBB := Lib.hid hbb
            have q1 : 0 ≤ b2 := hbb.1
            have q2 : b2 ≤ 1000000 := hbb.2
            clear hb2' hbb
            have hXw : x.ok wr := (HD.out.below bw).ok x HXM.out
            skip
            obtain ⟨ad', had, tc0, tc1, tc2, _⟩ := (HD.out.below bw).at k hlt
            injection had with had
            subst had
            rw [HXK.out] at tc0 tc1 tc2
            by_cases hjt : j < x.ls.length
            · obtain ⟨ae, hae, _, hce⟩ := hXw.is.at j hjt
              have HEM : Hid (x.ls[j] ∈ x.tr.1) := Lib.hid (List.getElem_mem hjt)
              have hcp := caps_pos HV.out.1 HV.out.2 HMEM.out HZ.out _ HEM.out
              have hlk := (HV.out.1.links HMEM.out).mem HEM.out
              obtain ⟨t, ht⟩ : ∃ t : Nat, x.ls[j] = (t : Int) := ⟨(x.ls[j]).toNat, by omega⟩
              have htn : t < caps.length := by omega
              have HCE : Hid (caps.getD (x.ls[j]).toNat 0 = caps[t]) := Lib.hid (by rw [ht, Int.toNat_natCast, getD_lt _ _ _ htn])
              rw [HCE.out] at hcp
              have hcp1 : 0 < caps[t] := hcp.1
              have hcp2 : caps[t] ≤ 4096 := hcp.2
              have HNB : Hid ((x.ls.take (j + 1)).foldl (bndE caps l x.tr) b1 = bndE caps l x.tr b2 x.ls[j]) := Lib.hid (by rw [foldl_take_succ _ _ _ _ hjt, HB2.out])
              rw [hae] at tc0
              have HT := Lib.hid ht
              rw [ht] at hce
              clear hcp hlk hXw
              go_upto_region 15 with fail
              rw [← hae] at tc0
              clear hce hae
              obtain ⟨ac, hac, _, hcc⟩ := (HA.out.below bw).at t htn
              subst hac
              have hacap := HA.out.cap
              have hamax := HA.out.max
              have u1 := upM_bd hb1 hcp1
              obtain ⟨p, hp⟩ : ∃ p, upM x.b caps[t] = p := ⟨_, rfl⟩
              rw [hp] at u1
              have CP : ∀ wz, Calls Try.prog 36 #[.int .i64 x.b, .int .i64 caps[t]] wz fun e w' => e = .returned (.int .i64 p) ∧ wz = w' := fun wz => by rw [← hp]; exact rup_any wz _ _ hb1 hcp1 (by omega) hcp2
              have HCPp := Lib.hid CP
              have HP := Lib.hid hp
              have w1' : IntKind.i64.wrap (x.s + p) = x.s + p := IntWalk.i64_in _ (by omega)
              clear CP hp
              go_cut [7] (fun s7 w' => s7 = .int .i64 (max b2 (x.s + p)) ∧ Below wr.heap.size wr w')
              case first =>
                by_cases m1 : b2 < x.s + p
                · have HM : Hid (max b2 (x.s + p) = x.s + p) := Lib.hid (by omega)
                  go_region_held3 (fun w' => w'.cell? ⟨(ad.add (k * 3)).block, (ad.add (k * 3)).off + 1, none⟩ = some (.int .i64 x.b) ∧ w'.cell? ⟨(ad.add (k * 3)).block, (ad.add (k * 3)).off + 2, none⟩ = some (.int .i64 x.s) ∧ w'.cell? (ac.add t) = some (.int .i64 caps[t]))
                    (first | exact ⟨tc1, tc2, hcc⟩ | go_keep)
                    (first | (go_at_call 36
                              with_reducible refine (HCPp.out _).mono ?_
                              rintro e wn ⟨rfl, rfl⟩))
                  all_goals
                    go_wp2_with fail
                    go_meet
                    case rel => exact ⟨by rw [HM.out], below_drewN (Below.refl _ _) 1⟩
                · have HM : Hid (max b2 (x.s + p) = b2) := Lib.hid (by omega)
                  go_region_held3 (fun w' => w'.cell? ⟨(ad.add (k * 3)).block, (ad.add (k * 3)).off + 1, none⟩ = some (.int .i64 x.b) ∧ w'.cell? ⟨(ad.add (k * 3)).block, (ad.add (k * 3)).off + 2, none⟩ = some (.int .i64 x.s) ∧ w'.cell? (ac.add t) = some (.int .i64 caps[t]))
                    (first | exact ⟨tc1, tc2, hcc⟩ | go_keep)
                    (first | (go_at_call 36
                              with_reducible refine (HCPp.out _).mono ?_
                              rintro e wn ⟨rfl, rfl⟩))
                  all_goals
                    go_wp2_with fail
                    go_meet
                    case rel => exact ⟨by rw [HM.out], below_drewN (Below.refl _ _) 1⟩
              case rest =>
                obtain ⟨rfl, bcut⟩ := hcut
                replace bw := below_on bw bcut bw.size
                obtain ⟨b3, hb3⟩ : ∃ b3, max b2 (x.s + p) = b3 := ⟨_, rfl⟩
                have hb3l : 0 ≤ b3 := by omega
                have hb3u : b3 ≤ 1010000 := by omega
                have HB3 := Lib.hid hb3
                rw [hb3]
                clear bcut hb3 tc0 tc1 tc2 hcc w1'
                have HCAP := Lib.hid hcp1
                have HCAP2 := Lib.hid hcp2
                have HS1 := Lib.hid hs1
                have HS2 := Lib.hid hs2
                go_wp2_with fail
                go_loopw [11, 12] (fun sv i wr => ∃ (i' : Nat) (s' : Int), i' ≤ ts.length ∧ i = .int .i64 i' ∧ sv = .int .i64 s' ∧ sumE (l.take i') x.s x.ls[j] = s' ∧ Below w.heap.size w wr) (fun _ i _ => ts.length - (intOf i).toNat)
                case atStart => exact ⟨0, 0, by omega, rfl, rfl, rfl, bw⟩
                case round =>
                  clear bw
                  obtain ⟨i', s', hi', rfl, rfl, hsum, bw⟩ := hrel
                  have HSUM := Lib.hid hsum
                  have hsb := sumE_bd (l := l.take i') (fun t ht => HV.out.1.1 t (List.mem_of_mem_take ht)) x.s x.ls[j]
                  rw [hsum] at hsb
                  have hsb1 : 0 ≤ s' := hsb.1
                  have hsb2 : s' ≤ 300000 := by
                    have := hsb.2
                    rw [List.length_take, l0] at this
                    omega
                  clear hsum hsb
                  skip
                  obtain ⟨ad', had, tc0, tc1, tc2, _⟩ := (HD.out.below bw).at k hlt
                  injection had with had
                  subst had
                  rw [HXK.out] at tc0 tc1 tc2
                  by_cases hlt2 : i' < ts.length
                  · obtain ⟨ad', had, hd0, hd1, hd2, hok⟩ := (HD.out.below bw).at i' hlt2
                    injection had with had
                    subst had
                    have hkl2 : i' < l.length := by rw [l0]; exact hlt2
                    have HG : Hid (l[i'] = ts[i'].tr) := Lib.hid (by
                      have : l.getD i' ([], 0, 0) = ts[i'].tr := by rw [← HL.out, getD_tr, getD_lt _ _ _ hlt2]
                      rwa [getD_lt _ _ _ hkl2] at this)
                    have HNS := Lib.hid (sumE_take_succ l x.s x.ls[j] i' hkl2)
                    rw [HG.out, HSUM.out] at HNS
                    have hub := HV.out.1.1 _ (List.getElem_mem hkl2)
                    rw [HG.out] at hub
                    obtain ⟨u, hu⟩ : ∃ u, ts[i'] = u := ⟨_, rfl⟩
                    rw [hu] at hd0 hd1 hd2 hok HNS hub
                    have hub1 : 0 ≤ u.b := hub.1
                    have hub2 : u.b ≤ 4096 := hub.2.1
                    have HUO := Lib.hid hok
                    clear hub hu HG hok
                    go_upto_region 20 with fail
                    by_cases c1 : x.s ≤ u.s
                    · have c1' : decide (x.s ≤ u.s) = true := decide_eq_true c1
                      have HC1 := Lib.hid c1
                      clear c1
                      by_cases c2 : x.ls[j] ∈ u.ls
                      · have HC2 := Lib.hid c2
                        have HNS2 : Hid (sumE (l.take (i' + 1)) x.s x.ls[j] = s' + u.b) := Lib.hid (by rw [HNS.out, if_pos ⟨HC1.out, HC2.out⟩])
                        have HUS : Hid (∀ wz, Below wr.heap.size wr wz → Calls Try.prog 37 #[(⟨u.A, u.c, u.ls, 0⟩ : Fm).val, .int .i64 t] wz fun e w' => e = .returned (.bool true) ∧ Below wr.heap.size wr w' ∧ (w'.cell? (ad.add (i' * 3)) = some (.slice u.A u.ls.length u.c) ∧ w'.cell? ⟨(ad.add (i' * 3)).block, (ad.add (i' * 3)).off + 2, none⟩ = some (.int .i64 u.s) ∧ w'.cell? ⟨(ad.add (k * 3)).block, (ad.add (k * 3)).off + 2, none⟩ = some (.int .i64 x.s))) := Lib.hid (fun wz hz => (ruses_any wz ⟨u.A, u.c, u.ls, 0⟩ t true ⟨(HUO.out.below hz).is, by show (-9223372036854775808 : Int) ≤ 0 ∧ (0 : Int) ≤ 9223372036854775807; decide⟩ (decide_eq_true (by rw [← HT.out]; exact HC2.out))).mono (fun e w' h => by
                          have hb := below_on hz h.2 hz.size
                          exact ⟨h.1, hb, (hb.cell (World.block_lt_of_cell? wr _ hd0)).trans hd0, (hb.cell (World.block_lt_of_cell? wr _ hd2)).trans hd2, (hb.cell (World.block_lt_of_cell? wr _ tc2)).trans tc2⟩))
                        clear c2
                        go_region_held3 (fun w' => w'.cell? (ad.add (i' * 3)) = some (.slice u.A u.ls.length u.c) ∧ w'.cell? ⟨(ad.add (i' * 3)).block, (ad.add (i' * 3)).off + 2, none⟩ = some (.int .i64 u.s) ∧ w'.cell? ⟨(ad.add (k * 3)).block, (ad.add (k * 3)).off + 2, none⟩ = some (.int .i64 x.s))
                          (first | exact ⟨hd0, hd2, tc2⟩ | assumption | go_keep)
                          (first | (go_at_call 37
                                    with_reducible refine (HUS.out _ (by with_reducible first | exact Below.refl _ _ | exact (Below.refl _ _).drew)).mono ?_
                                    rintro e wn ⟨rfl, bb, kc⟩))
                        all_goals
                          replace bw := below_on bw bb bw.size
                          have hd1' := (bb.cell (World.block_lt_of_cell? wr _ hd1)).trans hd1
                          clear hd0 hd1 hd2 tc0 tc1 tc2 kc bb
                          go_wp2_with fail
                          go_roundw
                          case rel => exact ⟨i' + 1, s' + u.b, by omega, by go_num, rfl, HNS2.out, bw⟩
                          case measure => simp [intOf]; omega
                      · have HC2 : Hid (¬ x.ls[j] ∈ u.ls) := c2
                        have HNS2 : Hid (sumE (l.take (i' + 1)) x.s x.ls[j] = s') := Lib.hid (by rw [HNS.out, if_neg (fun h => HC2.out h.2), Int.add_zero])
                        have HUS : Hid (∀ wz, Below wr.heap.size wr wz → Calls Try.prog 37 #[(⟨u.A, u.c, u.ls, 0⟩ : Fm).val, .int .i64 t] wz fun e w' => e = .returned (.bool false) ∧ Below wr.heap.size wr w' ∧ (w'.cell? (ad.add (i' * 3)) = some (.slice u.A u.ls.length u.c) ∧ w'.cell? ⟨(ad.add (i' * 3)).block, (ad.add (i' * 3)).off + 2, none⟩ = some (.int .i64 u.s) ∧ w'.cell? ⟨(ad.add (k * 3)).block, (ad.add (k * 3)).off + 2, none⟩ = some (.int .i64 x.s))) := Lib.hid (fun wz hz => (ruses_any wz ⟨u.A, u.c, u.ls, 0⟩ t false ⟨(HUO.out.below hz).is, by show (-9223372036854775808 : Int) ≤ 0 ∧ (0 : Int) ≤ 9223372036854775807; decide⟩ (decide_eq_false (by rw [← HT.out]; exact HC2.out))).mono (fun e w' h => by
                          have hb := below_on hz h.2 hz.size
                          exact ⟨h.1, hb, (hb.cell (World.block_lt_of_cell? wr _ hd0)).trans hd0, (hb.cell (World.block_lt_of_cell? wr _ hd2)).trans hd2, (hb.cell (World.block_lt_of_cell? wr _ tc2)).trans tc2⟩))
                        clear c2
                        go_region_held3 (fun w' => w'.cell? (ad.add (i' * 3)) = some (.slice u.A u.ls.length u.c) ∧ w'.cell? ⟨(ad.add (i' * 3)).block, (ad.add (i' * 3)).off + 2, none⟩ = some (.int .i64 u.s) ∧ w'.cell? ⟨(ad.add (k * 3)).block, (ad.add (k * 3)).off + 2, none⟩ = some (.int .i64 x.s))
                          (first | exact ⟨hd0, hd2, tc2⟩ | assumption | go_keep)
                          (first | (go_at_call 37
                                    with_reducible refine (HUS.out _ (by with_reducible first | exact Below.refl _ _ | exact (Below.refl _ _).drew)).mono ?_
                                    rintro e wn ⟨rfl, bb, kc⟩))
                        all_goals
                          replace bw := below_on bw bb bw.size
                          clear hd0 hd1 hd2 tc0 tc1 tc2 kc bb
                          go_wp2_with fail
                          go_roundw
                          case rel => exact ⟨i' + 1, s', by omega, by go_num, rfl, HNS2.out, bw⟩
                          case measure => simp [intOf]; omega
                    · have c1' : decide (x.s ≤ u.s) = false := decide_eq_false c1
                      have HC1 : Hid (¬ x.s ≤ u.s) := c1
                      have HNS2 : Hid (sumE (l.take (i' + 1)) x.s x.ls[j] = s') := Lib.hid (by rw [HNS.out, if_neg (fun h => HC1.out h.1), Int.add_zero])
                      clear c1
                      go_quiet (fail)
                      go_wp2_with fail
                      go_roundw
                      case rel => exact ⟨i' + 1, s', by omega, by go_num, rfl, HNS2.out, below_drewN bw _⟩
                      case measure => simp [intOf]; omega
                  · have HSA : Hid (sumE l x.s x.ls[j] = s') := Lib.hid (by have := HSUM.out; rwa [List.take_of_length_le (by omega)] at this)
                    obtain ⟨ac, hac, _, hcc⟩ := (HA.out.below bw).at t htn
                    injection hac with hac
                    subst hac
                    have u2 := upM_bd hsb1 HCAP.out
                    obtain ⟨q, hq⟩ : ∃ q, upM s' caps[t] = q := ⟨_, rfl⟩
                    rw [hq] at u2
                    have CQ : ∀ wz, Calls Try.prog 36 #[.int .i64 s', .int .i64 caps[t]] wz fun e w' => e = .returned (.int .i64 q) ∧ wz = w' := fun wz => by rw [← hq]; exact rup_any wz _ _ hsb1 HCAP.out (by omega) HCAP2.out
                    have HCQ := Lib.hid CQ
                    have HBE : Hid (bndE caps l x.tr b2 x.ls[j] = max b3 (x.s + q)) := Lib.hid (by rw [bndE, HCE.out, ← HB3.out, ← HP.out]; show max (max b2 (x.s + upM x.b caps[t])) (x.s + upM (sumE l x.s x.ls[j]) caps[t]) = _; rw [HSA.out, hq])
                    have w2' : IntKind.i64.wrap (x.s + q) = x.s + q := IntWalk.i64_in _ (by omega)
                    have HBE2 := Lib.hid (bndE_bd (caps := caps) (l := l) (t := x.tr) (best := b2) (e := x.ls[j]) HV.out.1.1 (by omega) HOKT.out (by rw [HCE.out]; exact HCAP.out) (by rw [HCE.out]; exact HCAP2.out) HBB.out)
                    clear CQ hq HSUM
                    go_wp2_with fail
                    by_cases m2 : b3 < x.s + q
                    · have HR : Hid (bndE caps l x.tr b2 x.ls[j] = x.s + q) := Lib.hid (by rw [HBE.out]; omega)
                      skip
                      go_region_held3 (fun w' => w'.cell? ⟨(ad.add (k * 3)).block, (ad.add (k * 3)).off + 2, none⟩ = some (.int .i64 x.s) ∧ w'.cell? (ac.add t) = some (.int .i64 caps[t]))
                        (first | exact ⟨tc2, hcc⟩ | go_keep)
                        (first
                          | (go_at_call 36
                             with_reducible refine (HCQ.out _).mono ?_
                             rintro e wn ⟨rfl, rfl⟩))
                      all_goals
                        go_wp2_with fail
                        go_roundg (x.ls.length - (j + 1))
                        case rel => exact ⟨j + 1, x.s + q, by omega, by go_num, rfl, by rw [HNB.out, HR.out], by rw [← HR.out]; exact HBE2.out, below_drewN bw 1⟩
                        case measure => omega
                    · have HR : Hid (bndE caps l x.tr b2 x.ls[j] = b3) := Lib.hid (by rw [HBE.out]; omega)
                      skip
                      go_region_held3 (fun w' => w'.cell? ⟨(ad.add (k * 3)).block, (ad.add (k * 3)).off + 2, none⟩ = some (.int .i64 x.s) ∧ w'.cell? (ac.add t) = some (.int .i64 caps[t]))
                        (first | exact ⟨tc2, hcc⟩ | go_keep)
                        (first
                          | (go_at_call 36
                             with_reducible refine (HCQ.out _).mono ?_
                             rintro e wn ⟨rfl, rfl⟩))
                      all_goals
                        go_wp2_with fail
                        go_roundg (x.ls.length - (j + 1))
                        case rel => exact ⟨j + 1, b3, by omega, by go_num, rfl, by rw [HNB.out, HR.out], by rw [← HR.out]; exact HBE2.out, below_drewN bw 1⟩
                        case measure => omega
            · have HF : Hid ((l.take (k + 1)).foldl (bndT caps l) 0 = b2) := Lib.hid (by
                rw [HNX.out, bndT, if_neg HZ.out, HB1.out, ← HB2.out]
                show x.ls.foldl _ _ = _
                rw [List.take_of_length_le (by omega)])
              clear hXw
              go_wp2_with fail
              go_roundg (ts.length - (k + 1))
              case rel => exact ⟨k + 1, b2, by omega, by go_num, rfl, HF.out, bw⟩
              case measure => omega
    · have HF : Hid (boundM caps l = b) := Lib.hid (by
        have := HB.out
        rw [List.take_of_length_le (by omega)] at this
        exact this)
      go_wp2_with fail
      go_ret2
      exact ⟨by rw [HF.out]; rfl, bw⟩
theorem rbound_any (w : World) (A : Option Addr) (n c : Nat) (caps : List Int) (D : Option Addr) (m d : Nat) (ts : List Tm) (hA : Is w A c caps) (hD : Ts w D d ts) (hn : n = caps.length) (hm : m = ts.length) (h60 : ts.length ≤ 60) :
    Calls Try.prog 22 #[.slice A n c, .slice D m d] w fun e w' => e = .returned (.tuple #[.int .i64 (if checkM caps (ts.map Tm.tr) = 0 then boundM caps (ts.map Tm.tr) else 0), .int .i64 (checkM caps (ts.map Tm.tr))]) ∧ Below w.heap.size w w' := by
  by_cases h : checkM caps (ts.map Tm.tr) = 0
  · have := rbound_ok w A n c caps D m d ts hA hD hn hm h60 _ rfl h
    rw [if_pos h, h]; exact this
  · rw [if_neg h]
    exact rbound_bad w A n c caps D m d ts hA hD hn hm h60 _ rfl h
end Go.Proofs.Ytgjhjdjbhmblmaa
