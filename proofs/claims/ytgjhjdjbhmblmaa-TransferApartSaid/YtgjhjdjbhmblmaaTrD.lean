/- The least number of ticks as a plain number; the walk of transfer.Bound. -/
import Derived.Test.YtgjhjdjbhmblmaaTrC
import Derived.IntWalk
import Derived.Laws.Cover1
namespace Go.Proofs.Ytgjhjdjbhmblmaa
open Go.RowKit

/-- the bytes over a link of the transfers that do not start before a tick -/
def sumE : List Tr → Int → Int → Int
  | [], _, _ => 0
  | u :: l, s, e => (if s ≤ u.2.2 ∧ e ∈ u.1 then u.2.1 else 0) + sumE l s e
def bndE (caps : List Int) (l : List Tr) (t : Tr) (best e : Int) : Int := max (max best (t.2.2 + upM t.2.1 (caps.getD e.toNat 0))) (t.2.2 + upM (sumE l t.2.2 e) (caps.getD e.toNat 0))
def bndS (t : Tr) (best : Int) : Int := if t.1 = [] then max best (t.2.2 + 1) else best
def bndT (caps : List Int) (l : List Tr) (best : Int) (t : Tr) : Int := if t.2.1 = 0 then best else t.1.foldl (bndE caps l t) (bndS t best)
/-- the ticks that all need -/
def boundM (caps : List Int) (l : List Tr) : Int := l.foldl (bndT caps l) 0
theorem foldl_take_succ {α β : Type} (f : β → α → β) (b : β) (xs : List α) (k : Nat) (h : k < xs.length) : (xs.take (k + 1)).foldl f b = f ((xs.take k).foldl f b) xs[k] := by
  rw [List.take_succ_eq_append_getElem h, List.foldl_append]; rfl
theorem sumE_append (l m : List Tr) (s e : Int) : sumE (l ++ m) s e = sumE l s e + sumE m s e := by
  induction l with
  | nil => simp [sumE]
  | cons u l ih => simp only [List.cons_append, sumE, ih]; omega
theorem sumE_take_succ (l : List Tr) (s e : Int) (k : Nat) (h : k < l.length) : sumE (l.take (k + 1)) s e = sumE (l.take k) s e + if s ≤ l[k].2.2 ∧ e ∈ l[k].1 then l[k].2.1 else 0 := by
  rw [List.take_succ_eq_append_getElem h, sumE_append]; simp [sumE]
theorem sumE_bd {l : List Tr} (h : ∀ t ∈ l, trOk t) (s e : Int) : 0 ≤ sumE l s e ∧ sumE l s e ≤ 4096 * l.length := by
  induction l with
  | nil => simp [sumE]
  | cons u l ih =>
    have h0 := h u (by simp)
    have := ih (fun t ht => h t (List.mem_cons_of_mem _ ht))
    simp only [sumE, List.length_cons]
    split <;> (have := h0.1; have := h0.2.1; omega)
theorem upM_bd {a b : Int} (ha : 0 ≤ a) (hb : 0 < b) : 0 ≤ upM a b ∧ upM a b ≤ a + b := by
  have h2 : 0 ≤ (a + b - 1) / b := Int.ediv_nonneg (by omega) (by omega)
  have h3 : (a + b - 1) / b ≤ a + b - 1 := Int.ediv_le_self b (by omega)
  unfold upM; omega
/-- how great a bound may be -/
def bdB : Int := 1000000
theorem bndE_bd {caps : List Int} {l : List Tr} {t : Tr} {best e : Int} (hl : ∀ t ∈ l, trOk t) (hn : l.length ≤ 60) (ht : trOk t) (hc : 0 < caps.getD e.toNat 0) (hc2 : caps.getD e.toNat 0 ≤ 4096) (hb : 0 ≤ best ∧ best ≤ bdB) : 0 ≤ bndE caps l t best e ∧ bndE caps l t best e ≤ bdB := by
  have h1 := upM_bd ht.1 hc
  have h2 := sumE_bd hl t.2.2 e
  have h3 := upM_bd h2.1 hc
  have := ht.2.1
  have := ht.2.2
  unfold bndE bdB at *
  omega
theorem fold_bd {caps : List Int} {l : List Tr} {t : Tr} (hl : ∀ t ∈ l, trOk t) (hn : l.length ≤ 60) (ht : trOk t) (es : List Int) (hc : ∀ e ∈ es, 0 < caps.getD e.toNat 0 ∧ caps.getD e.toNat 0 ≤ 4096) : ∀ best : Int, 0 ≤ best ∧ best ≤ bdB → 0 ≤ es.foldl (bndE caps l t) best ∧ es.foldl (bndE caps l t) best ≤ bdB := by
  induction es with
  | nil => intro best h; exact h
  | cons e es ih =>
    intro best h
    have := hc e (by simp)
    exact ih (fun e he => hc e (List.mem_cons_of_mem _ he)) _ (bndE_bd hl hn ht this.1 this.2 h)
theorem bndS_bd {t : Tr} {best : Int} (ht : trOk t) (h : 0 ≤ best ∧ best ≤ bdB) : 0 ≤ bndS t best ∧ bndS t best ≤ bdB := by
  have := ht.2.2
  unfold bndS bdB at *
  split <;> omega
theorem bndT_bd {caps : List Int} {l : List Tr} {t : Tr} {best : Int} (hl : ∀ t ∈ l, trOk t) (hn : l.length ≤ 60) (ht : trOk t) (hc : t.2.1 ≠ 0 → ∀ e ∈ t.1, 0 < caps.getD e.toNat 0 ∧ caps.getD e.toNat 0 ≤ 4096) (h : 0 ≤ best ∧ best ≤ bdB) : 0 ≤ bndT caps l best t ∧ bndT caps l best t ≤ bdB := by
  unfold bndT
  split
  · exact h
  · rename_i h0
    exact fold_bd hl hn ht _ (hc h0) _ (bndS_bd ht h)
theorem caps_pos {caps : List Int} {l : List Tr} (hv : validTr caps l) (hns : ∀ x ∈ l, ¬ stuckT caps x) {t : Tr} (ht : t ∈ l) (h0 : t.2.1 ≠ 0) : ∀ e ∈ t.1, 0 < caps.getD e.toNat 0 ∧ caps.getD e.toNat 0 ≤ 4096 := by
  intro e he
  have h1 := (hv.links ht).mem he
  have h2 : e.toNat < caps.length := by omega
  have h3 := hv.2.2.2.1 _ (List.getElem_mem h2)
  have h4 := (hv.1 t ht).1
  have h5 : caps.getD e.toNat 0 ≠ 0 := fun h => hns t ht ⟨by omega, e, he, h⟩
  rw [getD_lt _ _ _ h2] at h5 ⊢
  omega
theorem boundTo_bd {caps : List Int} {l : List Tr} (hv : validTr caps l) (hns : ∀ x ∈ l, ¬ stuckT caps x) (hn : l.length ≤ 60) (k : Nat) (hk : k ≤ l.length) : 0 ≤ (l.take k).foldl (bndT caps l) 0 ∧ (l.take k).foldl (bndT caps l) 0 ≤ bdB := by
  induction k with
  | zero => simp [bdB]
  | succ k ih =>
    rw [foldl_take_succ _ _ _ _ hk]
    exact bndT_bd hv.1 hn (hv.1 _ (List.getElem_mem hk)) (fun h0 => caps_pos hv hns (List.getElem_mem hk) h0) (ih (by omega))
theorem tbound_bad (w : World) (A : Option Addr) (n c : Nat) (caps : List Int) (D : Option Addr) (m d : Nat) (ts : List Tm) (hA : Is w A c caps) (hD : Ts w D d ts) (hn : n = caps.length) (hm : m = ts.length) (h60 : ts.length ≤ 60) (E : Int) (hE : checkM caps (ts.map Tm.tr) = E) (h0 : E ≠ 0) :
    Calls Try.prog 14 #[.slice A n c, .slice D m d] w fun e w' => e = .returned (.tuple #[.int .i64 0, .int .i64 E]) ∧ Below w.heap.size w w' := by
  have HA := Lib.hid hA; clear hA
  have HD := Lib.hid hD; clear hD
  have HE := Lib.hid hE; clear hE
  subst hn hm
  have h0' : (E == 0) = false := beq_eq_false_iff_ne.2 h0
  have h0'' : (E != 0) = true := by simp [h0]
  clear h0
  go_enter Try.func14, Try.ntmps14
  go_wp2_with fail
  refine (tcheck_any w A _ c caps D _ d ts HA.out HD.out rfl rfl h60).mono ?_
  rw [HE.out]
  rintro e w1 ⟨rfl, bb⟩
  go_wp2_with fail
  go_ret2
  exact ⟨rfl, bb⟩
set_option maxRecDepth 100000 in
set_option maxHeartbeats 4000000 in
theorem tbound_ok (w : World) (A : Option Addr) (n c : Nat) (caps : List Int) (D : Option Addr) (m d : Nat) (ts : List Tm) (hA : Is w A c caps) (hD : Ts w D d ts) (hn : n = caps.length) (hm : m = ts.length) (h60 : ts.length ≤ 60) (l : List Tr) (hl : ts.map Tm.tr = l) (hE : checkM caps l = 0) :
    Calls Try.prog 14 #[.slice A n c, .slice D m d] w fun e w' => e = .returned (.tuple #[.int .i64 (boundM caps l), .int .i64 0]) ∧ Below w.heap.size w w' := by
  have HA := Lib.hid hA; clear hA
  have HD := Lib.hid hD; clear hD
  have HL := Lib.hid hl
  have HE : Hid (checkM caps (ts.map Tm.tr) = 0) := Lib.hid (by rw [hl]; exact hE)
  have HV : Hid (validTr caps l ∧ ∀ x ∈ l, ¬ stuckT caps x) := Lib.hid (by
    unfold checkM at hE
    by_cases hv : validTr caps l
    · rw [if_pos hv] at hE
      refine ⟨hv, fun x hx hs => ?_⟩
      rw [if_pos ⟨x, hx, hs⟩] at hE; omega
    · rw [if_neg hv] at hE; omega)
  have l0 : l.length = ts.length := by rw [← hl, List.length_map]
  clear hl hE
  subst hn hm
  go_enter Try.func14, Try.ntmps14
  go_wp2_with fail
  refine (tcheck_any w A _ c caps D _ d ts HA.out HD.out rfl rfl h60).mono ?_
  rw [HE.out]
  rintro e w1 ⟨rfl, bw0⟩
  go_wp2_with fail
  go_loopg [7, 23] ts.length (fun kn bv i wr => ∃ (k : Nat) (b : Int), kn + k = ts.length ∧ i = .int .i64 k ∧ bv = .int .i64 b ∧ (l.take k).foldl (bndT caps l) 0 = b ∧ Below w.heap.size w wr)
  case atStart => exact ⟨0, 0, by omega, rfl, rfl, rfl, bw0⟩
  case round =>
    clear bw0
    obtain ⟨k, b, hk, rfl, rfl, hb, bw⟩ := hrel
    have HB := Lib.hid hb
    clear hb
    by_cases hlt : k < ts.length
    · obtain ⟨ad, rfl, hc0, hc1, hc2, hok⟩ := (HD.out.below bw).at k hlt
      have hkl : k < l.length := by rw [l0]; exact hlt
      have HG : Hid (l[k] = ts[k].tr) := Lib.hid (by
        have : l.getD k ([], 0, 0) = ts[k].tr := by rw [← HL.out, getD_tr, getD_lt _ _ _ hlt]
        rwa [getD_lt _ _ _ hkl] at this)
      have HNX : Hid ((l.take (k + 1)).foldl (bndT caps l) 0 = bndT caps l b ts[k].tr) := Lib.hid (by rw [foldl_take_succ _ _ _ _ hkl, HB.out, HG.out])
      have hbd := boundTo_bd HV.out.1 HV.out.2 (by omega) k (by omega)
      rw [HB.out] at hbd
      have HOKT : Hid (trOk ts[k].tr) := Lib.hid (by rw [← HG.out]; exact HV.out.1.1 _ (List.getElem_mem hkl))
      have HXM : Hid (ts[k] ∈ ts) := Lib.hid (List.getElem_mem hlt)
      have HMEM : Hid (ts[k].tr ∈ l) := Lib.hid (by rw [← HG.out]; exact List.getElem_mem hkl)
      obtain ⟨x, hx⟩ : ∃ x, ts[k] = x := ⟨_, rfl⟩
      rw [hx] at hc0 hc1 hc2 hok HNX HOKT HMEM HXM
      go_upto_region 8 with fail
      have tb := (tb_alloc wr x 26).1
      have bb := (tb_alloc wr x 26).2
      have HX := Lib.hid (hok.below bb)
      clear hc0 hc1 hc2 hok hx HG
      generalize (wr.alloc (.cells #[.slice x.A x.ls.length x.c, .int .i64 x.b, .int .i64 x.s] 26)) = wm at tb bb HX ⊢
      replace bw := below_on bw bb bw.size
      clear bb
      generalize wr.heap.size = gT at *
      have tc0 := tb.c0
      have tc1 := tb.c1
      have tc2 := tb.c2
      have hxl := HX.out.is.len
      have hbd1 : 0 ≤ b := hbd.1
      have hbd2 : b ≤ 1000000 := hbd.2
      have hs1 : 0 ≤ x.s := HOKT.out.2.2.1
      have hs2 : x.s ≤ 4096 := HOKT.out.2.2.2
      have hb1 : 0 ≤ x.b := HOKT.out.1
      have hb2 : x.b ≤ 4096 := HOKT.out.2.1
      have HBD := Lib.hid hbd
      clear hbd
      by_cases hz : x.b = 0
      · have hz' : (x.b == 0) = true := by simp [hz]
        have HNX2 : Hid ((l.take (k + 1)).foldl (bndT caps l) 0 = b) := Lib.hid (by rw [HNX.out, bndT, if_pos hz])
        clear hz
        go_wp2_with fail
        go_roundg (ts.length - (k + 1))
        case rel => exact ⟨k + 1, b, by omega, by go_num, rfl, HNX2.out, bw⟩
        case measure => omega
      · have hz' : (x.b == 0) = false := beq_eq_false_iff_ne.2 hz
        have HZ : Hid (¬ x.b = 0) := hz
        clear hz
        go_upto_if 33 with fail
        have e1 : IntKind.i64.wrap (x.s + 1) = x.s + 1 := IntWalk.i64_in _ (by omega)
        go_cut [7] (fun s7 w' => s7 = .int .i64 (bndS x.tr b) ∧ w' = wm)
        case first =>
          by_cases he : x.ls.length = 0
          · have he' : ((x.ls.length : Int) == 0) = true := by simp [he]
            have HEE : Hid (x.ls = []) := Lib.hid (List.eq_nil_of_length_eq_zero he)
            clear he
            by_cases hm : b < x.s + 1
            · have HM : Hid (bndS x.tr b = x.s + 1) := Lib.hid (by rw [bndS, if_pos HEE.out]; show max b (x.s + 1) = _; omega)
              go_wp2_with fail
              go_meet
              case rel => exact ⟨by rw [HM.out], rfl⟩
            · have HM : Hid (bndS x.tr b = b) := Lib.hid (by rw [bndS, if_pos HEE.out]; show max b (x.s + 1) = _; omega)
              go_wp2_with fail
              go_meet
              case rel => exact ⟨by rw [HM.out], rfl⟩
          · have he' : ((x.ls.length : Int) == 0) = false := beq_eq_false_iff_ne.2 (by omega)
            have HM : Hid (bndS x.tr b = b) := Lib.hid (by rw [bndS, if_neg (fun h => he (by have : x.ls = [] := h; rw [this]; rfl))])
            clear he
            go_wp2_with fail
            go_meet
            case rel => exact ⟨by rw [HM.out], rfl⟩
        case rest =>
          obtain ⟨rfl, rfl⟩ := hcut
          have HBS := Lib.hid (bndS_bd HOKT.out HBD.out)
          obtain ⟨b1, hb1'⟩ : ∃ b1, bndS x.tr b = b1 := ⟨_, rfl⟩
          rw [hb1'] at HBS ⊢
          have HB1 := Lib.hid hb1'
          clear hb1' e1
          go_wp2_with fail
          go_loopg [7, 42] x.ls.length (fun jn bv i wr => ∃ (j : Nat) (b2 : Int), jn + j = x.ls.length ∧ i = .int .i64 j ∧ bv = .int .i64 b2 ∧ (x.ls.take j).foldl (bndE caps l x.tr) b1 = b2 ∧ (0 ≤ b2 ∧ b2 ≤ bdB) ∧ Tb wr gT x ∧ Below w.heap.size w wr)
          case atStart => exact ⟨0, b1, by omega, rfl, rfl, rfl, HBS.out, tb, bw⟩
          case round =>
            clear tb bw tc0 tc1 tc2
            obtain ⟨j, b2, hj, rfl, rfl, hb2', hbb, tb, bw⟩ := hrel
            have HB2 := Lib.hid hb2'
            have HBB := Lib.hid hbb
            have q1 : 0 ≤ b2 := hbb.1
            have q2 : b2 ≤ 1000000 := hbb.2
            have tc0 := tb.c0
            have tc1 := tb.c1
            have tc2 := tb.c2
            clear hb2' hbb
            have hXw : x.ok wr := (HD.out.below bw).ok x HXM.out
            by_cases hjt : j < x.ls.length
            · obtain ⟨ae, hae, _, hce⟩ := hXw.is.at j hjt
              have HEM : Hid (x.ls[j] ∈ x.tr.1) := Lib.hid (List.getElem_mem hjt)
              have hcp := caps_pos HV.out.1 HV.out.2 HMEM.out HZ.out _ HEM.out
              have hlk := (HV.out.1.links HMEM.out).mem HEM.out
              obtain ⟨t, ht⟩ : ∃ t : Nat, x.ls[j] = (t : Int) := ⟨(x.ls[j]).toNat, by omega⟩
              have htn : t < caps.length := by omega
              have HCE : Hid (caps.getD (x.ls[j]).toNat 0 = caps[t]) := Lib.hid (by rw [ht, Int.toNat_natCast, getD_lt _ _ _ htn])
              rw [HCE.out] at hcp
              have hcp1 : 0 < caps[t] := hcp.1
              have hcp2 : caps[t] ≤ 4096 := hcp.2
              have HNB : Hid ((x.ls.take (j + 1)).foldl (bndE caps l x.tr) b1 = bndE caps l x.tr b2 x.ls[j]) := Lib.hid (by rw [foldl_take_succ _ _ _ _ hjt, HB2.out])
              rw [hae] at tc0
              have HT := Lib.hid ht
              rw [ht] at hce
              clear hcp hlk hXw
              go_upto_region 14 with fail
              rw [← hae] at tc0
              clear hce hae
              go_wp2_with fail
              go_loopw [12, 48] (fun sv i wr => ∃ (i' : Nat) (s' : Int), i' ≤ ts.length ∧ i = .int .i64 i' ∧ sv = .int .i64 s' ∧ sumE (l.take i') x.s x.ls[j] = s' ∧ Tb wr gT x ∧ Below w.heap.size w wr) (fun _ i _ => ts.length - (intOf i).toNat)
              case atStart => exact ⟨0, 0, by omega, rfl, rfl, rfl, tb, bw⟩
              case round =>
                clear tb bw tc0 tc1 tc2
                obtain ⟨i', s', hi', rfl, rfl, hsum, tb, bw⟩ := hrel
                have HSUM := Lib.hid hsum
                have hsb := sumE_bd (l := l.take i') (fun t ht => HV.out.1.1 t (List.mem_of_mem_take ht)) x.s x.ls[j]
                rw [hsum] at hsb
                have hsb1 : 0 ≤ s' := hsb.1
                have hsb2 : s' ≤ 300000 := by
                  have := hsb.2
                  rw [List.length_take, l0] at this
                  omega
                have tc0 := tb.c0
                have tc1 := tb.c1
                have tc2 := tb.c2
                clear hsum hsb
                by_cases hlt2 : i' < ts.length
                · obtain ⟨ad', had, hd0, hd1, hd2, hok⟩ := (HD.out.below bw).at i' hlt2
                  injection had with had
                  subst had
                  have hkl2 : i' < l.length := by rw [l0]; exact hlt2
                  have HG : Hid (l[i'] = ts[i'].tr) := Lib.hid (by
                    have : l.getD i' ([], 0, 0) = ts[i'].tr := by rw [← HL.out, getD_tr, getD_lt _ _ _ hlt2]
                    rwa [getD_lt _ _ _ hkl2] at this)
                  have HNS := Lib.hid (sumE_take_succ l x.s x.ls[j] i' hkl2)
                  rw [HG.out, HSUM.out] at HNS
                  have hub := HV.out.1.1 _ (List.getElem_mem hkl2)
                  rw [HG.out] at hub
                  obtain ⟨u, hu⟩ : ∃ u, ts[i'] = u := ⟨_, rfl⟩
                  rw [hu] at hd0 hd1 hd2 hok HNS hub
                  have hub1 : 0 ≤ u.b := hub.1
                  have hub2 : u.b ≤ 4096 := hub.2.1
                  clear hub hu HG
                  go_upto_region 18 with fail
                  have ub := (tb_alloc wr u 26).1
                  have bb := (tb_alloc wr u 26).2
                  have HUO := Lib.hid (hok.below bb)
                  replace tb := tb.below bb
                  clear hd0 hd1 hd2 hok tc0 tc1 tc2
                  generalize (wr.alloc (.cells #[.slice u.A u.ls.length u.c, .int .i64 u.b, .int .i64 u.s] 26)) = wm at ub bb HUO tb ⊢
                  replace bw := below_on bw bb bw.size
                  clear bb
                  generalize wr.heap.size = gU at *
                  have uc0 := ub.c0
                  have uc1 := ub.c1
                  have uc2 := ub.c2
                  have tc2 := tb.c2
                  by_cases c1 : x.s ≤ u.s
                  · have c1' : decide (x.s ≤ u.s) = true := decide_eq_true c1
                    have HC1 := Lib.hid c1
                    clear c1
                    by_cases c2 : x.ls[j] ∈ u.ls
                    · have HC2 := Lib.hid c2
                      have HNS2 : Hid (sumE (l.take (i' + 1)) x.s x.ls[j] = s' + u.b) := Lib.hid (by rw [HNS.out, if_pos ⟨HC1.out, HC2.out⟩])
                      clear c2
                      go_wp2_with fail
                      refine (uses_any wm u (t : Int) true HUO.out (decide_eq_true (by rw [← HT.out]; exact HC2.out))).mono ?_
                      rintro e wn ⟨rfl, bb⟩
                      replace ub := ub.below bb
                      replace tb := tb.below bb
                      replace bw := below_on bw bb bw.size
                      have uc1 := ub.c1
                      clear bb
                      go_wp2_with fail
                      go_roundw
                      case rel => exact ⟨i' + 1, s' + u.b, by omega, by go_num, rfl, HNS2.out, tb, bw⟩
                      case measure => simp [intOf]; omega
                    · have HC2 : Hid (¬ x.ls[j] ∈ u.ls) := c2
                      have HNS2 : Hid (sumE (l.take (i' + 1)) x.s x.ls[j] = s') := Lib.hid (by rw [HNS.out, if_neg (fun h => HC2.out h.2), Int.add_zero])
                      clear c2
                      go_wp2_with fail
                      refine (uses_any wm u (t : Int) false HUO.out (decide_eq_false (by rw [← HT.out]; exact HC2.out))).mono ?_
                      rintro e wn ⟨rfl, bb⟩
                      replace tb := tb.below bb
                      replace bw := below_on bw bb bw.size
                      clear bb
                      go_wp2_with fail
                      go_roundw
                      case rel => exact ⟨i' + 1, s', by omega, by go_num, rfl, HNS2.out, tb, bw⟩
                      case measure => simp [intOf]; omega
                  · have c1' : decide (x.s ≤ u.s) = false := decide_eq_false c1
                    have HC1 : Hid (¬ x.s ≤ u.s) := c1
                    have HNS2 : Hid (sumE (l.take (i' + 1)) x.s x.ls[j] = s') := Lib.hid (by rw [HNS.out, if_neg (fun h => HC1.out h.1), Int.add_zero])
                    clear c1
                    go_wp2_with fail
                    go_roundw
                    case rel => exact ⟨i' + 1, s', by omega, by go_num, rfl, HNS2.out, tb, bw⟩
                    case measure => simp [intOf]; omega
                · have HSA : Hid (sumE l x.s x.ls[j] = s') := Lib.hid (by have := HSUM.out; rwa [List.take_of_length_le (by omega)] at this)
                  obtain ⟨ac, hac, _, hcc⟩ := (HA.out.below bw).at t htn
                  subst hac
                  have hacap := HA.out.cap
                  have hamax := HA.out.max
                  have u1 := upM_bd hb1 hcp1
                  have u2 := upM_bd hsb1 hcp1
                  have HUB := Lib.hid u1
                  obtain ⟨p, hp⟩ : ∃ p, upM x.b caps[t] = p := ⟨_, rfl⟩
                  obtain ⟨q, hq⟩ : ∃ q, upM s' caps[t] = q := ⟨_, rfl⟩
                  rw [hp] at u1
                  rw [hq] at u2
                  have CP : ∀ wz, Calls Try.prog 30 #[.int .i64 x.b, .int .i64 caps[t]] wz fun e w' => e = .returned (.int .i64 p) ∧ wz = w' := fun wz => by rw [← hp]; exact up_any wz _ _ hb1 hcp1 (by omega) hcp2
                  have CQ : ∀ wz, Calls Try.prog 30 #[.int .i64 s', .int .i64 caps[t]] wz fun e w' => e = .returned (.int .i64 q) ∧ wz = w' := fun wz => by rw [← hq]; exact up_any wz _ _ hsb1 hcp1 (by omega) hcp2
                  have HCPp := Lib.hid CP
                  have HCQ := Lib.hid CQ
                  have HBE : Hid (bndE caps l x.tr b2 x.ls[j] = max (max b2 (x.s + p)) (x.s + q)) := Lib.hid (by rw [bndE, HCE.out]; show max (max b2 (x.s + upM x.b caps[t])) (x.s + upM (sumE l x.s x.ls[j]) caps[t]) = _; rw [HSA.out, hp, hq])
                  have w1' : IntKind.i64.wrap (x.s + p) = x.s + p := IntWalk.i64_in _ (by omega)
                  have w2' : IntKind.i64.wrap (x.s + q) = x.s + q := IntWalk.i64_in _ (by omega)
                  have HBE2 := Lib.hid (bndE_bd (caps := caps) (l := l) (t := x.tr) (best := b2) (e := x.ls[j]) HV.out.1.1 (by omega) HOKT.out (by rw [HCE.out]; exact hcp1) (by rw [HCE.out]; exact hcp2) HBB.out)
                  clear CP CQ hp hq HSUM
                  by_cases m1 : b2 < x.s + p
                  · by_cases m2 : x.s + p < x.s + q
                    · have HR : Hid (bndE caps l x.tr b2 x.ls[j] = x.s + q) := Lib.hid (by rw [HBE.out]; omega)
                      skip
                      go_wp2_with fail
                      go_region_held3 (fun w' => w'.cell? ⟨gT, 1, none⟩ = some (.int .i64 x.b) ∧ w'.cell? ⟨gT, 2, none⟩ = some (.int .i64 x.s) ∧ w'.cell? (ac.add t) = some (.int .i64 caps[t]))
                        (first | exact ⟨tc1, tc2, hcc⟩ | go_keep)
                        (first
                          | (go_at_call 30
                             with_reducible refine (HCPp.out _).mono ?_
                             rintro e wn ⟨rfl, rfl⟩)
                          | (go_at_call 30
                             with_reducible refine (HCQ.out _).mono ?_
                             rintro e wn ⟨rfl, rfl⟩))
                      all_goals
                        go_wp2_with fail
                        go_roundg (x.ls.length - (j + 1))
                        case rel => exact ⟨j + 1, x.s + q, by omega, by go_num, rfl, by rw [HNB.out, HR.out], by rw [← HR.out]; exact HBE2.out, tb.below (below_drewN (Below.refl _ _) 1), below_drewN bw 1⟩
                        case measure => omega
                    · have HR : Hid (bndE caps l x.tr b2 x.ls[j] = x.s + p) := Lib.hid (by rw [HBE.out]; omega)
                      skip
                      go_wp2_with fail
                      go_region_held3 (fun w' => w'.cell? ⟨gT, 1, none⟩ = some (.int .i64 x.b) ∧ w'.cell? ⟨gT, 2, none⟩ = some (.int .i64 x.s) ∧ w'.cell? (ac.add t) = some (.int .i64 caps[t]))
                        (first | exact ⟨tc1, tc2, hcc⟩ | go_keep)
                        (first
                          | (go_at_call 30
                             with_reducible refine (HCPp.out _).mono ?_
                             rintro e wn ⟨rfl, rfl⟩)
                          | (go_at_call 30
                             with_reducible refine (HCQ.out _).mono ?_
                             rintro e wn ⟨rfl, rfl⟩))
                      all_goals
                        go_wp2_with fail
                        go_roundg (x.ls.length - (j + 1))
                        case rel => exact ⟨j + 1, x.s + p, by omega, by go_num, rfl, by rw [HNB.out, HR.out], by rw [← HR.out]; exact HBE2.out, tb.below (below_drewN (Below.refl _ _) 1), below_drewN bw 1⟩
                        case measure => omega
                  · by_cases m2 : b2 < x.s + q
                    · have HR : Hid (bndE caps l x.tr b2 x.ls[j] = x.s + q) := Lib.hid (by rw [HBE.out]; omega)
                      skip
                      go_wp2_with fail
                      go_region_held3 (fun w' => w'.cell? ⟨gT, 1, none⟩ = some (.int .i64 x.b) ∧ w'.cell? ⟨gT, 2, none⟩ = some (.int .i64 x.s) ∧ w'.cell? (ac.add t) = some (.int .i64 caps[t]))
                        (first | exact ⟨tc1, tc2, hcc⟩ | go_keep)
                        (first
                          | (go_at_call 30
                             with_reducible refine (HCPp.out _).mono ?_
                             rintro e wn ⟨rfl, rfl⟩)
                          | (go_at_call 30
                             with_reducible refine (HCQ.out _).mono ?_
                             rintro e wn ⟨rfl, rfl⟩))
                      all_goals
                        go_wp2_with fail
                        go_roundg (x.ls.length - (j + 1))
                        case rel => exact ⟨j + 1, x.s + q, by omega, by go_num, rfl, by rw [HNB.out, HR.out], by rw [← HR.out]; exact HBE2.out, tb.below (below_drewN (Below.refl _ _) 1), below_drewN bw 1⟩
                        case measure => omega
                    · have HR : Hid (bndE caps l x.tr b2 x.ls[j] = b2) := Lib.hid (by rw [HBE.out]; omega)
                      skip
                      go_wp2_with fail
                      go_region_held3 (fun w' => w'.cell? ⟨gT, 1, none⟩ = some (.int .i64 x.b) ∧ w'.cell? ⟨gT, 2, none⟩ = some (.int .i64 x.s) ∧ w'.cell? (ac.add t) = some (.int .i64 caps[t]))
                        (first | exact ⟨tc1, tc2, hcc⟩ | go_keep)
                        (first
                          | (go_at_call 30
                             with_reducible refine (HCPp.out _).mono ?_
                             rintro e wn ⟨rfl, rfl⟩)
                          | (go_at_call 30
                             with_reducible refine (HCQ.out _).mono ?_
                             rintro e wn ⟨rfl, rfl⟩))
                      all_goals
                        go_wp2_with fail
                        go_roundg (x.ls.length - (j + 1))
                        case rel => exact ⟨j + 1, b2, by omega, by go_num, rfl, by rw [HNB.out, HR.out], by rw [← HR.out]; exact HBE2.out, tb.below (below_drewN (Below.refl _ _) 1), below_drewN bw 1⟩
                        case measure => omega
            · have HF : Hid ((l.take (k + 1)).foldl (bndT caps l) 0 = b2) := Lib.hid (by
                rw [HNX.out, bndT, if_neg HZ.out, HB1.out, ← HB2.out]
                show x.ls.foldl _ _ = _
                rw [List.take_of_length_le (by omega)])
              clear hXw
              go_wp2_with fail
              go_roundg (ts.length - (k + 1))
              case rel => exact ⟨k + 1, b2, by omega, by go_num, rfl, HF.out, bw⟩
              case measure => omega
    · have HF : Hid (boundM caps l = b) := Lib.hid (by
        have := HB.out
        rw [List.take_of_length_le (by omega)] at this
        exact this)
      go_wp2_with fail
      go_ret2
      exact ⟨by rw [HF.out]; rfl, bw⟩
end Go.Proofs.Ytgjhjdjbhmblmaa
