/- The walk of FairshareApart. -/
import Derived.Test.YthdfflbhogfejaaSwScales
import Derived.Test.YthdfflbhogfejaaSwOrder
import Derived.Test.YthdfflbhogfejaaSwOneLink
import Derived.Test.YthdfflbhogfejaaFuA
import Derived.Test.YthdfflbhogfejaaRaZ
namespace Go.Proofs.Ythdfflbhogfejaa
open Go.RowKit

set_option maxRecDepth 100000 in
theorem LinksOk.wide {n k : Nat} {ls : List Int} (h : LinksOk n ls) (hk : n ≤ k) : LinksOk k ls := fun i hi => by
  have h1 := h i hi
  exact ⟨h1.1, by omega, h1.2.2⟩
set_option maxRecDepth 100000 in
theorem LinksOk.shift {n k : Nat} {ls : List Int} (h : LinksOk n ls) : LinksOk (k + n) (ls.map ((k : Int) + ·)) := fun i hi => by
  have hi' : i < ls.length := by simpa using hi
  have h1 := h i hi'
  refine ⟨by rw [List.getElem_map]; omega, by rw [List.getElem_map]; omega, fun h0 => ?_⟩
  rw [List.getElem_map, List.getElem_map]
  have := h1.2.2 h0
  omega
set_option maxRecDepth 100000 in
theorem cpF_left {a b : List Int} {e : Int} (h0 : 0 ≤ e) (h1 : e < a.length) : cpF (a ++ b) e = cpF a e := by
  obtain ⟨t, rfl⟩ : ∃ t : Nat, e = (t : Int) := ⟨e.toNat, by omega⟩
  rw [cpF, cpF, Int.toNat_natCast, getD_app _ _ _ _ (by omega)]
set_option maxRecDepth 100000 in
theorem cpF_right {a b : List Int} {e : Int} (h0 : 0 ≤ e) : cpF (a ++ b) ((a.length : Int) + e) = cpF b e := by
  obtain ⟨t, rfl⟩ : ∃ t : Nat, e = (t : Int) := ⟨e.toNat, by omega⟩
  rw [cpF, cpF, ← Int.natCast_add, Int.toNat_natCast, Int.toNat_natCast, getD_right]
set_option maxRecDepth 100000 in
theorem valid_apart {a b : List Int} {l m : List Fl} (h1 : validFl a l) (h2 : validFl b m) (hc : a.length + b.length ≤ 64) (hl : m.length + l.length ≤ 48) : validFl (a ++ b) (shF a.length m ++ l) := by
  refine ⟨by rw [List.length_append]; exact hc, by rw [List.length_append, shF_len]; exact hl, fun c hc => ?_, fun f hf => ?_⟩
  · rcases List.mem_append.1 hc with h | h
    · exact h1.2.2.1 c h
    · exact h2.2.2.1 c h
  · rw [List.length_append]
    rcases List.mem_append.1 hf with h | h
    · obtain ⟨g, hg, rfl⟩ := List.mem_map.1 h
      have h3 := h2.2.2.2 g hg
      exact ⟨h3.1, h3.2.1, h3.2.2.shift⟩
    · have h3 := h1.2.2.2 f h
      exact ⟨h3.1, h3.2.1, h3.2.2.wide (by omega)⟩
set_option maxRecDepth 100000 in
theorem rates_apart {a b : List Int} {l m : List Fl} (h1 : validFl a l) (h2 : validFl b m) (h3 : validFl (a ++ b) (shF a.length m ++ l)) :
    ratesM (cpF (a ++ b)) (shF a.length m ++ l) (a ++ b).length = ratesM (cpF b) m b.length ++ ratesM (cpF a) l a.length := by
  have c3 := ratesM_cert h3.okR
  refine (Cert.unique h3.okR.lk ?_ c3).symm
  rw [List.length_append]
  refine Cert.apart (ca := cpF a) (cb := cpF b) h1.okR.lk h2.okR.lk (shF_len _ _) (fun i _ => ?_) (fun i _ => lm_shift _ _ _) (fun k h0 h4 => cpF_left h0 h4) (fun k h0 _ => by rw [Int.add_comm]; exact cpF_right h0) (ratesM_cert h1.okR) (ratesM_cert h2.okR)
  rw [lk_shift]
  congr 1
  funext x
  exact Int.add_comm _ _
set_option maxRecDepth 100000 in
theorem units_apartV {a b : List Int} {l m : List Fl} (h1 : validFl a l) (h2 : validFl b m) :
    unitsM (cpF (a ++ b)) (shF a.length m ++ l) = unitsM (cpF b) m ++ unitsM (cpF a) l :=
  units_apart (ca := cpF a) (cb := cpF b) h1.okR.lk h2.okR.lk (fun e h0 h4 => cpF_left h0 h4) (fun e h0 _ => cpF_right h0)
set_option maxRecDepth 100000 in
theorem shF_take (k : Int) (l : List Fl) {j : Nat} (hj : j < l.length) : shF k (l.take (j + 1)) = shF k (l.take j) ++ [((l[j].1).map (k + ·), l[j].2)] := by
  rw [List.take_succ_eq_append_getElem hj, shF, shF, List.map_append]; rfl
set_option maxRecDepth 100000 in
theorem below_al2 {w v : World} (h : Below w.heap.size w v) (o : Obj) : Below w.heap.size w (v.alloc o) := h.alloc h.size o
set_option maxRecDepth 100000 in
theorem rdi_at2 {v : World} {g : Nat} (x : Int) (e : TypeId) (hg : g = v.heap.size) : Rd iv (v.alloc (.cells #[.int .i64 x] e)) (some ⟨g, 0, none⟩) [x] := by subst hg; exact Rd.one v e x
set_option maxRecDepth 100000 in
theorem rdi_drew2 {v : World} {A : Option Addr} {xs : List Int} (h : Rd iv v A xs) : Rd iv v.drew A xs := h
set_option maxRecDepth 100000 in
set_option maxHeartbeats 4000000 in
theorem apart_walk (w : World) (A : Option Addr) (c : Nat) (cs : List Int) (C : Option Addr) (cc : Nat) (ds : List Int) (D : Option Addr) (d : Nat) (xs : List Int) (F : Option Addr) (f : Nat) (ys : List Int) (hA : Is w A c cs) (hC : Is w C cc ds) (hB : Is w D d xs) (hF : Is w F f ys) :
    Calls Try.prog 12 #[.slice A cs.length c, .slice C ds.length cc, .slice D xs.length d, .slice F ys.length f] w fun e w' => e = .returned (.bool true) ∧ Below w.heap.size w w' := by
  have HA := Lib.hid hA; clear hA
  have HB := Lib.hid hB; clear hB
  have HC := Lib.hid hC; clear hC
  have HF := Lib.hid hF; clear hF
  have bw := Below.refl w.heap.size w
  go_enter Try.func12, Try.ntmps12
  go_wp2_with fail
  refine (caps_any w A _ c cs HA.out rfl).mono ?_
  rintro e wn ⟨A1, c1, rfl, hI, bb⟩
  have HI1 := Lib.hid hI
  replace bw := below_on bw bb bw.size
  clear bb hI
  go_wp2_with fail
  refine (caps_any wn C _ cc ds (HC.out.below bw) rfl).mono ?_
  rintro e wo ⟨A2, c2, rfl, hI, bb⟩
  have HI2 := Lib.hid hI
  replace HI1 := Lib.hid (HI1.out.below bb)
  replace bw := below_on bw bb bw.size
  clear bb hI
  go_wp2_with fail
  refine (flowsL_walk wo D _ d xs (capsM cs).length (HB.out.below bw) rfl (by have := (capsM_len cs).2; omega)).mono ?_
  rintro e wt ⟨D1, d1, fs, rfl, hfm, hT, bb⟩
  have HT1 := Lib.hid hT
  replace HI1 := Lib.hid (HI1.out.below bb)
  replace HI2 := Lib.hid (HI2.out.below bb)
  replace bw := below_on bw bb bw.size
  have h7 : fs.length ≤ 7 := by
    have h1 := congrArg List.length hfm
    rw [List.length_map] at h1
    have h2 := flowsM_len xs (capsM cs).length
    omega
  have HV1 : Hid (validFl (capsM cs) (fs.map Fm.fl)) := Lib.hid (by rw [hfm]; exact flowsM_valid cs xs)
  clear bb hT hfm
  go_wp2_with fail
  refine (flowsL_walk wt F _ f ys (capsM ds).length (HF.out.below bw) rfl (by have := (capsM_len ds).2; omega)).mono ?_
  rintro e wu ⟨D2, d2, gs, rfl, hfm, hT, bb⟩
  have HT2 := Lib.hid hT
  replace HT1 := Lib.hid (HT1.out.below bb)
  replace HI1 := Lib.hid (HI1.out.below bb)
  replace HI2 := Lib.hid (HI2.out.below bb)
  replace bw := below_on bw bb bw.size
  have g7 : gs.length ≤ 7 := by
    have h1 := congrArg List.length hfm
    rw [List.length_map] at h1
    have h2 := flowsM_len ys (capsM ds).length
    omega
  have HV2 : Hid (validFl (capsM ds) (gs.map Fm.fl)) := Lib.hid (by rw [hfm]; exact flowsM_valid ds ys)
  clear bb hT hfm
  have hc5 := (capsM_len cs).2
  have hd5 := (capsM_len ds).2
  obtain ⟨ca, hca⟩ : ∃ a, capsM cs = a := ⟨_, rfl⟩
  obtain ⟨cb, hcb⟩ : ∃ a, capsM ds = a := ⟨_, rfl⟩
  rw [hca] at HI1 HV1 hc5 ⊢
  rw [hcb] at HI2 HV2 hd5 ⊢
  clear hca hcb
  have HBW := Lib.hid bw
  clear bw
  obtain ⟨i1, hi, hi0, hi1, hi2⟩ := info_parts int_info
  go_upto_region 4 with (first
    | (at_builtin; refine wpList_append_rd wu (mk := iv) (fun _ => rfl) rfl _ _ 22 rfl 3 i1 (iv 0) 8 Try.underlying22 hi hi0 hi1 hi2 rfl (B := wu.heap.size) (xs := []) rfl rfl (Gr.nil _ _) A1 ca.length c1 ca rfl rfl HI1.out.rd (by simp only [maxLen]; omega) (by omega) (Nat.le_refl _) ?_; intro A5 c5 w1 hg1 _ hb1 _)
    | (at_builtin; refine wpList_append_rd w1 (mk := iv) (fun _ => rfl) rfl _ _ 22 rfl 3 i1 (iv 0) 8 Try.underlying22 hi hi0 hi1 hi2 rfl (B := wu.heap.size) (xs := [] ++ ca) rfl (by simp) hg1 A2 cb.length c2 cb rfl rfl (HI2.out.below hb1).rd (by simp only [maxLen]; omega) (by omega) hb1.size ?_; intro A3 c3 w2 hg2 _ hb2 _))
  have hb12 : Below wu.heap.size wu w2 := hb1.trans hb2
  simp only [List.nil_append] at hg2
  have HI3 : Hid (Is w2 A3 c3 (ca ++ cb)) := Lib.hid (hg2.is (fun u hu => by rcases List.mem_append.1 hu with h | h; exact HI1.out.wf u h; exact HI2.out.wf u h))
  skip
  replace HI1 := Lib.hid (HI1.out.below hb12)
  replace HI2 := Lib.hid (HI2.out.below hb12)
  replace HT1 := Lib.hid (HT1.out.below hb12)
  replace HT2 := Lib.hid (HT2.out.below hb12)
  replace HBW := Lib.hid (below_on HBW.out hb12 HBW.out.size)
  clear hg1 hb1 hg2 hb2 hb12
  obtain ⟨na, hna⟩ : ∃ n, ca.length = n := ⟨_, rfl⟩
  have HNA := Lib.hid hna
  have hn5 : na ≤ 5 := by omega
  have HL2 : Hid (∀ i, ∀ h : i < gs.length, gs[i].ls.length ≤ 5 ∧ ∀ e ∈ gs[i].ls, 0 ≤ e ∧ e < 5) := Lib.hid (fun i h => by
    have h1 := (HV2.out.2.2.2 gs[i].fl (List.mem_map_of_mem (List.getElem_mem h))).2.2
    refine ⟨?_, fun e he => ?_⟩
    · have := links_few h1
      show gs[i].fl.1.length ≤ 5
      omega
    · have := h1.mem he
      omega)
  have HV3 := Lib.hid (valid_apart HV1.out HV2.out (by omega) (by simp; omega))
  have HD5 := Lib.hid hd5
  have HNC : Hid (ca.length = na) := Lib.hid hna
  rw [hna]
  clear hna hc5 hd5
  go_wp2_with fail
  go_loopw [14, 15] (fun s i wr => ∃ (j : Nat) (A4 : Option Addr) (c4 : Nat) (vs : List Fm), j ≤ gs.length ∧ i = .int .i64 (j : Int) ∧ s = .slice A4 vs.length c4 ∧ vs.length = j ∧ vs.map Fm.fl = shF na ((gs.map Fm.fl).take j) ∧ Fw wr w2.heap.size A4 c4 vs ∧ (∀ x ∈ vs, x.ok wr) ∧ apartW A4 vs ∧ (∀ x ∈ vs, ∀ b, x.A = some b → b.block < wr.heap.size) ∧ Below w2.heap.size w2 wr) (fun _ i _ => gs.length - (intOf i).toNat)
  case atStart => exact ⟨0, none, 0, [], by omega, rfl, rfl, rfl, by simp [shF], ⟨rfl, .inl ⟨rfl, rfl⟩⟩, by simp, (by intro x hx; cases hx), (by intro x hx; cases hx), Below.refl _ _⟩
  case round =>
    obtain ⟨j, A4, c4, vs, hj, rfl, rfl, hvl, hvm, hW, hO, hap, hblt, bz⟩ := hrel
    have HW := Lib.hid hW
    have HO := Lib.hid hO
    have HAP := Lib.hid hap
    have HBLT := Lib.hid hblt
    have HVM := Lib.hid hvm
    have HVLN := Lib.hid hvl
    have HBZ := Lib.hid bz
    clear hW hO hap hvm hvl hblt bz
    by_cases hlt : j < gs.length
    · obtain ⟨ad, rfl, _, hcc⟩ := (HT2.out.below HBZ.out).rd (by omega)
      obtain ⟨tc0, tc1⟩ := hcc j hlt
      have hls := HL2.out j hlt
      have hwf := (HT2.out.ok _ (List.getElem_mem hlt)).wf
      have HTK := Lib.hid (shF_take (na : Int) (gs.map Fm.fl) (j := j) (by rw [List.length_map]; exact hlt))
      rw [List.getElem_map] at HTK
      obtain ⟨x, hx⟩ : ∃ x, gs[j] = x := ⟨_, rfl⟩
      rw [hx] at tc0 tc1 hls hwf HTK
      have HX := Lib.hid hx
      have HLX := Lib.hid hls.2
      have HLL := Lib.hid hls.1
      have HWF := Lib.hid hwf
      have hcapU := HT2.out.cap
      have hjI : (j : Int) < (gs.length : Int) := by omega
      clear hx hls hwf hcc
      go_upto_region 9 with fail
      have HB4 := Lib.hid ((Below.refl wr.heap.size wr).alloc (Nat.le_refl _) (.cells #[.slice none 0 0, .int .i64 x.m] 48))
      obtain ⟨hq4, _, hz4⟩ := bk2_alloc wr (.slice none 0 0) (.int .i64 x.m) 48
      have HQ4 := Lib.hid hq4
      clear tc0 tc1 hq4
      generalize (wr.alloc (.cells #[.slice none 0 0, .int .i64 x.m] 48)) = w4 at HB4 HQ4 hz4 ⊢
      obtain ⟨gT, hgT⟩ : ∃ g, wr.heap.size = g := ⟨_, rfl⟩
      have HGT := Lib.hid hgT
      rw [hgT] at HB4 HQ4 hz4 ⊢
      have HZ4 := Lib.hid hz4
      clear hgT hz4
      have HBZ4 : Hid (Below w2.heap.size w2 w4 ∧ w2.heap.size ≤ gT) := Lib.hid ⟨HBZ.out.trans (HB4.out.mono (by rw [← HGT.out]; exact HBZ.out.size)), by rw [← HGT.out]; exact HBZ.out.size⟩
      go_wp2_with fail
      go_loopw [17] (fun kv wz => ∃ (k : Nat) (AK : Option Addr) (cK : Nat), k ≤ x.ls.length ∧ kv = .int .i64 (k : Int) ∧ Bk2 wz gT (.slice AK k cK) (.int .i64 x.m) ∧ Gr iv 3 wz (gT + 1) AK cK ((x.ls.take k).map fun e => (na : Int) + e) ∧ Below gT w4 wz ∧ gT + 1 ≤ wz.heap.size) (fun kv _ => x.ls.length - (intOf kv).toNat)
      case atStart => exact ⟨0, none, 0, by omega, rfl, HQ4.out, Gr.nil _ _, Below.refl _ _, by rw [HZ4.out]; exact Nat.le_refl _⟩
      case round =>
        clear HQ4
        obtain ⟨k, AK, cK, hk, rfl, hq, hK, hb, hsz⟩ := hrel
        have HTQ := Lib.hid hq
        have HK := Lib.hid hK
        have HBK := Lib.hid hb
        have HSZ := Lib.hid hsz
        have HBZ5 := Lib.hid (HBZ4.out.1.trans (hb.mono HBZ4.out.2))
        clear hq hK hb hsz
        obtain ⟨ad0, had, _, hcc⟩ := (HT2.out.below HBZ5.out).rd (by omega)
        injection had with had
        subst had
        obtain ⟨tc0, tc1⟩ := hcc j hlt
        have hokx := (HT2.out.below HBZ5.out).ok _ (List.getElem_mem hlt)
        rw [HX.out] at tc0 tc1 hokx
        clear hcc
        by_cases hkx : k < x.ls.length
        · obtain ⟨ae, hae, hab, ce⟩ := hokx.is.at k hkx
          have hel := HLX.out _ (List.getElem_mem hkx)
          obtain ⟨ev, hev⟩ : ∃ ev, x.ls[k] = ev := ⟨_, rfl⟩
          have hxc := hokx.is.cap
          rw [hev] at ce hel
          rw [hae] at tc0
          have hkl : ((x.ls.take k).map fun e => (na : Int) + e).length = k := by rw [List.length_map, List.length_take]; omega
          have HKL := Lib.hid hkl.symm
          have HNX : Hid (((x.ls.take k).map fun e => (na : Int) + e) ++ [(na : Int) + ev] = (x.ls.take (k + 1)).map fun e => (na : Int) + e) := Lib.hid (by rw [List.take_succ_eq_append_getElem hkx, List.map_append, hev]; rfl)
          have b4 : IntKind.i64.wrap ((na : Int) + ev) = (na : Int) + ev := IntWalk.i64_in _ (by omega)
          have hkI : (k : Int) < (x.ls.length : Int) := by omega
          have tq0 := HTQ.out.c0
          have HOF : Hid (some gT ≠ AK.map (·.block)) := Lib.hid (by
            cases hA5 : AK with
            | none => simp
            | some a => have := (HK.out.form.2.2 a hA5).1; simp; omega)
          have hk5 : k ≤ 5 := by have := HLL.out; omega
          have tq1 := (HTQ.out.below ((Below.refl wr.heap.size wr).alloc (Nat.le_refl _) (.cells #[.int .i64 ((na : Int) + ev)] 3))).c0
          clear hev hkl hae hokx
          go_upto_region 12 with fail
          go_region_law (first
            | (refine step_append_ivg _ (mk := iv) (fun _ => rfl) rfl _ _ 22 rfl 3 i1 (iv 0) 8 Try.underlying22 hi hi0 hi1 hi2 rfl (B := gT + 1) rfl HKL.out (HK.out.below (by repeat (first | with_reducible exact Below.refl _ _ | with_reducible refine Below.drew ?_ | with_reducible refine below_al2 ?_ _))) (some ⟨wr.heap.size, 0, none⟩) 1 1 [(na : Int) + ev] rfl rfl ?_ (by simp only [maxLen]; omega) (by omega) ?_ ?_
               · first
                 | exact rdi_drew2 (rdi_at2 _ _ rfl)
                 | exact rdi_at2 _ _ rfl
                 | exact rdi_drew2 (rdi_drew2 (rdi_at2 _ _ rfl))
               · have hs9 := HSZ.out
                 simp
                 omega
               intro AK2 cK2 wq hgq hgrq hbq hatq
               have hb9 := ((HBK.out.trans ((by repeat (first | with_reducible exact Below.refl _ _ | with_reducible refine Below.drew ?_ | with_reducible refine below_al2 ?_ _) : Below wr.heap.size wr _).mono (by have := HSZ.out; omega))).trans (hbq.mono (Nat.le_succ gT)))
               have bkq := (HTQ.out.below (by repeat (first | with_reducible exact Below.refl _ _ | with_reducible refine Below.drew ?_ | with_reducible refine below_al2 ?_ _))).grown hgrq HOF.out
               have q0 := bkq.c0
               have qf := bkq.f0))
          all_goals
            have HN : Hid (Bk2 (wq.setCell ⟨gT, 0, none⟩ (.slice AK2 (k + 1) cK2)) gT (.slice AK2 (k + 1) cK2) (.int .i64 x.m) ∧ Gr iv 3 (wq.setCell ⟨gT, 0, none⟩ (.slice AK2 (k + 1) cK2)) (gT + 1) AK2 cK2 ((x.ls.take (k + 1)).map fun e => (na : Int) + e) ∧ Below gT w4 (wq.setCell ⟨gT, 0, none⟩ (.slice AK2 (k + 1) cK2)) ∧ gT + 1 ≤ (wq.setCell ⟨gT, 0, none⟩ (.slice AK2 (k + 1) cK2)).heap.size) := Lib.hid (by
              rw [HNX.out] at hgq
              refine ⟨bkq.put0 _, hgq.far (fun a e => by have := (hgq.form.2.2 a e).1; show a.block ≠ gT; omega) _, hb9.setCell (p := ⟨gT, 0, none⟩) (Nat.le_refl _) _, ?_⟩
              have h1 := bkq.lt
              simp only [World.setCell] at *
              simp; omega)
            clear hgq hgrq hbq hatq hb9
            go_wp2_with fail
            clear bkq q0 qf
            refine ⟨⟨k + 1, AK2, cK2, hkx, rfl, HN.out.1, HN.out.2.1, HN.out.2.2.1, HN.out.2.2.2⟩, ?_⟩
            simp only [intOf]
            omega
        · obtain rfl : k = x.ls.length := by omega
          have hkI : ¬ (x.ls.length : Int) < (x.ls.length : Int) := by omega
          have hq0 := HTQ.out.c0
          have hq1 := HTQ.out.c1
          have HK2 := Lib.hid HK.out
          rw [List.take_length] at HK2
          clear hokx HK
          have HYT : Hid (∀ u ∈ (x.ls.map fun e => (na : Int) + e), -9223372036854775808 ≤ u ∧ u ≤ 9223372036854775807) := Lib.hid (fun u hu => by
            obtain ⟨e, he, rfl⟩ := List.mem_map.1 hu
            have := HLX.out e he
            omega)
          obtain ⟨y, hy⟩ : ∃ y : Fm, y = ⟨AK, cK, x.ls.map fun e => (na : Int) + e, x.m⟩ := ⟨_, rfl⟩
          have HY := Lib.hid hy
          have hrow : RdW (wr.alloc (.cells #[.slice AK x.ls.length cK, .int .i64 x.m] 48)) (some ⟨wr.heap.size, 0, none⟩) [y] := by
            have := rdw_one wr ⟨AK, cK, x.ls.map fun e => (na : Int) + e, x.m⟩
            rw [hy]
            simpa [Fm.cells] using this
          have HROW := Lib.hid hrow
          have bl := (Below.refl wr.heap.size wr).alloc (Nat.le_refl _) (.cells #[.slice AK x.ls.length cK, .int .i64 x.m] 48)
          have bX := HB4.out.trans (HBK.out.trans (bl.mono (Nat.le_of_succ_le HSZ.out)))
          rw [← HGT.out] at bX
          have hTX := HW.out.below bX
          have bX2 := HBZ5.out.trans (bl.mono (by have := HBZ5.out.size; have := HBZ4.out.2; have := HSZ.out; omega))
          have hyX : y.ok (wr.alloc (.cells #[.slice AK x.ls.length cK, .int .i64 x.m] 48)) := by
            rw [hy]
            exact ⟨(HK2.out.is HYT.out).below bl, HWF.out⟩
          have hya : ∀ a, y.A = some a → gT ≤ a.block ∧ a.block < (wr.alloc (.cells #[.slice AK x.ls.length cK, .int .i64 x.m] 48)).heap.size := fun a e => by
            rw [hy] at e
            have h1 := HK2.out.form.2.2 a e
            have h2 := bl.size
            omega
          have hyt : y.fl = ((x.ls.map fun e => (na : Int) + e), x.m) := by rw [hy]
          have HTX := Lib.hid hTX
          have HBX := Lib.hid bX
          have HBX2 := Lib.hid bX2
          have HYX := Lib.hid hyX
          have HYA := Lib.hid hya
          have HYTR := Lib.hid hyt
          have hv9 : vs.length ≤ 1000 := by have := HVLN.out; omega
          clear hy hrow bl bX hTX bX2 hyX hya hyt
          go_wp2_with (at_builtin; refine wpList_append_ws _ rfl _ _ rfl rfl (B := w2.heap.size) (xs := vs) rfl rfl HTX.out (some ⟨wr.heap.size, 0, none⟩) _ [y] rfl rfl HROW.out (by have := HVLN.out; omega) HBX2.out.size ?_; intro A6 c6 wz hfz hbz hgz haz)
          have HR := Lib.hid (one_roundG (x := y) HO.out HAP.out HBLT.out (fun a e => (HW.out.form.2.2 a e).2) HBX.out (by rw [HGT.out]; exact HYA.out) HYX.out hgz haz)
          go_roundw
          case rel =>
            refine ⟨j + 1, A6, c6, vs ++ [y], hlt, by go_num, by simp, by rw [List.length_append, HVLN.out]; rfl, ?_, hfz, HR.out.1, HR.out.2.1, HR.out.2.2, HBX2.out.trans hbz⟩
            rw [List.map_append, HVM.out, HTK.out]
            show _ ++ [y.fl] = _
            rw [HYTR.out]
          case measure => simp [intOf]; omega
    · have hjl : j = gs.length := by omega
      have HVT : Hid (vs.map Fm.fl = shF na (gs.map Fm.fl)) := Lib.hid (by
        rw [HVM.out, List.take_of_length_le (by rw [List.length_map]; omega)])
      have hvg : vs.length = gs.length := by have := HVLN.out; omega
      have hjF : ¬ (j : Int) < (gs.length : Int) := by omega
      go_upto_region 15 with (at_builtin; refine wpList_append_ws _ rfl _ _ rfl rfl (B := w2.heap.size) (xs := vs) rfl rfl HW.out D1 _ fs rfl rfl (HT1.out.below HBZ.out).rd (by omega) HBZ.out.size ?_; intro A6 c6 w6 hfz hbz hgz haz)
      have hb6 : Below w2.heap.size w2 w6 := HBZ.out.trans hbz
      have HT3 : Hid (Ws w6 A6 c6 (vs ++ fs)) := Lib.hid (hfz.ws (fun y hy => by
        rcases List.mem_append.1 hy with h | h
        · have ho := HO.out y h
          exact ⟨ho.is.grown hgz (fun _ => (HAP.out y h).row), ho.wf⟩
        · exact (HT1.out.ok y h).below hb6))
      replace HI3 := Lib.hid (HI3.out.below hb6)
      skip
      replace HI1 := Lib.hid (HI1.out.below hb6)
      replace HI2 := Lib.hid (HI2.out.below hb6)
      replace HT1 := Lib.hid (HT1.out.below hb6)
      replace HT2 := Lib.hid (HT2.out.below hb6)
      replace HBW := Lib.hid (below_on HBW.out hb6 HBW.out.size)
      have hfm3 : (vs ++ fs).map Fm.fl = shF ca.length (gs.map Fm.fl) ++ fs.map Fm.fl := by rw [List.map_append, HVT.out, HNC.out]
      have HRT : Hid (ratesM (cpF (ca ++ cb)) ((vs ++ fs).map Fm.fl) (ca ++ cb).length = ratesM (cpF cb) (gs.map Fm.fl) cb.length ++ ratesM (cpF ca) (fs.map Fm.fl) ca.length) := Lib.hid (by rw [hfm3]; exact rates_apart HV1.out HV2.out HV3.out)
      have HUT : Hid (unitsM (cpF (ca ++ cb)) ((vs ++ fs).map Fm.fl) = unitsM (cpF cb) (gs.map Fm.fl) ++ unitsM (cpF ca) (fs.map Fm.fl)) := Lib.hid (by rw [hfm3]; exact units_apartV HV1.out HV2.out)
      rw [← hfm3] at HV3
      obtain ⟨al, hal⟩ : ∃ al, vs ++ fs = al := ⟨_, rfl⟩
      have hall : al.length = gs.length + fs.length := by rw [← hal, List.length_append, hvg]
      rw [hal] at HT3 HRT HUT HV3
      have HALL := Lib.hid hall
      have hnc := HNC.out
      have HVG := Lib.hid hvg
      have hn3 : na + cb.length = (ca ++ cb).length := by rw [List.length_append, hnc]
      have HN3 := Lib.hid hn3
      clear hfz hbz hgz haz HW HO HAP HBLT HVM HVLN HVT HBZ hb6 hal hfm3 hall hnc hn3
      go_wp2_with fail
      refine (rates_any w6 A3 _ c3 (ca ++ cb) A6 _ c6 al HI3.out HT3.out (by first | exact HN3.out | (rw [← HN3.out]; omega)) (by have := HALL.out; omega) HV3.out (by have := HALL.out; omega)).mono ?_
      rintro e w7 ⟨R3, v3, rfl, hrs, hvl, bb⟩
      replace HI3 := Lib.hid (HI3.out.below bb)
      replace HT3 := Lib.hid (HT3.out.below bb)
      have HR3 := Lib.hid hrs
      have HL3 := Lib.hid hvl
      skip
      replace HI1 := Lib.hid (HI1.out.below bb)
      replace HI2 := Lib.hid (HI2.out.below bb)
      replace HT1 := Lib.hid (HT1.out.below bb)
      replace HT2 := Lib.hid (HT2.out.below bb)
      replace HBW := Lib.hid (below_on HBW.out bb HBW.out.size)
      clear bb hrs hvl
      go_wp2_with fail
      refine (rates_any w7 A1 _ c1 ca D1 _ d1 fs HI1.out HT1.out HNC.out.symm rfl HV1.out (by omega)).mono ?_
      rintro e w8 ⟨R1, v1, rfl, hrs, hvl, bb⟩
      replace HI3 := Lib.hid (HI3.out.below bb)
      replace HT3 := Lib.hid (HT3.out.below bb)
      replace HR3 := Lib.hid (HR3.out.below bb)
      have HR1 := Lib.hid hrs
      have HL1 := Lib.hid hvl
      skip
      replace HI1 := Lib.hid (HI1.out.below bb)
      replace HI2 := Lib.hid (HI2.out.below bb)
      replace HT1 := Lib.hid (HT1.out.below bb)
      replace HT2 := Lib.hid (HT2.out.below bb)
      replace HBW := Lib.hid (below_on HBW.out bb HBW.out.size)
      clear bb hrs hvl
      go_wp2_with fail
      refine (rates_any w8 A2 _ c2 cb D2 _ d2 gs HI2.out HT2.out rfl rfl HV2.out (by omega)).mono ?_
      rintro e w9 ⟨R2, v2, rfl, hrs, hvl, bb⟩
      replace HI3 := Lib.hid (HI3.out.below bb)
      replace HT3 := Lib.hid (HT3.out.below bb)
      replace HR3 := Lib.hid (HR3.out.below bb)
      replace HR1 := Lib.hid (HR1.out.below bb)
      have HR2 := Lib.hid hrs
      have HL2 := Lib.hid hvl
      skip
      replace HI1 := Lib.hid (HI1.out.below bb)
      replace HI2 := Lib.hid (HI2.out.below bb)
      replace HT1 := Lib.hid (HT1.out.below bb)
      replace HT2 := Lib.hid (HT2.out.below bb)
      replace HBW := Lib.hid (below_on HBW.out bb HBW.out.size)
      clear bb hrs hvl
      go_wp2_with fail
      refine (units_any w9 A3 _ c3 (ca ++ cb) A6 _ c6 al HI3.out HT3.out (by first | exact HN3.out | (rw [← HN3.out]; omega)) (by have := HALL.out; omega) HV3.out).mono ?_
      rintro e w10 ⟨U3, cu3, u3, rfl, hus, hul, hG, bb⟩
      replace HR3 := Lib.hid (HR3.out.below bb)
      replace HR1 := Lib.hid (HR1.out.below bb)
      replace HR2 := Lib.hid (HR2.out.below bb)
      have HU3 := Lib.hid hus
      have HM3 := Lib.hid hul
      have HG3 := Lib.hid (hG.is (fun z hz => by
        obtain ⟨i, hi, rfl⟩ := List.getElem_of_mem hz
        have hi2 : i < (al.map Fm.fl).length := by rw [List.length_map, ← hul]; exact hi
        have h1 := unitsM_bd HV3.out.ok i hi2
        have h2 := HV3.out.lm i hi2
        rw [← hus, getD_lt _ _ _ hi] at h1
        omega))
      skip
      replace HI1 := Lib.hid (HI1.out.below bb)
      replace HI2 := Lib.hid (HI2.out.below bb)
      replace HT1 := Lib.hid (HT1.out.below bb)
      replace HT2 := Lib.hid (HT2.out.below bb)
      replace HBW := Lib.hid (below_on HBW.out bb HBW.out.size)
      clear bb hus hul hG HI3 HT3
      go_wp2_with fail
      refine (units_any w10 A1 _ c1 ca D1 _ d1 fs HI1.out HT1.out HNC.out.symm rfl HV1.out).mono ?_
      rintro e w11 ⟨U1, cu1, u1, rfl, hus, hul, hG, bb⟩
      replace HR3 := Lib.hid (HR3.out.below bb)
      replace HR1 := Lib.hid (HR1.out.below bb)
      replace HR2 := Lib.hid (HR2.out.below bb)
      replace HG3 := Lib.hid (HG3.out.below bb)
      have HU1 := Lib.hid hus
      have HM1 := Lib.hid hul
      have HG1 := Lib.hid hG
      skip
      replace HI1 := Lib.hid (HI1.out.below bb)
      replace HI2 := Lib.hid (HI2.out.below bb)
      replace HT1 := Lib.hid (HT1.out.below bb)
      replace HT2 := Lib.hid (HT2.out.below bb)
      replace HBW := Lib.hid (below_on HBW.out bb HBW.out.size)
      clear bb hus hul hG
      go_wp2_with fail
      refine (units_any w11 A2 _ c2 cb D2 _ d2 gs HI2.out HT2.out rfl rfl HV2.out).mono ?_
      rintro e w12 ⟨U2, cu2, u2, rfl, hus, hul, hG, bb⟩
      replace HR3 := Lib.hid (HR3.out.below bb)
      replace HR1 := Lib.hid (HR1.out.below bb)
      replace HR2 := Lib.hid (HR2.out.below bb)
      replace HG3 := Lib.hid (HG3.out.below bb)
      replace HG1 := Lib.hid (HG1.out.below bb)
      have HU2 := Lib.hid hus
      have HM2 := Lib.hid hul
      have HG2 := Lib.hid hG
      skip
      replace HI1 := Lib.hid (HI1.out.below bb)
      replace HI2 := Lib.hid (HI2.out.below bb)
      replace HT1 := Lib.hid (HT1.out.below bb)
      replace HT2 := Lib.hid (HT2.out.below bb)
      replace HBW := Lib.hid (below_on HBW.out bb HBW.out.size)
      clear bb hus hul hG HI1 HI2 HT1 HT2
      go_wp2_with fail
      refine (awakes_any _).mono ?_
      rintro e w13 ⟨rfl, bb⟩
      replace HR3 := Lib.hid (HR3.out.below bb)
      replace HR1 := Lib.hid (HR1.out.below bb)
      replace HR2 := Lib.hid (HR2.out.below bb)
      replace HG3 := Lib.hid (HG3.out.below bb)
      replace HG1 := Lib.hid (HG1.out.below bb)
      replace HG2 := Lib.hid (HG2.out.below bb)
      replace HBW := Lib.hid (below_on HBW.out bb HBW.out.size)
      have HRP := Lib.hid ((HR2.out.rpl HV2.out).append (HR1.out.rpl HV1.out))
      rw [← HRT.out] at HRP
      clear bb
      go_wp2_with (first
        | (at_builtin; refine wpList_append_frg w13 rfl _ _ rfl rfl (B := w13.heap.size) (xs := []) rfl rfl (fr_nil _ _) R2 _ v2 rfl HL2.out.symm HR2.out.q.fr.rd (by omega) (Nat.le_refl _) ?_; intro A7 c7 w14 hf7 hb7)
        | (at_builtin; refine wpList_append_frg w14 rfl _ _ rfl rfl (B := w13.heap.size) (xs := [] ++ v2) rfl (by simp [HL2.out]) hf7 R1 _ v1 rfl HL1.out.symm (HR1.out.q.fr.rd.below hb7) (by omega) hb7.size ?_; intro A8 c8 w15 hf8 hb8))
      have hb15 : Below w13.heap.size w13 w15 := hb7.trans hb8
      simp only [List.nil_append] at hf8
      have HF8 := Lib.hid hf8
      have HOK8 : Hid (∀ x ∈ v2 ++ v1, x.ok w15) := Lib.hid (fun z hz => by
        rcases List.mem_append.1 hz with h | h
        · exact (HR2.out.q.ok z h).below hb15
        · exact (HR1.out.q.ok z h).below hb15)
      replace HR3 := Lib.hid (HR3.out.below hb15)
      replace HG3 := Lib.hid (HG3.out.below hb15)
      replace HG1 := Lib.hid (HG1.out.below hb15)
      replace HG2 := Lib.hid (HG2.out.below hb15)
      replace HBW := Lib.hid (below_on HBW.out hb15 HBW.out.size)
      clear hf7 hb7 hf8 hb8 hb15
      refine (samerates_any w15 R3 _ _ v3 A8 _ c8 (v2 ++ v1) (ratesM (cpF (ca ++ cb)) (al.map Fm.fl) (ca ++ cb).length) HR3.out.q.fr.rd HF8.out.rd (fun v hv => HR3.out.q.ok v hv) HOK8.out (by rw [HL3.out]) (by rw [List.length_append, HL2.out, HL1.out] <;> omega) (by rw [HL3.out, List.length_append, HL2.out, HL1.out, HALL.out]) (by rw [HL3.out, HALL.out]; omega) HR3.out.rp HRP.out.2).mono ?_
      rintro e w16 ⟨rfl, bb⟩
      replace HG3 := Lib.hid (HG3.out.below bb)
      replace HG1 := Lib.hid (HG1.out.below bb)
      replace HG2 := Lib.hid (HG2.out.below bb)
      replace HBW := Lib.hid (below_on HBW.out bb HBW.out.size)
      clear bb HF8 HOK8
      have HUE : Hid (u3 = u2 ++ u1) := Lib.hid (by rw [HU3.out, HU2.out, HU1.out, HUT.out])
      go_wp2_with (first
        | (at_builtin; refine wpList_append_ivg w16 (mk := iv) (fun _ => rfl) rfl _ _ 22 rfl 3 i1 (iv 0) 8 Try.underlying22 hi hi0 hi1 hi2 rfl (B := w16.heap.size) (n := 0) (xs := []) rfl rfl (Gr.nil _ _) U2 _ _ u2 rfl HM2.out.symm HG2.out.rd (by simp only [maxLen]; omega) (by omega) (Nat.le_refl _) ?_; intro A7 c7 w17 hf7 hb7)
        | (at_builtin; refine wpList_append_ivg w17 (mk := iv) (fun _ => rfl) rfl _ _ 22 rfl 3 i1 (iv 0) 8 Try.underlying22 hi hi0 hi1 hi2 rfl (B := w16.heap.size) (xs := [] ++ u2) rfl (by simp [HM2.out]) hf7 U1 _ _ u1 rfl HM1.out.symm (HG1.out.rd.below hb7 rfl) (by simp only [maxLen]; omega) (by omega) hb7.size ?_; intro A9 c9 w18 hf9 hb9))
      have hb18 : Below w16.heap.size w16 w18 := hb7.trans hb9
      simp only [List.nil_append] at hf9
      have HI9 := Lib.hid (hf9.is (fun z hz => by rw [← HUE.out] at hz; exact HG3.out.wf z hz))
      replace HG3 := Lib.hid (HG3.out.below hb18)
      replace HBW := Lib.hid (below_on HBW.out hb18 HBW.out.size)
      clear hf7 hb7 hf9 hb9 hb18
      refine (sameints_any w18 U3 _ cu3 u3 A9 _ c9 (u2 ++ u1) true HG3.out HI9.out (by rw [HM3.out]) (by rw [List.length_append, HM2.out, HM1.out] <;> omega) (decide_eq_true HUE.out)).mono ?_
      rintro e w19 ⟨rfl, bb⟩
      go_wp2_with fail
      go_ret
      exact ⟨rfl, below_on HBW.out bb HBW.out.size⟩
end Go.Proofs.Ythdfflbhogfejaa
