/- The walk of TransferApart. -/
import Derived.Test.YtgjhjdjbhmblmaaTwAR
import Derived.Test.YtgjhjdjbhmblmaaTwAS
import Derived.Test.YtgjhjdjbhmblmaaTwBounds
namespace Go.Proofs.Ytgjhjdjbhmblmaa
open Go.RowKit

theorem links_short {n : Nat} {ls : List Int} (h : LinksOk n ls) : ls.length ≤ n := by
  rcases Nat.eq_zero_or_pos ls.length with h0 | h0
  · omega
  · have key : ∀ i (hi : i < ls.length), (i : Int) ≤ ls[i] := by
      intro i
      induction i with
      | zero => intro hi; have := (h 0 hi).1; omega
      | succ i ih =>
        intro hi
        have h1 := ih (by omega)
        have h2 := h.lt (i + 1) i hi (by omega)
        omega
    have h1 := key (ls.length - 1) (by omega)
    have h2 := (h (ls.length - 1) (by omega)).2.1
    omega
theorem step_append_ivg {P : Program} (w : World) {α : Type} {mk : α → Value} (hone : ∀ x, (mk x).oneCell' = true) {ops : Array Oper} {o : Oper} {a : Act} {K : Act → World → Prop} {Q : Exit → Act → World → Prop} {X : Prop} (hw : Region.wanted o (yielded ops a.tmps) = true) (s x : Operand) (t : TypeId)
    (ho : o.op = .call { callee := .builtin .append, args := #[s, x], argTypes := #[t, t] })
    (e : TypeId) (i : TypeInfo) (z : Value) (bytes : Nat) (ht : P.underlying t = some (.slice e)) (hi : P.info? e = some i) (hz : i.zero = some z)
    (hsize : i.size = 1) (hby : i.bytes = bytes) (hzs : z.cells.size = 1) {B c n : Nat} {A : Option Addr} {xs : List α} (hs : a.eval s = .slice A n c) (hn : n = xs.length) (hown : Gr mk e w B A c xs)
    (A2 : Option Addr) (m c2 : Nat) (ys : List α) (hx : a.eval x = .slice A2 m c2) (hm : m = ys.length) (hr : Rd mk w A2 ys) (hmax : n + m ≤ maxLen) (hbytes : (n + m) * bytes ≤ 140737488355328) (hbase : B ≤ w.heap.size)
    (h : ∀ A' c' w', Gr mk e w' B A' c' (xs ++ ys) → w.grownBy w' (A.map (·.block)) → Below B w w' → (A'.map (·.block) = A.map (·.block) ∨ A'.map (·.block) = some w.heap.size) →
      K (a.put o.dst (.slice A' (n + m) c')) w') :
    if Region.wanted o (yielded ops a.tmps) = true then Oper.wp P o a w K Q else X := by
  rw [if_pos hw]
  subst hn hm
  obtain ⟨A', c', w', hrun, h1, h2, h3, h4⟩ := run_append_rd (P := P) w hone t o.type e i z bytes ht hi hz hsize hby hzs hown A2 c2 ys hr hmax hbytes hbase
  unfold Oper.wp execOp
  simp only [ho, resolve, invoke, builtin, Sem.run_bind, Sem.run_pure, Result.andThen_ok, List.map_toArray, List.map_cons, List.map_nil, hs, hx, hrun]
  exact h A' c' w' h1 h2 h3 h4
theorem below_undr {w w' : World} (h : Below w.drew.heap.size w.drew w') : Below w.heap.size w w' := ⟨h.os, h.tape, h.output, h.size, h.block⟩
theorem runS_len (caps : List Int) (l : List Tr) : (runS caps l).fn.length ≤ l.length := by
  rw [runS]
  split
  · rw [(simM_len _ _ _).2]; exact Nat.le_refl _
  · exact Nat.zero_le _
/-- a block of three cells whose first can be written -/
structure Tq (w : World) (G : Nat) (v : Value) (b s : Int) : Prop where
  c0 : w.cell? ⟨G, 0, none⟩ = some v
  c1 : w.cell? ⟨G, 1, none⟩ = some (.int .i64 b)
  c2 : w.cell? ⟨G, 2, none⟩ = some (.int .i64 s)
  f0 : w.frozen? ⟨G, 0, none⟩ = false
  lt : G < w.heap.size
theorem Tq.below {w w' : World} {G : Nat} {v : Value} {b s : Int} (h : Tq w G v b s) (hb : Below w.heap.size w w') : Tq w' G v b s :=
  ⟨(hb.cell (p := ⟨G, 0, none⟩) h.lt).trans h.c0, (hb.cell (p := ⟨G, 1, none⟩) h.lt).trans h.c1, (hb.cell (p := ⟨G, 2, none⟩) h.lt).trans h.c2, (hb.frozen (p := ⟨G, 0, none⟩) h.lt).trans h.f0, Nat.lt_of_lt_of_le h.lt hb.size⟩
theorem Tq.grown {w w' : World} {G : Nat} {v : Value} {b s : Int} {row : Option Nat} (h : Tq w G v b s) (hg : w.grownBy w' row) (hne : some G ≠ row) : Tq w' G v b s := by
  have hb : w'.heap[G]? = w.heap[G]? := hg.block G h.lt hne
  refine ⟨hg.cell h.c0 hne, hg.cell h.c1 hne, hg.cell h.c2 hne, ?_, Nat.lt_of_lt_of_le h.lt hg.size⟩
  rw [← h.f0]; unfold World.frozen?; rw [hb]
theorem Tq.put0 {w : World} {G : Nat} {v : Value} {b s : Int} (h : Tq w G v b s) (u : Value) : Tq (w.setCell ⟨G, 0, none⟩ u) G u b s := by
  have h0 := h.c0
  have h1 := h.c1
  have h2 := h.c2
  have f0 := h.f0
  have hl := h.lt
  exact ⟨by go_simp, by go_simp, by go_simp, by go_simp, by simpa [World.setCell] using hl⟩
theorem tq_alloc (w : World) (v : Value) (b s : Int) : Tq (w.alloc (.cells #[v, .int .i64 b, .int .i64 s] 26)).drew w.heap.size v b s :=
  ⟨by go_simp, by go_simp, by go_simp, by go_simp, by simp⟩
set_option maxRecDepth 100000 in
set_option maxHeartbeats 4000000 in
theorem apart_walk (w : World) (A : Option Addr) (c : Nat) (cs : List Int) (D : Option Addr) (d : Nat) (xs : List Int) (E : Option Addr) (f : Nat) (ys : List Int) (hA : Is w A c cs) (hB : Is w D d xs) (hC : Is w E f ys) :
    Calls Try.prog 9 #[.slice A cs.length c, .slice D xs.length d, .slice E ys.length f] w fun e w' => e = .returned (.bool true) ∧ Below w.heap.size w w' := by
  have hmadeL := made_valid cs xs
  have hmadeM := made_valid cs ys
  have htwoL := checkM_two hmadeL
  have htwoM := checkM_two hmadeM
  have HA := Lib.hid hA; clear hA
  have HB := Lib.hid hB; clear hB
  have HC := Lib.hid hC; clear hC
  have bw := Below.refl w.heap.size w
  go_enter Try.func9, Try.ntmps9
  go_wp2_with fail
  refine (caps_any w A _ c cs HA.out rfl).mono ?_
  rintro e wn ⟨A', c', rfl, hI, bb⟩
  have HI := Lib.hid hI
  replace bw := below_on bw bb bw.size
  have hcl := capsM_len cs
  clear bb hI
  go_wp2_with fail
  refine (trans_any wn D _ d xs (capsM cs).length (HB.out.below bw) rfl (by omega)).mono ?_
  rintro e wt ⟨D', d', ts, rfl, htr, hT, bb⟩
  have HT := Lib.hid hT
  replace HI := Lib.hid (HI.out.below bb)
  replace bw := below_on bw bb bw.size
  have hlt6 : ts.length ≤ 6 := by
    have h1 := congrArg List.length htr
    rw [List.length_map] at h1
    have h2 := transM_len xs (capsM cs).length
    omega
  clear bb hT
  go_wp2_with fail
  refine (trans_any wt E _ f ys (capsM cs).length (HC.out.below bw) rfl (by omega)).mono ?_
  rintro e wu ⟨E', f', us, rfl, hur, hU, bb⟩
  have HU := Lib.hid hU
  replace HI := Lib.hid (HI.out.below bb)
  replace HT := Lib.hid (HT.out.below bb)
  replace bw := below_on bw bb bw.size
  have hlu6 : us.length ≤ 6 := by
    have h1 := congrArg List.length hur
    rw [List.length_map] at h1
    have h2 := transM_len ys (capsM cs).length
    omega
  clear bb hU
  obtain ⟨caps, hcaps⟩ : ∃ caps, capsM cs = caps := ⟨_, rfl⟩
  obtain ⟨l, hl⟩ : ∃ l, transM xs caps.length = l := ⟨_, rfl⟩
  obtain ⟨m, hm⟩ : ∃ m, transM ys caps.length = m := ⟨_, rfl⟩
  rw [hcaps] at hmadeL hmadeM htwoL htwoM hcl HI htr hur ⊢
  rw [hl] at hmadeL htwoL htr
  rw [hm] at hmadeM htwoM hur
  have HVL := Lib.hid hmadeL
  have HVM := Lib.hid hmadeM
  have HTL := Lib.hid htwoL
  have HTM := Lib.hid htwoM
  have HTS := Lib.hid htr
  have HUS := Lib.hid hur
  have hc5 := hcl.2
  clear hcaps hl hm hmadeL hmadeM htwoL htwoM htr hur hcl
  obtain ⟨i1, hi, hi0, hi1, hi2⟩ := info_parts int_info
  go_upto_region 4 with (first
    | (at_builtin; refine wpList_append_rd wu (mk := iv) (fun _ => rfl) rfl _ _ 22 rfl 3 i1 (iv 0) 8 Try.underlying22 hi hi0 hi1 hi2 rfl (B := wu.heap.size) (xs := []) rfl rfl (Gr.nil _ _) A' caps.length c' caps rfl rfl HI.out.rd (by simp only [maxLen]; omega) (by omega) (Nat.le_refl _) ?_; intro A1 c1 w1 hg1 _ hb1 _)
    | (at_builtin; refine wpList_append_rd w1 (mk := iv) (fun _ => rfl) rfl _ _ 22 rfl 3 i1 (iv 0) 8 Try.underlying22 hi hi0 hi1 hi2 rfl (B := wu.heap.size) (xs := [] ++ caps) rfl (by simp) hg1 A' caps.length c' caps rfl rfl (HI.out.below hb1).rd (by simp only [maxLen]; omega) (by omega) hb1.size ?_; intro A2 c2 w2 hg2 _ hb2 _))
  have hb12 : Below wu.heap.size wu w2 := hb1.trans hb2
  simp only [List.nil_append] at hg2
  have HG2 := Lib.hid hg2
  replace HI := Lib.hid (HI.out.below hb12)
  replace HT := Lib.hid (HT.out.below hb12)
  replace HU := Lib.hid (HU.out.below hb12)
  replace bw := below_on bw hb12 bw.size
  clear hg1 hb1 hg2 hb2 hb12
  go_upto_region 5 with (at_builtin; refine wpList_append_ts w2 rfl _ _ rfl rfl (B := w2.heap.size) (xs := []) rfl rfl (Tw.nil _ _) D' d' ts rfl rfl HT.out.rd (by omega) (Nat.le_refl _) ?_; intro A3 c3 w3 hg3 hb3 _ _)
  have hok3 : ∀ x ∈ ts, x.ok w3 := fun x hx => (HT.out.ok x hx).below hb3
  simp only [List.nil_append] at hg3
  have hsep3 : SepT A3 ts := sepT_start (w := w2) (fun x hx => HT.out.ok x hx) (fun a e => (hg3.form.2.2 a e).1)
  have HG3 := Lib.hid hg3
  have HOK3 := Lib.hid hok3
  have HSEP3 := Lib.hid hsep3
  have HB3 := Lib.hid hb3
  have HBW := Lib.hid bw
  have hml : m.length = us.length := by rw [← HUS.out, List.length_map]
  have HML := Lib.hid hml
  have hll : l.length = ts.length := by rw [← HTS.out, List.length_map]
  have HLL := Lib.hid hll
  obtain ⟨cn, hcn⟩ : ∃ cn, caps.length = cn := ⟨_, rfl⟩
  have HCN := Lib.hid hcn
  clear hg3 hb3 hsep3 hok3 hml hll bw
  go_wp2_with fail
  go_loopw [11, 12] (fun s i wr => ∃ (j q : Nat) (A3 : Option Addr) (c3 : Nat) (vs : List Tm), j ≤ us.length ∧ q = ts.length + j ∧ i = .int .i64 (j : Int) ∧ s = .slice A3 q c3 ∧ vs.length = q ∧ vs.map Tm.tr = l ++ (shT caps.length m).take j ∧ Tw wr w2.heap.size A3 c3 vs ∧ (∀ x ∈ vs, x.ok wr) ∧ SepT A3 vs ∧ Below w2.heap.size w2 wr) (fun _ i _ => us.length - (intOf i).toNat)
  case atStart => exact ⟨0, ts.length, A3, c3, ts, by omega, rfl, rfl, by simp, rfl, by simp [HTS.out], HG3.out, HOK3.out, HSEP3.out, HB3.out⟩
  case round =>
    clear HG3 HOK3 HSEP3 HB3
    obtain ⟨j, q, A3, c3, vs, hj, hq, rfl, rfl, hvl, hvs, hT3, hok3, hsep3, bz⟩ := hrel
    have HTW := Lib.hid hT3
    have HOK := Lib.hid hok3
    have HSEP := Lib.hid hsep3
    have HBZ := Lib.hid bz
    have HVS := Lib.hid hvs
    have HVLN := Lib.hid hvl
    have hq12 : q ≤ 12 := by omega
    have HQ := Lib.hid hq
    clear hT3 hok3 hsep3 bz hvs hvl hq
    by_cases hjt : j < us.length
    · skip
      obtain ⟨ad, rfl, tc0, tc1, tc2, hokx⟩ := (HU.out.below HBZ.out).at j hjt
      obtain ⟨x, hx⟩ : ∃ x, us[j] = x := ⟨_, rfl⟩
      rw [hx] at tc0 tc1 tc2 hokx
      have hmj : (x.ls, x.b, x.s) = m[j]'(by rw [HML.out]; exact hjt) := by
        have : us[j].tr = m[j]'(by rw [HML.out]; exact hjt) := by simp only [← HUS.out, List.getElem_map]
        rw [hx] at this
        exact this
      have HX := Lib.hid hx
      have HMJ := Lib.hid hmj
      have hcapU := HU.out.cap
      have hjI : (j : Int) < (us.length : Int) := by omega
      clear hx hmj hokx
      go_upto_region 8 with fail
      go_region_held3 (fun w' => w'.cell? ⟨(ad.add (j * 3)).block, (ad.add (j * 3)).off + 1, none⟩ = some (.int .i64 x.b) ∧ w'.cell? ⟨(ad.add (j * 3)).block, (ad.add (j * 3)).off + 2, none⟩ = some (.int .i64 x.s))
        (first | exact ⟨tc1, tc2⟩ | go_keep)
        (first | fail)
      have b4 : ∀ v0 v1 v2 : Value, Below wr.heap.size wr (wr.alloc (.cells #[v0, v1, v2] 26)).drew := fun v0 v1 v2 => ((Below.refl _ _).alloc (Nat.le_refl _) _).drew
      have HB4 := Lib.hid (b4 (.slice none 0 0) (.int .i64 x.b) (.int .i64 x.s))
      have HQ4 : Hid (Tq (wr.alloc (.cells #[.slice none 0 0, .int .i64 x.b, .int .i64 x.s] 26)).drew wr.heap.size (.slice none 0 0) x.b x.s) := Lib.hid (tq_alloc wr (.slice none 0 0) x.b x.s)
      have hz4 : (wr.alloc (.cells #[.slice none 0 0, .int .i64 x.b, .int .i64 x.s] 26)).drew.heap.size = wr.heap.size + 1 := size_alloc _ _
      clear tc0 tc1 tc2 b4
      generalize (wr.alloc (.cells #[.slice none 0 0, .int .i64 x.b, .int .i64 x.s] 26)).drew = w4 at HB4 HQ4 hz4 ⊢
      obtain ⟨gT, hgT⟩ : ∃ g, wr.heap.size = g := ⟨_, rfl⟩
      have HGT := Lib.hid hgT
      rw [hgT] at HB4 HQ4 hz4 ⊢
      have HZ4 := Lib.hid hz4
      clear hgT hz4
      have HBZ4 : Hid (Below w2.heap.size w2 w4 ∧ w2.heap.size ≤ gT) := Lib.hid ⟨HBZ.out.trans (HB4.out.mono (by rw [← HGT.out]; exact HBZ.out.size)), by rw [← HGT.out]; exact HBZ.out.size⟩
      have hcn5 : cn ≤ 5 := by omega
      have hlx : x.ls.length ≤ 5 ∧ ∀ e ∈ x.ls, 0 ≤ e ∧ e < cn := by
        have hj' : j < m.length := by rw [HML.out]; exact hjt
        have h1 := (HVM.out.2.2.2.2 _ (List.getElem_mem (show j < (flT m fun _ => 0).length by rw [flT_len]; exact hj'))).2.2
        rw [flT_get hj', ← HMJ.out] at h1
        refine ⟨?_, fun e he => by rw [← HCN.out]; exact h1.mem he⟩
        have h2 := links_short h1
        simp only at h2
        omega
      have HLX := Lib.hid hlx.2
      have hlx5 := hlx.1
      clear hlx
      go_wp2_with fail
      go_loopw [14] (fun kv wz => ∃ (k : Nat) (AK : Option Addr) (cK : Nat), k ≤ x.ls.length ∧ kv = .int .i64 (k : Int) ∧ Tq wz gT (.slice AK k cK) x.b x.s ∧ Gr iv 3 wz (gT + 1) AK cK ((x.ls.take k).map fun e => (cn : Int) + e) ∧ Below gT w4 wz ∧ gT + 1 ≤ wz.heap.size) (fun kv _ => x.ls.length - (intOf kv).toNat)
      case atStart => exact ⟨0, none, 0, by omega, rfl, HQ4.out, Gr.nil _ _, Below.refl _ _, by rw [HZ4.out]; exact Nat.le_refl _⟩
      case round =>
        clear HQ4
        obtain ⟨k, AK, cK, hk, rfl, hq, hK, hb, hsz⟩ := hrel
        have HTQ := Lib.hid hq
        have HK := Lib.hid hK
        have HB := Lib.hid hb
        have HSZ := Lib.hid hsz
        have HBZ5 := Lib.hid (HBZ4.out.1.trans (hb.mono HBZ4.out.2))
        clear hq hK hb hsz
        obtain ⟨ad0, had, tc0, _, _, hokx⟩ := (HU.out.below HBZ5.out).at j hjt
        injection had with had
        subst had
        rw [HX.out] at tc0 hokx
        by_cases hkx : k < x.ls.length
        · obtain ⟨ae, hae, hab, ce⟩ := hokx.is.at k hkx
          have hel := HLX.out _ (List.getElem_mem hkx)
          obtain ⟨ev, hev⟩ : ∃ ev, x.ls[k] = ev := ⟨_, rfl⟩
          have hxc := hokx.is.cap
          rw [hev] at ce hel
          rw [hae] at tc0
          have hkl : ((x.ls.take k).map fun e => (cn : Int) + e).length = k := by rw [List.length_map, List.length_take]; omega
          have HKL := Lib.hid hkl.symm
          have HNX : Hid (((x.ls.take k).map fun e => (cn : Int) + e) ++ [(cn : Int) + ev] = (x.ls.take (k + 1)).map fun e => (cn : Int) + e) := Lib.hid (by rw [List.take_succ_eq_append_getElem hkx, List.map_append, hev]; rfl)
          have b4 : IntKind.i64.wrap ((cn : Int) + ev) = (cn : Int) + ev := IntWalk.i64_in _ (by omega)
          have hkI : (k : Int) < (x.ls.length : Int) := by omega
          have tq0 := HTQ.out.c0
          have HOF : Hid (some gT ≠ AK.map (·.block)) := Lib.hid (by
            cases hA5 : AK with
            | none => simp
            | some a => have := (HK.out.form.2.2 a hA5).1; simp; omega)
          have hk5 : k ≤ 5 := by omega
          have tq1 := (HTQ.out.below ((Below.refl wr.heap.size wr).alloc (Nat.le_refl _) (.cells #[.int .i64 ((cn : Int) + ev)] 3))).c0
          clear hev hkl hae hokx
          go_upto_region 12 with fail
          go_region_law (first
            | (refine step_append_iv _ (mk := iv) (fun _ => rfl) rfl _ _ 22 rfl 3 i1 (iv 0) 8 Try.underlying22 hi hi0 hi1 hi2 rfl (B := gT + 1) rfl HKL.out (HK.out.below (by repeat (first | with_reducible exact Below.refl _ _ | with_reducible refine Below.drew ?_ | with_reducible refine below_al ?_ _))) (some ⟨wr.heap.size, 0, none⟩) 1 1 [(cn : Int) + ev] rfl rfl ?_ (by simp only [maxLen]; omega) (by omega) ?_ ?_
               · first
                 | exact rdi_drew (rdi_at _ _ rfl)
                 | exact rdi_at _ _ rfl
                 | exact rdi_drew (rdi_drew (rdi_at _ _ rfl))
               · have hs9 := HSZ.out
                 simp
                 omega
               intro AK2 cK2 wq hgq hgrq hbq hatq
               have hb9 := ((HB.out.trans ((by repeat (first | with_reducible exact Below.refl _ _ | with_reducible refine Below.drew ?_ | with_reducible refine below_al ?_ _) : Below wr.heap.size wr _).mono (by have := HSZ.out; omega))).trans (hbq.mono (Nat.le_succ gT)))
               have bkq := (HTQ.out.below (by repeat (first | with_reducible exact Below.refl _ _ | with_reducible refine Below.drew ?_ | with_reducible refine below_al ?_ _))).grown hgrq HOF.out
               have q0 := bkq.c0
               have qf := bkq.f0))
          all_goals
            have HN : Hid (Tq (wq.setCell ⟨gT, 0, none⟩ (.slice AK2 (k + 1) cK2)) gT (.slice AK2 (k + 1) cK2) x.b x.s ∧ Gr iv 3 (wq.setCell ⟨gT, 0, none⟩ (.slice AK2 (k + 1) cK2)) (gT + 1) AK2 cK2 ((x.ls.take (k + 1)).map fun e => (cn : Int) + e) ∧ Below gT w4 (wq.setCell ⟨gT, 0, none⟩ (.slice AK2 (k + 1) cK2)) ∧ gT + 1 ≤ (wq.setCell ⟨gT, 0, none⟩ (.slice AK2 (k + 1) cK2)).heap.size) := Lib.hid (by
              rw [HNX.out] at hgq
              refine ⟨bkq.put0 _, hgq.far (fun a e => by have := (hgq.form.2.2 a e).1; show a.block ≠ gT; omega) _, hb9.setCell (p := ⟨gT, 0, none⟩) (Nat.le_refl _) _, ?_⟩
              have h1 := bkq.lt
              simp only [World.setCell] at *
              simp; omega)
            clear hgq hgrq hbq hatq hb9
            go_wp2_with fail
            clear bkq q0 qf
            refine ⟨⟨k + 1, AK2, cK2, hkx, rfl, HN.out.1, HN.out.2.1, HN.out.2.2.1, HN.out.2.2.2⟩, ?_⟩
            simp only [intOf]
            omega
        · obtain rfl : k = x.ls.length := by omega
          have hkI : ¬ (x.ls.length : Int) < (x.ls.length : Int) := by omega
          have hq0 := HTQ.out.c0
          have hq1 := HTQ.out.c1
          have hq2 := HTQ.out.c2
          have hae := hokx.is.cap
          have HK2 := Lib.hid HK.out
          rw [List.take_length] at HK2
          clear hokx
          clear HK
          have HYT : Hid (∀ u ∈ (x.ls.map fun e => (cn : Int) + e), -9223372036854775808 ≤ u ∧ u ≤ 9223372036854775807) := Lib.hid (fun u hu => by
            obtain ⟨e, he, rfl⟩ := List.mem_map.1 hu
            have := HLX.out e he
            omega)
          obtain ⟨y, hy⟩ : ∃ y : Tm, y = ⟨AK, cK, x.ls.map fun e => (cn : Int) + e, x.b, x.s⟩ := ⟨_, rfl⟩
          have HY := Lib.hid hy
          have hrow : RdT (wr.alloc (.cells #[.slice AK x.ls.length cK, .int .i64 x.b, .int .i64 x.s] 26)) (some ⟨wr.heap.size, 0, none⟩) [y] := by
            have := rdt_one wr ⟨AK, cK, x.ls.map fun e => (cn : Int) + e, x.b, x.s⟩
            rw [hy]
            simpa [Tm.cells] using this
          have HROW := Lib.hid hrow
          have bl := (Below.refl wr.heap.size wr).alloc (Nat.le_refl _) (.cells #[.slice AK x.ls.length cK, .int .i64 x.b, .int .i64 x.s] 26)
          have bX := HB4.out.trans (HB.out.trans (bl.mono (Nat.le_of_succ_le HSZ.out)))
          rw [← HGT.out] at bX
          have hokX : ∀ y ∈ vs, y.ok (wr.alloc (.cells #[.slice AK x.ls.length cK, .int .i64 x.b, .int .i64 x.s] 26)) := fun y hy => (HOK.out y hy).below bX
          have hTX := HTW.out.below bX
          have bX2 := HBZ5.out.trans (bl.mono (by have := HBZ5.out.size; have := HBZ4.out.2; have := HSZ.out; omega))
          have hyX : y.ok (wr.alloc (.cells #[.slice AK x.ls.length cK, .int .i64 x.b, .int .i64 x.s] 26)) := by
            rw [hy]
            exact ⟨(HK2.out.is HYT.out).below bl, (HU.out.ok x (by rw [← HX.out]; exact List.getElem_mem _)).wb, (HU.out.ok x (by rw [← HX.out]; exact List.getElem_mem _)).ws⟩
          have hys : Sep y.A y.ls A3 := by
            rw [hy]
            intro _ a o e1 e2
            have h1 := (HK2.out.form.2.2 a e1).1
            have h2 := (HTW.out.form.2.2 o e2).2
            rw [HGT.out] at h2
            omega
          have hyt : y.tr = ((x.ls.map fun e => (cn : Int) + e), x.b, x.s) := by rw [hy]
          have HOKX := Lib.hid hokX
          have HTX := Lib.hid hTX
          have HBX2 := Lib.hid bX2
          have HYX := Lib.hid hyX
          have HYS := Lib.hid hys
          have HYTR := Lib.hid hyt
          clear hy hrow bl bX hokX hTX bX2 hyX hys hyt
          go_wp2_with (at_builtin; refine wpList_append_ts _ rfl _ _ rfl rfl (B := w2.heap.size) rfl HVLN.out.symm HTX.out (some ⟨wr.heap.size, 0, none⟩) _ [y] rfl rfl HROW.out (by omega) HBX2.out.size ?_; intro A4 c4 wz hfz hbz hgz haz)
          obtain ⟨hokz, hsepz⟩ := ap_round HOKX.out HSEP.out HYX.out HYS.out hgz haz
          go_roundw
          case rel =>
            refine ⟨j + 1, q + 1, A4, c4, vs ++ [y], hjt, by have := HQ.out; omega, by go_num, rfl, by rw [List.length_append, HVLN.out]; rfl, ?_, hfz, hokz, hsepz, HBX2.out.trans hbz⟩
            have hj' : j < m.length := by rw [HML.out]; exact hjt
            have hj2 : j < (shT caps.length m).length := by rw [shT_len]; exact hj'
            rw [List.map_append, HVS.out, List.take_succ_eq_append_getElem hj2, List.append_assoc, shT_get hj', ← HMJ.out, HCN.out]
            show _ = _
            rw [List.map_cons, List.map_nil, HYTR.out]
          case measure => simp [intOf]; omega
    · have hjF : ¬ (j : Int) < (us.length : Int) := by omega
      have hjl : j = us.length := by omega
      have HVT : Hid (vs.map Tm.tr = l ++ shT caps.length m) := Lib.hid (by
        rw [HVS.out, hjl, ← HML.out, ← shT_len (caps.length : Int) m, List.take_length])
      have HTV := Lib.hid (HTW.out.ts HOK.out)
      have bwr := below_on HBW.out HBZ.out HBW.out.size
      have HI := Lib.hid (HI.out.below HBZ.out)
      have HT := Lib.hid (HT.out.below HBZ.out)
      have HU := Lib.hid (HU.out.below HBZ.out)
      have HI2 := Lib.hid ((HG2.out.is (fun u hu => by rcases List.mem_append.1 hu with h | h <;> exact HI.out.wf u h)).below HBZ.out)
      obtain ⟨S1, hS1⟩ : ∃ S, runS caps l = S := ⟨_, rfl⟩
      obtain ⟨E1, hE1⟩ : ∃ E, checkM caps l = E := ⟨_, rfl⟩
      obtain ⟨S2, hS2⟩ : ∃ S, runS caps m = S := ⟨_, rfl⟩
      obtain ⟨E2, hE2⟩ : ∃ E, checkM caps m = E := ⟨_, rfl⟩
      obtain ⟨S3, hS3⟩ : ∃ S, runS (caps ++ caps) (l ++ shT caps.length m) = S := ⟨_, rfl⟩
      obtain ⟨E3, hE3⟩ : ∃ E, checkM (caps ++ caps) (l ++ shT caps.length m) = E := ⟨_, rfl⟩
      have H1 := Lib.hid (And.intro hS1 hE1)
      have H2 := Lib.hid (And.intro hS2 hE2)
      have H3 := Lib.hid (And.intro hS3 hE3)
      clear hS1 hE1 hS2 hE2 hS3 hE3 HBZ HTW HOK HSEP HVS HG2 hjF
      have hvl48 := HVLN.out
      go_wp2_with fail
      refine (trun_any _ A' _ c' caps D' _ d' ts HI.out HT.out HCN.out.symm rfl (by omega)).mono ?_
      rw [HTS.out, H1.out.1, H1.out.2]
      rintro e w1 ⟨AF, cF, rfl, hf1, bb⟩
      have HF1 := Lib.hid hf1
      clear hf1
      skip
      replace HI := Lib.hid (HI.out.below bb)
      replace HT := Lib.hid (HT.out.below bb)
      replace HU := Lib.hid (HU.out.below bb)
      replace HI2 := Lib.hid (HI2.out.below bb)
      replace HTV := Lib.hid (HTV.out.below bb)
      try replace bk1 := bk1.below bb
      try replace bk2 := bk2.below bb
      try replace bk3 := bk3.below bb
      try replace HF1 := Lib.hid (HF1.out.below bb)
      try replace HF2 := Lib.hid (HF2.out.below bb)
      try replace HF3 := Lib.hid (HF3.out.below bb)
      replace bwr := below_on bwr bb bwr.size
      clear bb
      go_upto_region 15 with fail
      obtain ⟨bk1, bb, _⟩ := bk2_alloc w1 (.slice AF S1.fn.length cF) (.int .i64 S1.tk) 29
      have HB9 := Lib.hid bk1
      clear bk1
      replace HI := Lib.hid (HI.out.below bb)
      replace HT := Lib.hid (HT.out.below bb)
      replace HU := Lib.hid (HU.out.below bb)
      replace HI2 := Lib.hid (HI2.out.below bb)
      replace HTV := Lib.hid (HTV.out.below bb)
      try replace bk1 := bk1.below bb
      try replace bk2 := bk2.below bb
      try replace bk3 := bk3.below bb
      try replace HF1 := Lib.hid (HF1.out.below bb)
      try replace HF2 := Lib.hid (HF2.out.below bb)
      try replace HF3 := Lib.hid (HF3.out.below bb)
      replace bwr := below_on bwr bb bwr.size
      clear bb
      have bk1 := HB9.out
      clear HB9
      generalize (w1.alloc (.cells #[.slice AF S1.fn.length cF, .int .i64 S1.tk] 29)) = wm at *
      generalize w1.heap.size = g1 at bk1 ⊢
      go_wp2_with fail
      refine (trun_any _ A' _ c' caps E' _ f' us HI.out HU.out HCN.out.symm rfl (by omega)).mono ?_
      rw [HUS.out, H2.out.1, H2.out.2]
      rintro e w3 ⟨AG, cG, rfl, hf2, bb⟩
      have HF2 := Lib.hid hf2
      clear hf2
      have HF2' := HF2
      clear HF2
      skip
      replace HI := Lib.hid (HI.out.below bb)
      replace HT := Lib.hid (HT.out.below bb)
      replace HU := Lib.hid (HU.out.below bb)
      replace HI2 := Lib.hid (HI2.out.below bb)
      replace HTV := Lib.hid (HTV.out.below bb)
      try replace bk1 := bk1.below bb
      try replace bk2 := bk2.below bb
      try replace bk3 := bk3.below bb
      try replace HF1 := Lib.hid (HF1.out.below bb)
      try replace HF2 := Lib.hid (HF2.out.below bb)
      try replace HF3 := Lib.hid (HF3.out.below bb)
      replace bwr := below_on bwr bb bwr.size
      clear bb
      have HF2 := HF2'
      clear HF2'
      skip
      go_upto_region 16 with fail
      obtain ⟨bk2, bb, _⟩ := bk2_alloc w3 (.slice AG S2.fn.length cG) (.int .i64 S2.tk) 29
      have HB9 := Lib.hid bk2
      clear bk2
      replace HI := Lib.hid (HI.out.below bb)
      replace HT := Lib.hid (HT.out.below bb)
      replace HU := Lib.hid (HU.out.below bb)
      replace HI2 := Lib.hid (HI2.out.below bb)
      replace HTV := Lib.hid (HTV.out.below bb)
      try replace bk1 := bk1.below bb
      try replace bk2 := bk2.below bb
      try replace bk3 := bk3.below bb
      try replace HF1 := Lib.hid (HF1.out.below bb)
      try replace HF2 := Lib.hid (HF2.out.below bb)
      try replace HF3 := Lib.hid (HF3.out.below bb)
      replace bwr := below_on bwr bb bwr.size
      clear bb
      have bk2 := HB9.out
      clear HB9
      generalize (w3.alloc (.cells #[.slice AG S2.fn.length cG, .int .i64 S2.tk] 29)) = wm at *
      generalize w3.heap.size = g2 at bk2 ⊢
      go_wp2_with fail
      refine (trun_any _ A2 _ c2 (caps ++ caps) A3 _ c3 vs HI2.out HTV.out (by rw [List.length_append, HCN.out]) HVLN.out.symm (by omega)).mono ?_
      rw [HVT.out, H3.out.1, H3.out.2]
      rintro e w5 ⟨AH, cH, rfl, hf3, bb⟩
      have HF3 := Lib.hid hf3
      clear hf3
      have HF3' := HF3
      clear HF3
      skip
      replace HI := Lib.hid (HI.out.below bb)
      replace HT := Lib.hid (HT.out.below bb)
      replace HU := Lib.hid (HU.out.below bb)
      replace HI2 := Lib.hid (HI2.out.below bb)
      replace HTV := Lib.hid (HTV.out.below bb)
      try replace bk1 := bk1.below bb
      try replace bk2 := bk2.below bb
      try replace bk3 := bk3.below bb
      try replace HF1 := Lib.hid (HF1.out.below bb)
      try replace HF2 := Lib.hid (HF2.out.below bb)
      try replace HF3 := Lib.hid (HF3.out.below bb)
      replace bwr := below_on bwr bb bwr.size
      clear bb
      have HF3 := HF3'
      clear HF3'
      skip
      go_upto_region 17 with fail
      obtain ⟨bk3, bb, _⟩ := bk2_alloc w5 (.slice AH S3.fn.length cH) (.int .i64 S3.tk) 29
      have HB9 := Lib.hid bk3
      clear bk3
      replace HI := Lib.hid (HI.out.below bb)
      replace HT := Lib.hid (HT.out.below bb)
      replace HU := Lib.hid (HU.out.below bb)
      replace HI2 := Lib.hid (HI2.out.below bb)
      replace HTV := Lib.hid (HTV.out.below bb)
      try replace bk1 := bk1.below bb
      try replace bk2 := bk2.below bb
      try replace bk3 := bk3.below bb
      try replace HF1 := Lib.hid (HF1.out.below bb)
      try replace HF2 := Lib.hid (HF2.out.below bb)
      try replace HF3 := Lib.hid (HF3.out.below bb)
      replace bwr := below_on bwr bb bwr.size
      clear bb
      have bk3 := HB9.out
      clear HB9
      generalize (w5.alloc (.cells #[.slice AH S3.fn.length cH, .int .i64 S3.tk] 29)) = wm at *
      generalize w5.heap.size = g3 at bk3 ⊢
      have hE : (E1 = 0 ∨ E1 = 113) ∧ (E2 = 0 ∨ E2 = 113) := ⟨by rw [← H1.out.2]; exact HTL.out, by rw [← H2.out.2]; exact HTM.out⟩
      have hll2 := HLL.out
      have hml2 := HML.out
      have hcb := check_both HVL.out HVM.out (by omega) (by omega)
      rw [H1.out.2, H2.out.2, H3.out.2] at hcb
      by_cases hz : E1 = 0 ∧ E2 = 0
      · have hrb := run_both (caps := caps) (l := l) (m := m) (by omega) (by omega) (by rw [H1.out.2]; exact hz.1) (by rw [H2.out.2]; exact hz.2)
        rw [H1.out.1, H2.out.1, H3.out.1] at hrb
        have hs1 : S1.fn.length ≤ 6 := by have := runS_len caps l; rw [H1.out.1] at this; omega
        have hs2 : S2.fn.length ≤ 6 := by have := runS_len caps m; rw [H2.out.1] at this; omega
        rw [if_pos hz] at hcb
        obtain ⟨rfl, rfl⟩ := hz
        clear hE H1 H2 H3 HI HT HU HI2 HTV
        subst hcb
        obtain ⟨hfn, htk⟩ := hrb
        go_upto_region 19 with fail
        have htk2 : (max S1.tk S2.tk == (if S1.tk < S2.tk then S2.tk else S1.tk)) = true := by rw [beq_iff_eq]; split <;> omega
        have HTK := Lib.hid htk2
        clear htk2
        go_region_held3 (fun w' => w'.cell? ⟨g1, 0, none⟩ = some (.slice AF S1.fn.length cF) ∧ w'.cell? ⟨g1, 1, none⟩ = some (.int .i64 S1.tk) ∧ w'.cell? ⟨g2, 0, none⟩ = some (.slice AG S2.fn.length cG) ∧ w'.cell? ⟨g2, 1, none⟩ = some (.int .i64 S2.tk) ∧ w'.cell? ⟨g3, 0, none⟩ = some (.slice AH S3.fn.length cH) ∧ w'.cell? ⟨g3, 1, none⟩ = some (.int .i64 S3.tk))
          (first | exact ⟨bk1.c0, bk1.c1, bk2.c0, bk2.c1, bk3.c0, bk3.c1⟩ | go_keep)
          (first
            | (go_at_call 10
               refine (awake_any _).mono ?_
               rintro e w7 ⟨rfl, bb⟩
               repeat replace bb := below_undr bb
               replace bk1 := bk1.below bb
               replace bk2 := bk2.below bb
               replace bk3 := bk3.below bb
               replace HF1 := Lib.hid (HF1.out.below bb)
               replace HF2 := Lib.hid (HF2.out.below bb)
               replace HF3 := Lib.hid (HF3.out.below bb)
               replace bwr := below_on bwr bb bwr.size
               have hsz9 := bb.size
               clear bb
               skip)
            | (go_at_call 20
               refine (same_any _ AH _ cH S3.fn A6 _ c6 ([] ++ S1.fn ++ S2.fn) true HF3.out h6 (by simp [hfn]) (by simp) (decide_eq_true (by simpa using hfn))).mono ?_
               rintro e w10 ⟨rfl, bb⟩
               repeat replace bb := below_undr bb
               replace bk1 := bk1.below bb
               replace bk2 := bk2.below bb
               replace bk3 := bk3.below bb
               replace HF1 := Lib.hid (HF1.out.below bb)
               replace HF2 := Lib.hid (HF2.out.below bb)
               replace HF3 := Lib.hid (HF3.out.below bb)
               replace bwr := below_on bwr bb bwr.size
               have hsz9 := bb.size
               clear bb
               skip)
            | (refine step_append_ivg _ (mk := iv) (fun _ => rfl) rfl _ _ 22 rfl 3 i1 (iv 0) 8 Try.underlying22 hi hi0 hi1 hi2 rfl (B := w7.heap.size) (xs := []) rfl rfl (Gr.nil _ _) AF S1.fn.length cF S1.fn rfl rfl (by first | exact HF1.out.rd | exact rdi_drew HF1.out.rd) (by simp only [maxLen]; omega) (by omega) (Nat.le_refl _) ?_
               intro A5 c5 w8 hg5 _ bb _
               repeat replace bb := below_undr bb
               have HK7 := Lib.hid (And.intro bk1 (And.intro bk2 (And.intro bk3 (And.intro HF1.out (And.intro HF2.out (And.intro HF3.out bwr))))))
               have HB78 := Lib.hid bb
               replace bk1 := bk1.below bb
               replace bk2 := bk2.below bb
               replace bk3 := bk3.below bb
               replace HF1 := Lib.hid (HF1.out.below bb)
               replace HF2 := Lib.hid (HF2.out.below bb)
               replace HF3 := Lib.hid (HF3.out.below bb)
               replace bwr := below_on bwr bb bwr.size
               have hsz9 := bb.size
               clear bb
               skip)
            | (refine step_append_ivg _ (mk := iv) (fun _ => rfl) rfl _ _ 22 rfl 3 i1 (iv 0) 8 Try.underlying22 hi hi0 hi1 hi2 rfl (B := w7.heap.size) (xs := [] ++ S1.fn) rfl (by simp) hg5 AG S2.fn.length cG S2.fn rfl rfl (by first | exact HF2.out.rd | exact rdi_drew HF2.out.rd) (by simp only [maxLen]; omega) (by omega) (by assumption) ?_
               intro A6 c6 w9 hg6 _ bb0 _
               have h6 := hg6.is (fun u hu => by rcases List.mem_append.1 (by simpa using hu) with h | h; exact HF1.out.wf u h; exact HF2.out.wf u h)
               have bb := HB78.out.trans bb0
               clear bk1 bk2 bk3 HF1 HF2 HF3 bwr
               obtain ⟨bk1, bk2, bk3, HF1, HF2, HF3, bwr⟩ := HK7.out
               replace HF1 := Lib.hid HF1
               replace HF2 := Lib.hid HF2
               replace HF3 := Lib.hid HF3
               replace bk1 := bk1.below bb
               replace bk2 := bk2.below bb
               replace bk3 := bk3.below bb
               replace HF1 := Lib.hid (HF1.out.below bb)
               replace HF2 := Lib.hid (HF2.out.below bb)
               replace HF3 := Lib.hid (HF3.out.below bb)
               replace bwr := below_on bwr bb bwr.size
               have hsz9 := bb.size
               clear bb
               skip))
        all_goals
          try rw [HTK.out]
          go_wp2_with fail
          all_goals
            go_ret
            exact ⟨rfl, bwr⟩
      · rw [if_neg hz] at hcb
        subst hcb
        clear H1 H2 H3
        obtain ⟨hE1, hE2⟩ := hE
        rcases hE1 with rfl | rfl <;> rcases hE2 with rfl | rfl
        · exact absurd ⟨rfl, rfl⟩ hz
        all_goals
          go_wp2_with fail
          refine (awake_any _).mono ?_
          rintro e w7 ⟨rfl, bb⟩
          replace bwr := below_on bwr bb bwr.size
          clear bb
          go_wp2_with fail
          go_ret
          exact ⟨rfl, bwr⟩
end Go.Proofs.Ytgjhjdjbhmblmaa
