/- The walk of the reference's Run. -/
import Derived.Test.YtgjhjdjbhmblmaaTrO
namespace Go.Proofs.Ytgjhjdjbhmblmaa
open Go.RowKit

/-- how many are not zero -/
def opn (xs : List Int) : Nat := xs.countP fun x => decide (0 < x)
theorem opn_take_succ (xs : List Int) (k : Nat) (h : k < xs.length) : opn (xs.take (k + 1)) = opn (xs.take k) + if 0 < xs[k] then 1 else 0 := by
  rw [List.take_succ_eq_append_getElem h, opn, List.countP_append, opn]
  by_cases h0 : 0 < xs[k] <;> simp [List.countP_cons, h0]
theorem opn_set (xs : List Int) (j : Nat) (v : Int) (h : j < xs.length) : opn (xs.set j v) + (if 0 < xs[j] then 1 else 0) = opn xs + if 0 < v then 1 else 0 := by
  induction xs generalizing j with
  | nil => simp at h
  | cons x xs ih =>
    cases j with
    | zero =>
      simp only [List.set_cons_zero, opn, List.countP_cons, List.getElem_cons_zero, decide_eq_true_eq]
      omega
    | succ j =>
      have := ih j (by simpa using h)
      simp only [opn] at this
      simp only [List.set_cons_succ, opn, List.countP_cons, List.getElem_cons_succ]
      omega
theorem opn_zero {xs : List Int} (h : ∀ j, j < xs.length → 0 ≤ xs.getD j 0) : opn xs = 0 ↔ ∀ j, j < xs.length → xs.getD j 0 = 0 := by
  rw [opn, List.countP_eq_zero]
  constructor
  · intro h1 j hj
    have := h1 _ (List.getElem_mem hj)
    have h2 := h j hj
    rw [getD_lt _ _ _ hj] at h2 ⊢
    simp only [decide_eq_true_eq] at this
    omega
  · intro h1 x hx
    obtain ⟨j, hj, rfl⟩ := List.getElem_of_mem hx
    have := h1 j hj
    rw [getD_lt _ _ _ hj] at this
    simp [this]
/-- two rows, and they do not lie in one block -/
def apart2 (AF AL : Option Addr) : Prop := ∀ a b, AF = some a → AL = some b → a.block ≠ b.block
theorem apart2.app {AF AL AF' : Option Addr} {z : Nat} (h : apart2 AF AL) (hL : ∀ b, AL = some b → b.block < z) (hat : AF'.map (·.block) = AF.map (·.block) ∨ AF'.map (·.block) = some z) : apart2 AF' AL := by
  intro a b e1 e2
  subst e1
  rcases hat with hat | hat
  · cases AF with
    | none => simp at hat
    | some f =>
      simp only [Option.map_some, Option.some.injEq] at hat
      rw [hat]; exact h f b rfl e2
  · simp only [Option.map_some, Option.some.injEq] at hat
    have := hL b e2
    omega
theorem apart2.symm {AF AL : Option Addr} (h : apart2 AF AL) : apart2 AL AF := fun a b e1 e2 => (h b a e2 e1).symm
/-- not that block -/
def offB (A : Option Addr) (G : Nat) : Prop := ∀ a, A = some a → a.block ≠ G
theorem offB.app {A A' : Option Addr} {G z : Nat} (h : offB A G) (hG : G < z) (hat : A'.map (·.block) = A.map (·.block) ∨ A'.map (·.block) = some z) : offB A' G := by
  intro a e
  subst e
  rcases hat with hat | hat
  · cases A with
    | none => simp at hat
    | some f =>
      simp only [Option.map_some, Option.some.injEq] at hat
      rw [hat]; exact h f rfl
  · simp only [Option.map_some, Option.some.injEq] at hat
    omega
theorem offB.row {A : Option Addr} {G : Nat} (h : offB A G) : some G ≠ A.map (·.block) := by
  cases A with
  | none => simp
  | some a => simp; exact fun e => h a rfl e.symm
theorem Bk2.grown {w w' : World} {G : Nat} {v0 v1 : Value} {row : Option Nat} (h : Bk2 w G v0 v1) (hg : w.grownBy w' row) (hne : some G ≠ row) : Bk2 w' G v0 v1 := by
  have hb : w'.heap[G]? = w.heap[G]? := hg.block G h.lt hne
  refine ⟨hg.cell h.c0 hne, hg.cell h.c1 hne, ?_, ?_, Nat.lt_of_lt_of_le h.lt hg.size⟩
  · rw [← h.f0]; exact World.frozen?_of_block hb
  · rw [← h.f1]; exact World.frozen?_of_block hb
theorem Bk2.put0 {w : World} {G : Nat} {v0 v1 : Value} (h : Bk2 w G v0 v1) (u : Value) : Bk2 (w.setCell ⟨G, 0, none⟩ u) G u v1 := by
  have h0 := h.c0
  have h1 := h.c1
  have f0 := h.f0
  have f1 := h.f1
  have hl := h.lt
  exact ⟨by go_simp, by go_simp, by go_simp, by go_simp, by simpa [World.setCell] using hl⟩
theorem apart2.row {AF AL : Option Addr} (h : apart2 AF AL) : ∀ a, AF = some a → some a.block ≠ AL.map (·.block) := by
  intro a e
  cases AL with
  | none => simp
  | some b => simp; exact h a b e rfl
/-- the lists as far as they are laid -/
structure LW (w wr : World) (G4 G7 : Nat) (AF AL : Option Addr) (cF cL : Nat) (fn left : List Int) : Prop where
  ff : Gr iv 3 wr w.heap.size AF cF fn
  lf : Gr iv 3 wr w.heap.size AL cL left
  oc : Bk2 wr G7 (.slice AF fn.length cF) (.int .i64 0)
  rc : Bk2 wr G4 (.slice none 0 0) (.int .i64 0)
  bw : Below w.heap.size w wr
  d2 : apart2 AF AL
  f7 : offB AF G7
  f4 : offB AF G4
  l7 : offB AL G7
  l4 : offB AL G4
theorem int_one (w : World) (v : Int) (e : TypeId) : Rd iv (w.alloc (.cells #[.int .i64 v] e)) (some ⟨w.heap.size, 0, none⟩) [v] := Rd.one w e v
set_option maxRecDepth 100000 in
set_option maxHeartbeats 4000000 in
theorem trrun_ok (w : World) (A : Option Addr) (n c : Nat) (caps : List Int) (D : Option Addr) (m d : Nat) (ts : List Tm) (hA : Is w A c caps) (hD : Ts w D d ts) (hn : n = caps.length) (hm : m = ts.length) (h60 : ts.length ≤ 60) (l : List Tr) (hl : ts.map Tm.tr = l) (hE : checkM caps l = 0) (N : Nat) (hN : allZ (simM caps l N)) (hN3 : N ≤ 300000) :
    Calls Try.prog 21 #[.slice A n c, .slice D m d] w (RunRes w (simM caps l N) 0) := by
  have HA := Lib.hid hA; clear hA
  have HD := Lib.hid hD; clear hD
  have HL := Lib.hid hl
  have HE : Hid (checkM caps (ts.map Tm.tr) = 0) := Lib.hid (by rw [hl]; exact hE)
  have HV := Lib.hid (checkM_zero hE).1
  have HN := Lib.hid hN
  have l0 : l.length = ts.length := by rw [← hl, List.length_map]
  clear hl hE hN
  subst hn hm
  obtain ⟨i1, hi, hi0, hi1, hi2⟩ := info_parts int_info
  go_enter Try.func21, Try.ntmps21
  go_upto_region 1 with fail
  obtain ⟨bk, b0, z0⟩ := bk2_alloc w (.slice none 0 0) (.int .i64 0) 29
  generalize (w.alloc (.cells #[.slice none 0 0, .int .i64 0] 29)) = w0 at bk b0 z0 ⊢
  go_wp2_with fail
  refine (able_any w0 A _ c caps D _ d ts (HA.out.below b0) (HD.out.below b0) rfl rfl h60).mono ?_
  rw [HE.out]
  rintro e w1 ⟨rfl, bb⟩
  have bk1 := bk.below bb
  have bw1 := below_on b0 bb b0.size
  have hz1 := bb.size
  clear bk b0 bb
  go_upto_region 5 with fail
  obtain ⟨oc, b3, z3⟩ := bk2_alloc w1 (.slice none 0 0) (.int .i64 0) 29
  generalize (w1.alloc (.cells #[.slice none 0 0, .int .i64 0] 29)) = w3 at oc b3 z3 ⊢
  have hlt1 : w.heap.size < w1.heap.size := by omega
  have U0 : LW w w3 w.heap.size w1.heap.size none none 0 0 [] [] :=
    ⟨Gr.nil _ _, Gr.nil _ _, oc, bk1.below b3, below_on bw1 b3 bw1.size, (by intro a b e; cases e), (by intro a e; cases e), (by intro a e; cases e), (by intro a e; cases e), (by intro a e; cases e)⟩
  clear oc b3 z3 bk1 bw1 hz1 z0
  generalize w1.heap.size = g7 at *
  have hbl : (bytesM l).length = ts.length := by rw [bytesM_len, l0]
  have HBL := Lib.hid hbl
  clear hbl
  go_wp2_with fail
  go_loopw [8, 9, 10] (fun lv ov i wr => ∃ (k : Nat) (AF AL : Option Addr) (cF cL : Nat), k ≤ ts.length ∧ i = .int .i64 k ∧ ov = .int .i64 (opn ((bytesM l).take k) : Nat) ∧ lv = .slice AL ((bytesM l).take k).length cL ∧ LW w wr w.heap.size g7 AF AL cF cL (List.replicate k (-1)) ((bytesM l).take k)) (fun _ _ i _ => ts.length - (intOf i).toNat)
  case atStart => exact ⟨0, none, none, 0, 0, by omega, rfl, rfl, rfl, U0⟩
  case round =>
    clear U0
    obtain ⟨k, AF, AL, cF, cL, hk, rfl, rfl, rfl, hU⟩ := hrel
    have HU := Lib.hid hU
    clear hU
    have htl : ((bytesM l).take k).length = k := by rw [List.length_take, HBL.out]; omega
    rw [htl]
    have HTL := Lib.hid htl
    clear htl
    have hopk : opn ((bytesM l).take k) ≤ k := by
      have := List.countP_le_length (p := fun x : Int => decide (0 < x)) (l := (bytesM l).take k)
      rw [HTL.out] at this
      exact this
    by_cases hlt : k < ts.length
    · obtain ⟨ad, rfl, hc0, hc1, hc2, hok⟩ := (HD.out.below HU.out.bw).at k hlt
      have hkb : k < (bytesM l).length := by rw [HBL.out]; exact hlt
      have HB : Hid (ts[k].b = (bytesM l)[k]) := Lib.hid (by
        have e1 : k < l.length := by rw [l0]; exact hlt
        have : l.getD k ([], 0, 0) = ts[k].tr := by rw [← HL.out, getD_tr, getD_lt _ _ _ hlt]
        rw [getD_lt _ _ _ e1] at this
        simp only [bytesM, List.getElem_map, this])
      obtain ⟨x, hx⟩ : ∃ x, ts[k] = x := ⟨_, rfl⟩
      rw [hx] at hc0 hc1 hc2 HB
      have HOP := Lib.hid (opn_take_succ (bytesM l) k hkb)
      have HTS : Hid ((bytesM l).take k ++ [x.b] = (bytesM l).take (k + 1)) := Lib.hid (by rw [List.take_succ_eq_append_getElem hkb, HB.out])
      clear hok hc0 hc2
      have hhl : k = ((bytesM l).take k).length := HTL.out.symm
      have HHL := Lib.hid hhl
      clear hhl
      have bl := (Below.refl wr.heap.size wr).alloc (Nat.le_refl _) (.cells #[.int .i64 x.b] 3)
      have hww := HU.out.bw.size
      have zl := size_alloc wr (.cells #[.int .i64 x.b] 3)
      have hgl := HU.out.lf.below bl
      have hrow := int_one wr x.b 3
      have hg7 := HU.out.oc.lt
      have hg4 := HU.out.rc.lt
      go_upto_region 11 with (at_builtin; refine wpList_append_rd _ (mk := iv) (fun _ => rfl) rfl _ _ 22 rfl 3 i1 (iv 0) 8 Try.underlying22 hi hi0 hi1 hi2 rfl (B := w.heap.size) rfl HHL.out hgl (some ⟨wr.heap.size, 0, none⟩) 1 1 [x.b] rfl rfl hrow (by simp only [maxLen]; omega) (by omega) (by omega) ?_; intro AL2 cL2 wp hgp hgrp hbp hatp)
      rw [HTS.out] at hgp
      have hU2 : LW w wp w.heap.size g7 AF AL2 cF cL2 (List.replicate k (-1)) ((bytesM l).take (k + 1)) :=
        ⟨(HU.out.ff.below bl).grown hgrp HU.out.d2.row, hgp, (HU.out.oc.below bl).grown hgrp HU.out.l7.row, (HU.out.rc.below bl).grown hgrp HU.out.l4.row, (below_on HU.out.bw bl HU.out.bw.size).trans hbp,
         (HU.out.d2.symm.app (fun b e => by rw [zl]; have := (HU.out.ff.form.2.2 b e).2; omega) hatp).symm, HU.out.f7, HU.out.f4, HU.out.l7.app (by rw [zl]; omega) hatp, HU.out.l4.app (by rw [zl]; omega) hatp⟩
      have HU2 := Lib.hid hU2
      clear hgl hrow bl zl hgp hgrp hbp hatp hU2 HU hg7 hg4
      have bl := (Below.refl wp.heap.size wp).alloc (Nat.le_refl _) (.cells #[.int .i64 (-1)] 3)
      have hww := HU2.out.bw.size
      have zl := size_alloc wp (.cells #[.int .i64 (-1)] 3)
      have hgl := HU2.out.ff.below bl
      have hrow := int_one wp (-1) 3
      have hg7 := HU2.out.oc.lt
      have hg4 := HU2.out.rc.lt
      have oc0 := HU2.out.oc.c0
      rw [List.length_replicate] at oc0
      have HREP : Hid (k = (List.replicate k (-1 : Int)).length) := Lib.hid (by simp)
      go_upto_region 12 with (at_builtin; refine wpList_append_rd _ (mk := iv) (fun _ => rfl) rfl _ _ 22 rfl 3 i1 (iv 0) 8 Try.underlying22 hi hi0 hi1 hi2 rfl (B := w.heap.size) rfl HREP.out hgl (some ⟨wp.heap.size, 0, none⟩) 1 1 [-1] rfl rfl hrow (by simp only [maxLen]; omega) (by omega) (by omega) ?_; intro AF2 cF2 wq hgq hgrq hbq hatq; have ocq := (HU2.out.oc.below bl).grown hgrq HU2.out.f7.row; have oq0 := ocq.c0; have oqf := ocq.f0)
      have HRS : Hid (List.replicate k (-1 : Int) ++ [-1] = List.replicate (k + 1) (-1)) := Lib.hid (List.replicate_succ').symm
      rw [HRS.out] at hgq
      have hU3 : LW w (wq.setCell ⟨g7, 0, none⟩ (.slice AF2 (k + 1) cF2)) w.heap.size g7 AF2 AL2 cF2 cL2 (List.replicate (k + 1) (-1)) ((bytesM l).take (k + 1)) := by
        have e7 : offB AF2 g7 := HU2.out.f7.app (by rw [zl]; omega) hatq
        refine ⟨hgq.far (fun ad e => e7 ad e) _, ((HU2.out.lf.below bl).grown hgrq HU2.out.d2.symm.row).far (fun ad e => HU2.out.l7 ad e) _, ?_, ((HU2.out.rc.below bl).grown hgrq HU2.out.f4.row).far (show g7 ≠ w.heap.size by omega) _, ((below_on HU2.out.bw bl HU2.out.bw.size).trans hbq).setCell (p := ⟨g7, 0, none⟩) (show w.heap.size ≤ g7 by omega) _,
          HU2.out.d2.app (fun b e => by rw [zl]; have := (HU2.out.lf.form.2.2 b e).2; omega) hatq, e7, HU2.out.f4.app (by rw [zl]; omega) hatq, HU2.out.l7, HU2.out.l4⟩
        rw [List.length_replicate]
        exact ocq.put0 _
      have HU3 := Lib.hid hU3
      clear hgl hrow bl zl hgq hgrq hbq hatq hU3 HU2 hg7 hg4 oc0 ocq oq0 oqf hc1
      generalize (wq.setCell ⟨g7, 0, none⟩ (.slice AF2 (k + 1) cF2)) = wy at HU3 ⊢
      obtain ⟨ad', had, _, hc1, _, _⟩ := (HD.out.below HU3.out.bw).at k hlt
      injection had with had
      subst had
      rw [hx] at hc1
      have hlk1 : ((bytesM l).take (k + 1)).length = k + 1 := by rw [List.length_take, HBL.out]; omega
      have HLK1 := Lib.hid hlk1
      clear hlk1 hx
      by_cases hb : 0 < x.b
      · have hb' : decide (0 < x.b) = true := decide_eq_true hb
        have HOP2 : Hid ((opn ((bytesM l).take k) + 1 : Nat) = opn ((bytesM l).take (k + 1))) := Lib.hid (by rw [HOP.out, if_pos (by rw [← HB.out]; exact hb)])
        clear hb
        go_wp2_with fail
        go_roundw
        case rel => exact ⟨k + 1, AF2, AL2, cF2, cL2, by omega, by go_num, by rw [← HOP2.out]; go_num, by rw [HLK1.out], HU3.out⟩
        case measure => simp [intOf]; omega
      · have hb' : decide (0 < x.b) = false := decide_eq_false hb
        have HOP2 : Hid ((opn ((bytesM l).take k) : Nat) = opn ((bytesM l).take (k + 1))) := Lib.hid (by rw [HOP.out, if_neg (by rw [← HB.out]; exact hb)]; rfl)
        clear hb
        go_wp2_with fail
        go_roundw
        case rel => exact ⟨k + 1, AF2, AL2, cF2, cL2, by omega, by go_num, by rw [← HOP2.out], by rw [HLK1.out], HU3.out⟩
        case measure => simp [intOf]; omega
    · obtain rfl : k = ts.length := by omega
      have HI0 : Hid ((simM caps l 0).left = bytesM l ∧ (simM caps l 0).fn = List.replicate ts.length (-1) ∧ (simM caps l 0).tk = 0) := Lib.hid ⟨rfl, by rw [← l0]; rfl, rfl⟩
      have HTA : Hid ((bytesM l).take ts.length = bytesM l) := Lib.hid (List.take_of_length_le (by rw [HBL.out]; exact Nat.le_refl _))
      have U0 : SW ts.length w wr w.heap.size g7 AF AL cF cL (simM caps l 0) := by
        have e1 := HI0.out.1
        have e2 := HI0.out.2.1
        have e3 := HI0.out.2.2
        refine ⟨?_, ?_, ?_, HU.out.rc, HU.out.bw⟩
        · rw [e2]; exact HU.out.ff
        · rw [e1]; have := HU.out.lf; rw [HTA.out] at this; exact this
        · rw [e3]; have := HU.out.oc; rw [List.length_replicate] at this; exact this
      have d2 := Lib.hid HU.out.d2
      have f7 := Lib.hid HU.out.f7
      have f4 := Lib.hid HU.out.f4
      have l7 := Lib.hid HU.out.l7
      have l4 := Lib.hid HU.out.l4
      have hop0 : opn ((bytesM l).take ts.length) = opn (simM caps l 0).left := by rw [HTA.out, HI0.out.1]
      rw [hop0]
      clear hop0 HU hopk
      go_wp2_with fail
      go_loopg [9, 11] N (fun kn ov tv wr => ∃ T : Nat, kn + T = N ∧ ov = .int .i64 (opn (simM caps l T).left : Nat) ∧ tv = .int .i64 T ∧ SW ts.length w wr w.heap.size g7 AF AL cF cL (simM caps l T))
      case atStart => exact ⟨0, by omega, rfl, rfl, U0⟩
      case round =>
        clear U0
        obtain ⟨T, hT, rfl, rfl, hU⟩ := hrel
        have HU := Lib.hid hU
        clear hU
        have HI := Lib.hid (SInv.sim HV.out T (caps := caps))
        have hopk : opn (simM caps l T).left ≤ ts.length := by
          have := List.countP_le_length (p := fun x : Int => decide (0 < x)) (l := (simM caps l T).left)
          rw [HI.out.ll, l0] at this
          exact this
        have HOZ := Lib.hid (opn_zero (xs := (simM caps l T).left) (fun j hj => (HI.out.bd j (by rw [← HI.out.ll]; exact hj)).1))
        by_cases ho : 0 < opn (simM caps l T).left
        · have ho' : decide (0 < ((opn (simM caps l T).left : Nat) : Int)) = true := decide_eq_true (by omega)
          have hTN : T < N := by
            rcases Nat.lt_or_ge T N with h | h
            · exact h
            · exfalso
              have : T = N := by omega
              subst this
              have := HOZ.out.2 (fun j hj => HN.out j hj)
              omega
          have HOK : Hid (stepOk caps (ts.map Tm.tr) (simM caps l T).left T) := Lib.hid (by rw [HL.out]; exact HI.out.ok HV.out T)
          clear HOZ
          go_wp2_with fail
          have his := HU.out.lf.is (fun x hx => by have := HI.out.mem (fun t ht => (HV.out.1 t ht).2.1) x hx; omega)
          refine (trstep_any wr A _ c caps D _ d ts _ _ _ (simM caps l T).left T (HA.out.below HU.out.bw) (HD.out.below HU.out.bw) his rfl rfl (by rw [HI.out.ll, l0]) h60).mono ?_
          rintro e wn hres
          rw [StepRes, if_pos HOK.out] at hres
          obtain ⟨A2, c2, rfl, hgu, bb⟩ := hres
          rw [HL.out] at hgu ⊢
          have HU2 := Lib.hid (HU.out.below bb)
          obtain ⟨u, hu⟩ : ∃ u, sentM caps l (simM caps l T).left T = u := ⟨_, rfl⟩
          rw [hu] at hgu ⊢
          have HUU := Lib.hid hu
          have hul : u.length = ts.length := by rw [← hu, sentM_len, l0]
          have hA2 : ∀ ad, A2 = some ad → wr.heap.size ≤ ad.block := fun ad e => (hgu.form.2.2 ad e).1
          have hg7w : g7 < wr.heap.size := HU.out.oc.lt
          have hglw : ∀ ad, AL = some ad → ad.block < wr.heap.size := fun ad e => (HU.out.lf.form.2.2 ad e).2
          have hgnw : ∀ ad, AF = some ad → ad.block < wr.heap.size := fun ad e => (HU.out.ff.form.2.2 ad e).2
          have hww := HU.out.bw.size
          have HG := Lib.hid (hgu.more (B' := w.heap.size) (fun ad e => Nat.le_trans hww (hA2 ad e)))
          clear hgu his bb HU hu
          rw [hul]
          go_wp2_with fail
          go_loopw [9, 14] (fun ov iv' wz => ∃ (j o : Nat), j ≤ ts.length ∧ o ≤ ts.length ∧ ov = .int .i64 (o : Nat) ∧ iv' = .int .i64 j ∧ opn (fpart u T (simM caps l T) j).left = o ∧ SW ts.length w wz w.heap.size g7 AF AL cF cL (fpart u T (simM caps l T) j) ∧ Gr iv 3 wz w.heap.size A2 c2 u) (fun _ iv' _ => ts.length - (intOf iv').toNat)
          case atStart => exact ⟨0, _, by omega, hopk, rfl, rfl, rfl, HU2.out, HG.out⟩
          case round =>
            clear HU2 HG ho ho' hopk
            obtain ⟨j, o, hj, hol, rfl, rfl, hopn, hU, hG⟩ := hrel
            have HOPN := Lib.hid hopn
            have HU := Lib.hid hU
            have HG := Lib.hid hG
            clear hU hG hopn
            by_cases hlt2 : j < ts.length
            · have hul2 : j < u.length := by omega
              obtain ⟨gu, rfl⟩ := HG.out.some_ (by omega)
              obtain ⟨s, hs⟩ : ∃ s, fpart u T (simM caps l T) j = s := ⟨_, rfl⟩
              have hsl : s.left.length = ts.length := by rw [← hs, (fpart_len _ _ _ _).1, HI.out.ll, l0]
              have hsf : s.fn.length = ts.length := by rw [← hs, (fpart_len _ _ _ _).2, HI.out.lf, l0]
              rw [hs] at HU HOPN
              obtain ⟨gl, rfl⟩ := HU.out.lf.some_ (by omega)
              obtain ⟨gn, rfl⟩ := HU.out.ff.some_ (by omega)
              have q1 : gn ≠ gl := d2.out _ _ rfl rfl
              have q2 : gn ≠ g7 := f7.out _ rfl
              have q3 : gn ≠ w.heap.size := f4.out _ rfl
              have q4 : gl ≠ g7 := l7.out _ rfl
              have q5 : gl ≠ w.heap.size := l4.out _ rfl
              have hgu := hA2 _ rfl
              have hglz := hglw _ rfl
              have hgnz := hgnw _ rfl
              simp only at hgu hglz hgnz
              have uc := HG.out.cell j hul2
              have huc2 : ts.length ≤ c2 := by have := HG.out.form.1; omega
              have hlc2 : ts.length ≤ cL := by have := HU.out.lf.form.1; omega
              have hfc2 : ts.length ≤ cF := by have := HU.out.ff.form.1; omega
              have hle : j ≤ (simM caps l T).left.length := by rw [HI.out.ll, l0]; exact hj
              have hsj : s.left.getD j 0 = (simM caps l T).left.getD j 0 := by
                have := fpart_left u T (simM caps l T) j hle j
                rw [hs, if_neg (Nat.lt_irrefl _)] at this
                exact this
              have HS := Lib.hid hs
              have hbd := HI.out.bd j (by rw [l0]; exact hlt2)
              have hub := sentM_bd (by have := HOK.out; rw [HL.out] at this; exact this) j (by rw [l0]; exact hlt2)
              rw [HUU.out] at hub
              have hlm := limT_le (l := l) (t := (T : Int)) hbd.1
              have hb4 := (HV.out.1 _ (List.getElem_mem (show j < l.length by rw [l0]; exact hlt2))).2.1
              have hlj : j < s.left.length := by omega
              have hfj : j < s.fn.length := by omega
              rw [← hsj] at hbd hlm
              rw [getD_lt _ _ _ hlj] at hbd hlm
              rw [getD_lt _ _ _ hul2] at hub
              have b1 : 0 ≤ u[j] := hub.1
              have b2 : u[j] ≤ s.left[j] := by omega
              have b3 : s.left[j] ≤ 4096 := by omega
              have b4 : IntKind.i64.wrap (s.left[j] - u[j]) = s.left[j] - u[j] := IntWalk.i64_in _ (by omega)
              have lc := HU.out.lf.cell j hlj
              have lf := HU.out.lf.free j
              have HNX : Hid (fpart u T (simM caps l T) (j + 1) = fstep u T s j) := Lib.hid (by rw [fpart, HS.out])
              have hne1 : ¬ gl = gu := by omega
              have hOS := opn_set s.left j (s.left[j] - u[j]) hlj
              rw [HOPN.out] at hOS
              have HOS := Lib.hid hOS
              clear hbd hub hlm hb4 hsj hs hOS
              have HB2 := Lib.hid b2
              go_upto_region 21 with fail
              go_region
              have hU1 := (HU.out.setLeft j (s.left[j] - u[j]) q1 q4 q5).below (below_drew (Below.refl _ _))
              have hG1 := (HG.out.far (p := ⟨gl, j, none⟩) (by intro ad e; injection e with e; subst e; show gu ≠ gl; omega) (iv (s.left[j] - u[j]))).below (below_drew (Below.refl _ _))
              have hsn : (s.left.set j (s.left[j] - u[j]))[j]'(by rw [List.length_set]; exact hlj) = s.left[j] - u[j] := by simp
              have lc2 := hU1.lf.cell j (show j < (s.left.set j (s.left[j] - u[j])).length by rw [List.length_set]; exact hlj)
              rw [hsn] at lc2
              have uc2 := hG1.cell j hul2
              have HU1 := Lib.hid hU1
              have HG1 := Lib.hid hG1
              clear hU1 hG1 lc lf uc hsn HU HG b4
              generalize (wr.setCell ⟨gl, j, none⟩ (.int .i64 (s.left[j] - u[j]))).drew = wy at HU1 HG1 lc2 uc2 ⊢
              by_cases c1 : 0 < u[j]
              · by_cases c2' : s.left[j] - u[j] = 0
                · have c3 : (s.left[j] - u[j] == 0) = true := by simp [c2']
                  have HC2 := Lib.hid c2'
                  have HC1 := Lib.hid c1
                  have ho1 : 0 < o := by
                    have h1 := HOS.out
                    rw [if_pos (show 0 < s.left[j] by omega), if_neg (show ¬ 0 < s.left[j] - u[j] by omega)] at h1
                    omega
                  have HO2 : Hid (opn (s.left.set j (s.left[j] - u[j])) = o - 1) := Lib.hid (by
                    have h1 := HOS.out
                    rw [if_pos (show 0 < s.left[j] by omega), if_neg (show ¬ 0 < s.left[j] - u[j] by omega)] at h1
                    omega)
                  clear c2'
                  have fc := HU1.out.ff.cell j hfj
                  have ff := HU1.out.ff.free j
                  have oc0 := HU1.out.oc.c0
                  have oc1 := HU1.out.oc.c1
                  have of1 := HU1.out.oc.f1
                  have n3 : ¬ gn = g7 := q2
                  go_upto_region 25 with fail
                  have hU3 := (HU1.out.setFn j T (by omega) q2 q3).setTk (T + 1) q2 q4 (by omega) (by omega)
                  have hG3 := (HG1.out.far (p := ⟨gn, j, none⟩) (by intro ad e; injection e with e; subst e; show gu ≠ gn; omega) (iv T)).far (p := ⟨g7, 1, none⟩) (by intro ad e; injection e with e; subst e; show gu ≠ g7; omega) (.int .i64 (T + 1))
                  have HU3 := Lib.hid hU3
                  have HG3 := Lib.hid hG3
                  clear hU3 hG3 fc ff oc0 oc1 of1 lc2 uc2
                  go_wp2_with fail
                  go_roundw
                  case rel =>
                    refine ⟨j + 1, o - 1, by omega, by omega, by go_num, by go_num, ?_, ?_, HG3.out⟩
                    · rw [HNX.out, fstep, getD_lt _ _ _ hul2, getD_lt _ _ _ hlj, if_pos ⟨HC1.out, HC2.out⟩]
                      exact HO2.out
                    · rw [HNX.out, fstep, getD_lt _ _ _ hul2, getD_lt _ _ _ hlj, if_pos ⟨HC1.out, HC2.out⟩]
                      exact HU3.out
                  case measure => simp [intOf]; omega
                · have c3 : (s.left[j] - u[j] == 0) = false := beq_eq_false_iff_ne.2 c2'
                  have HC2 : Hid (¬ s.left[j] - u[j] = 0) := c2'
                  have HO2 : Hid (opn (s.left.set j (s.left[j] - u[j])) = o) := Lib.hid (by
                    have h1 := HOS.out
                    rw [if_pos (show 0 < s.left[j] by omega), if_pos (show 0 < s.left[j] - u[j] by omega)] at h1
                    omega)
                  clear c2'
                  go_wp2_with fail
                  go_roundw
                  case rel =>
                    refine ⟨j + 1, o, by omega, hol, rfl, by go_num, ?_, ?_, HG1.out⟩
                    · rw [HNX.out, fstep, getD_lt _ _ _ hul2, getD_lt _ _ _ hlj, if_neg (fun h => HC2.out h.2)]
                      exact HO2.out
                    · rw [HNX.out, fstep, getD_lt _ _ _ hul2, getD_lt _ _ _ hlj, if_neg (fun h => HC2.out h.2)]
                      exact HU1.out
                  case measure => simp [intOf]; omega
              · have c1' : decide (0 < u[j]) = false := decide_eq_false c1
                have HC1 : Hid (¬ 0 < u[j]) := c1
                have HO2 : Hid (opn (s.left.set j (s.left[j] - u[j])) = o) := Lib.hid (by
                  have h1 := HOS.out
                  rw [show s.left[j] - u[j] = s.left[j] by omega] at h1 ⊢
                  omega)
                clear c1
                go_wp2_with fail
                go_roundw
                case rel =>
                  refine ⟨j + 1, o, by omega, hol, rfl, by go_num, ?_, ?_, HG1.out⟩
                  · rw [HNX.out, fstep, getD_lt _ _ _ hul2, getD_lt _ _ _ hlj, if_neg (fun h => HC1.out h.1)]
                    exact HO2.out
                  · rw [HNX.out, fstep, getD_lt _ _ _ hul2, getD_lt _ _ _ hlj, if_neg (fun h => HC1.out h.1)]
                    exact HU1.out
                case measure => simp [intOf]; omega
            · have hjl : j = l.length := by omega
              have HNX : Hid (fpart u T (simM caps l T) j = simM caps l (T + 1)) := Lib.hid (by rw [simM, tickM, HUU.out, hjl])
              clear hjl
              go_wp2_with fail
              go_roundg (N - (T + 1))
              case rel => exact ⟨T + 1, by omega, by rw [← HNX.out, HOPN.out], by go_num, by rw [← HNX.out]; exact HU.out⟩
              case measure => omega
        · have HZ : Hid (simM caps l T = simM caps l N) := Lib.hid (sim_unique HV.out (HOZ.out.1 (by omega)) HN.out)
          have k0 := HU.out.oc.c0
          have k1 := HU.out.oc.c1
          have r0 := HU.out.rc.c0
          have r1 := HU.out.rc.c1
          have s0 := HU.out.rc.f0
          have s1 := HU.out.rc.f1
          go_wp2_with fail
          refine bodyPost_ret (v := .tuple #[.agg #[.slice AF ts.length cF, .int .i64 (simM caps l T).tk], .int .i64 0]) (by simp [results, Try.results21, go_sem, r0, r1]) rfl ?_
          have hfl : (simM caps l N).fn.length = ts.length := by rw [(simM_len caps l N).2, l0]
          have hd := (HU.out.ff.far (p := ⟨w.heap.size, 0, none⟩) (fun a e => f4.out a e) (.slice AF ts.length cF)).far (p := ⟨w.heap.size, 1, none⟩) (fun a e => f4.out a e) (.int .i64 (simM caps l T).tk)
          rw [HZ.out] at hd ⊢
          refine ⟨AF, cF, by rw [hfl], hd.is (fun x hx => by have := simM_fn_mem caps l N x hx; omega), ?_⟩
          exact (HU.out.bw.setCell (p := ⟨w.heap.size, 0, none⟩) (Nat.le_refl _) _).setCell (p := ⟨w.heap.size, 1, none⟩) (Nat.le_refl _) _
end Go.Proofs.Ytgjhjdjbhmblmaa
