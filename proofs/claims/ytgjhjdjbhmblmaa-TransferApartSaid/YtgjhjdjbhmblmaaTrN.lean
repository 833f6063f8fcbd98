/- The walk of transfer.Run. -/
import Derived.Test.YtgjhjdjbhmblmaaTrM
import Derived.Test.YtgjhjdjbhmblmaaTrS
import Derived.WalkMore
namespace Go.Proofs.Ytgjhjdjbhmblmaa
open Go.RowKit

/-- a block of two cells that can be written -/
structure Bk2 (w : World) (G : Nat) (v0 v1 : Value) : Prop where
  c0 : w.cell? ⟨G, 0, none⟩ = some v0
  c1 : w.cell? ⟨G, 1, none⟩ = some v1
  f0 : w.frozen? ⟨G, 0, none⟩ = false
  f1 : w.frozen? ⟨G, 1, none⟩ = false
  lt : G < w.heap.size
section
variable {w w' : World} {G H : Nat} {v0 v1 : Value}
theorem Bk2.below (h : Bk2 w G v0 v1) (hb : Below w.heap.size w w') : Bk2 w' G v0 v1 :=
  ⟨(hb.cell (p := ⟨G, 0, none⟩) h.lt).trans h.c0, (hb.cell (p := ⟨G, 1, none⟩) h.lt).trans h.c1, (hb.frozen (p := ⟨G, 0, none⟩) h.lt).trans h.f0, (hb.frozen (p := ⟨G, 1, none⟩) h.lt).trans h.f1, Nat.lt_of_lt_of_le h.lt hb.size⟩
theorem Bk2.far (h : Bk2 w G v0 v1) {p : Addr} (hne : p.block ≠ G) (u : Value) : Bk2 (w.setCell p u) G v0 v1 := by
  have hb : (w.setCell p u).heap[G]? = w.heap[G]? := Below.heap_setCell _ _ _ _ (fun e => hne e.symm)
  refine ⟨?_, ?_, ?_, ?_, by simpa [World.setCell] using h.lt⟩
  · rw [← h.c0]; exact World.cell?_of_block hb
  · rw [← h.c1]; exact World.cell?_of_block hb
  · rw [← h.f0]; exact World.frozen?_of_block hb
  · rw [← h.f1]; exact World.frozen?_of_block hb
theorem Bk2.put1 (h : Bk2 w G v0 v1) (u : Value) : Bk2 (w.setCell ⟨G, 1, none⟩ u) G v0 u := by
  have h0 := h.c0
  have h1 := h.c1
  have f0 := h.f0
  have f1 := h.f1
  have hl := h.lt
  exact ⟨by go_simp, by go_simp, by go_simp, by go_simp, by simpa [World.setCell] using hl⟩
end
theorem bk2_alloc (w : World) (v0 v1 : Value) (e : TypeId) : Bk2 (w.alloc (.cells #[v0, v1] e)) w.heap.size v0 v1 ∧ Below w.heap.size w (w.alloc (.cells #[v0, v1] e)) ∧ (w.alloc (.cells #[v0, v1] e)).heap.size = w.heap.size + 1 :=
  ⟨⟨by go_simp, by go_simp, by go_simp, by go_simp, by simp⟩, (Below.refl _ _).alloc (Nat.le_refl _) _, by simp⟩
/-- the state of Run in memory -/
structure SW (n : Nat) (w wr : World) (G4 G7 : Nat) (AF AL : Option Addr) (cF cL : Nat) (s : Sm) : Prop where
  ff : Gr iv 3 wr w.heap.size AF cF s.fn
  lf : Gr iv 3 wr w.heap.size AL cL s.left
  oc : Bk2 wr G7 (.slice AF n cF) (.int .i64 s.tk)
  rc : Bk2 wr G4 (.slice none 0 0) (.int .i64 0)
  bw : Below w.heap.size w wr
theorem SW.below {n : Nat} {w wr wn : World} {G4 G7 : Nat} {AF AL : Option Addr} {cF cL : Nat} {s : Sm} (h : SW n w wr G4 G7 AF AL cF cL s) (hb : Below wr.heap.size wr wn) : SW n w wn G4 G7 AF AL cF cL s :=
  ⟨h.ff.below hb, h.lf.below hb, h.oc.below hb, h.rc.below hb, below_on h.bw hb h.bw.size⟩
section
variable {n : Nat} {w wr : World} {G4 G7 gn gl : Nat} {cF cL : Nat} {s : Sm}
theorem SW.setFn (h : SW n w wr G4 G7 (some ⟨gn, 0, none⟩) (some ⟨gl, 0, none⟩) cF cL s) (i : Nat) (v : Int) (h1 : gl ≠ gn) (h2 : gn ≠ G7) (h3 : gn ≠ G4) : SW n w (wr.setCell ⟨gn, i, none⟩ (iv v)) G4 G7 (some ⟨gn, 0, none⟩) (some ⟨gl, 0, none⟩) cF cL ⟨s.left, s.fn.set i v, s.tk⟩ := by
  refine ⟨?_, h.lf.far (by intro ad e; injection e with e; subst e; exact h1) _, h.oc.far h2 _, h.rc.far h3 _, h.bw.setCell (p := ⟨gn, i, none⟩) (h.ff.form.2.2 _ rfl).1 _⟩
  show Gr iv _ _ _ _ _ _
  exact h.ff.store i v
theorem SW.setLeft (h : SW n w wr G4 G7 (some ⟨gn, 0, none⟩) (some ⟨gl, 0, none⟩) cF cL s) (i : Nat) (v : Int) (h1 : gn ≠ gl) (h2 : gl ≠ G7) (h3 : gl ≠ G4) : SW n w (wr.setCell ⟨gl, i, none⟩ (iv v)) G4 G7 (some ⟨gn, 0, none⟩) (some ⟨gl, 0, none⟩) cF cL ⟨s.left.set i v, s.fn, s.tk⟩ := by
  refine ⟨h.ff.far (by intro ad e; injection e with e; subst e; exact h1) _, ?_, h.oc.far h2 _, h.rc.far h3 _, h.bw.setCell (p := ⟨gl, i, none⟩) (h.lf.form.2.2 _ rfl).1 _⟩
  show Gr iv _ _ _ _ _ _
  exact h.lf.store i v
theorem SW.setTk (h : SW n w wr G4 G7 (some ⟨gn, 0, none⟩) (some ⟨gl, 0, none⟩) cF cL s) (v : Int) (h1 : gn ≠ G7) (h2 : gl ≠ G7) (h3 : G7 ≠ G4) (h4 : w.heap.size ≤ G7) : SW n w (wr.setCell ⟨G7, 1, none⟩ (.int .i64 v)) G4 G7 (some ⟨gn, 0, none⟩) (some ⟨gl, 0, none⟩) cF cL ⟨s.left, s.fn, v⟩ :=
  ⟨h.ff.far (by intro ad e; injection e with e; subst e; exact h1) _, h.lf.far (by intro ad e; injection e with e; subst e; exact h2) _, h.oc.put1 _, h.rc.far h3 _, h.bw.setCell (p := ⟨G7, 1, none⟩) h4 _⟩
end
/-- the least start among what is left, and whether nothing is left -/
def NxInv (l : List Tr) (left : List Int) (j : Nat) (nv : Int) (db : Bool) : Prop :=
  (db = true → nv = -1 ∧ ∀ i, i < j → left.getD i 0 = 0) ∧ (db = false → 0 ≤ nv ∧ nv ≤ 4096 ∧ (∃ i, i < j ∧ left.getD i 0 ≠ 0) ∧ ∀ i (h : i < l.length), i < j → left.getD i 0 = 0 ∨ nv ≤ l[i].2.2)
theorem NxInv.start (l : List Tr) (left : List Int) : NxInv l left 0 (-1) true := ⟨fun _ => ⟨rfl, fun i h => by omega⟩, fun h => by cases h⟩
section
variable {l : List Tr} {left : List Int} {j : Nat} {nv : Int} {db : Bool}
theorem NxInv.zero (h : NxInv l left j nv db) (hz : left.getD j 0 = 0) : NxInv l left (j + 1) nv db := by
  refine ⟨fun e => ⟨(h.1 e).1, fun i hi => ?_⟩, fun e => ⟨(h.2 e).1, (h.2 e).2.1, ?_, fun i hi hij => ?_⟩⟩
  · rcases Nat.lt_or_ge i j with h1 | h1
    · exact (h.1 e).2 i h1
    · have : i = j := by omega
      subst this; exact hz
  · obtain ⟨i, hi, h0⟩ := (h.2 e).2.2.1
    exact ⟨i, by omega, h0⟩
  · rcases Nat.lt_or_ge i j with h1 | h1
    · exact (h.2 e).2.2.2 i hi h1
    · have : i = j := by omega
      subst this; exact .inl hz
theorem NxInv.take (h : NxInv l left j nv db) (hz : left.getD j 0 ≠ 0) (s : Int) (hj : j < l.length) (hs : s = l[j].2.2) (h0 : 0 ≤ s) (h1 : s ≤ 4096) (hc : nv < 0 ∨ s < nv) : NxInv l left (j + 1) s false := by
  refine ⟨(fun e => by cases e), fun _ => ⟨h0, h1, ⟨j, Nat.lt_succ_self _, hz⟩, fun i hi hij => ?_⟩⟩
  rcases Nat.lt_or_ge i j with h2 | h2
  · cases db with
    | true => exact .inl ((h.1 rfl).2 i h2)
    | false =>
      have h3 := h.2 rfl
      rcases h3.2.2.2 i hi h2 with h4 | h4
      · exact .inl h4
      · right; have := h3.1; omega
  · have : i = j := by omega
    subst this; right; omega
theorem NxInv.keep (h : NxInv l left j nv db) (hz : left.getD j 0 ≠ 0) (s : Int) (hj : j < l.length) (hs : s = l[j].2.2) (hc : ¬ nv < 0) (hc2 : ¬ s < nv) : NxInv l left (j + 1) nv false := by
  have hdb : db = false := by
    cases db with
    | true => have := (h.1 rfl).1; omega
    | false => rfl
  subst hdb
  have h3 := h.2 rfl
  refine ⟨(fun e => by cases e), fun _ => ⟨h3.1, h3.2.1, ⟨j, Nat.lt_succ_self _, hz⟩, fun i hi hij => ?_⟩⟩
  rcases Nat.lt_or_ge i j with h2 | h2
  · exact h3.2.2.2 i hi h2
  · have : i = j := by omega
    subst this; right; omega
theorem NxInv.nv_bd (h : NxInv l left j nv db) : -1 ≤ nv ∧ nv ≤ 4096 := by
  cases db with
  | true => have := (h.1 rfl).1; omega
  | false => have := h.2 rfl; omega
end
/-- what Run hands back -/
def RunRes (w : World) (s : Sm) (E : Int) (e : Ending) (w' : World) : Prop :=
  ∃ A' c', e = .returned (.tuple #[.agg #[.slice A' s.fn.length c', .int .i64 s.tk], .int .i64 E]) ∧ Is w' A' c' s.fn ∧ Below w.heap.size w w'
/-- what Run begins with, written as far as i -/
def initTo (l : List Tr) (i : Nat) : Sm := ⟨(List.range l.length).map fun j => if j < i then (l.getD j ([], 0, 0)).2.1 else 0, (List.range l.length).map fun j => if j < i then -1 else 0, 0⟩
theorem initTo_zero (l : List Tr) : initTo l 0 = ⟨List.replicate l.length 0, List.replicate l.length 0, 0⟩ := by
  have : (List.range l.length).map (fun _ => (0 : Int)) = List.replicate l.length 0 := by
    apply List.ext_getElem <;> simp
  simp only [initTo, Nat.not_lt_zero, if_false, this]
theorem initTo_step (l : List Tr) (i : Nat) (_ : i < l.length) : initTo l (i + 1) = ⟨(initTo l i).left.set i (l.getD i ([], 0, 0)).2.1, (initTo l i).fn.set i (-1), 0⟩ := by
  have key : ∀ f : Nat → Int, (List.range l.length).map (fun j => if j < i + 1 then f j else 0) = ((List.range l.length).map fun j => if j < i then f j else 0).set i (f i) := fun f => by
    apply List.ext_getElem
    · simp
    · intro j h1 h2
      rw [List.getElem_set]
      simp only [List.getElem_map, List.getElem_range]
      by_cases e : i = j
      · subst e; simp
      · rw [if_neg e]
        by_cases h3 : j < i
        · rw [if_pos h3, if_pos (by omega)]
        · rw [if_neg h3, if_neg (by omega)]
  simp only [initTo]
  rw [key (fun j => (l.getD j ([], 0, 0)).2.1), key (fun _ => -1)]
theorem initTo_len (l : List Tr) (i : Nat) : (initTo l i).left.length = l.length ∧ (initTo l i).fn.length = l.length := by simp [initTo]
theorem initTo_all (caps : List Int) (l : List Tr) : initTo l l.length = simM caps l 0 := by
  simp only [initTo, simM, bytesM]
  congr 1
  · apply List.ext_getElem
    · simp
    · intro j h1 h2
      have hj : j < l.length := by simpa using h2
      simp [hj, List.getD_eq_getElem?_getD]
  · apply List.ext_getElem
    · simp
    · intro j h1 h2
      have hj : j < l.length := by simpa using h2
      simp [hj]
theorem trun_bad (w : World) (A : Option Addr) (n c : Nat) (caps : List Int) (D : Option Addr) (m d : Nat) (ts : List Tm) (hA : Is w A c caps) (hD : Ts w D d ts) (hn : n = caps.length) (hm : m = ts.length) (h60 : ts.length ≤ 60) (E : Int) (hE : checkM caps (ts.map Tm.tr) = E) (h0 : E ≠ 0) :
    Calls Try.prog 13 #[.slice A n c, .slice D m d] w (RunRes w ⟨[], [], 0⟩ E) := by
  have HA := Lib.hid hA; clear hA
  have HD := Lib.hid hD; clear hD
  have HE := Lib.hid hE; clear hE
  subst hn hm
  have h0' : (E == 0) = false := beq_eq_false_iff_ne.2 h0
  have h0'' : (E != 0) = true := by simp [h0]
  clear h0
  go_enter Try.func13, Try.ntmps13
  go_upto_region 1 with fail
  obtain ⟨bk, b0, z0⟩ := bk2_alloc w (.slice none 0 0) (.int .i64 0) 29
  generalize (w.alloc (.cells #[.slice none 0 0, .int .i64 0] 29)) = w0 at bk b0 z0 ⊢
  go_wp2_with fail
  go_step3
  go_wp2_with fail
  refine (tcheck_any w0 A _ c caps D _ d ts (HA.out.below b0) (HD.out.below b0) rfl rfl h60).mono ?_
  rw [HE.out]
  rintro e w1 ⟨rfl, bb⟩
  have bk1 := bk.below bb
  have k0 := bk1.c0
  have k1 := bk1.c1
  have kf0 := bk1.f0
  have kf1 := bk1.f1
  have bw := below_on b0 bb b0.size
  clear bk b0 bb
  go_wp2_with fail
  refine bodyPost_ret (v := .tuple #[.agg #[.slice none 0 0, .int .i64 0], .int .i64 E]) (by simp [results, Try.results13, go_sem, k0, k1]) rfl ?_
  exact ⟨none, 0, rfl, Is.nil _ _ _ (by omega), (bw.setCell (p := ⟨w.heap.size, 0, none⟩) (Nat.le_refl _) _).setCell (p := ⟨w.heap.size, 1, none⟩) (Nat.le_refl _) _⟩
theorem far1 {w : World} {g G k j : Nat} {a v : Value} (h : w.cell? ⟨G, j, none⟩ = some v) (hne : g ≠ G) : (w.setCell ⟨g, k, none⟩ a).drew.cell? ⟨G, j, none⟩ = some v := by
  show (w.setCell ⟨g, k, none⟩ a).cell? ⟨G, j, none⟩ = some v
  rw [World.cell?_setCell_far _ _ _ _ hne]; exact h
theorem far2 {w : World} {g g' G k k' j : Nat} {a b v : Value} (h : w.cell? ⟨G, j, none⟩ = some v) (hne : g ≠ G) (hne' : g' ≠ G) : ((w.setCell ⟨g, k, none⟩ a).setCell ⟨g', k', none⟩ b).drew.cell? ⟨G, j, none⟩ = some v := by
  show ((w.setCell ⟨g, k, none⟩ a).setCell ⟨g', k', none⟩ b).cell? ⟨G, j, none⟩ = some v
  rw [World.cell?_setCell_far _ _ _ _ hne', World.cell?_setCell_far _ _ _ _ hne]; exact h
theorem gr_of_is {w : World} {B c : Nat} {e : TypeId} {A : Option Addr} {xs : List Int} (h : Gr iv e w B A c xs) (hw : ∀ x ∈ xs, -9223372036854775808 ≤ x ∧ x ≤ 9223372036854775807) : Is w A c xs := h.is hw
set_option maxRecDepth 100000 in
set_option maxHeartbeats 4000000 in
theorem trun_ok (w : World) (A : Option Addr) (n c : Nat) (caps : List Int) (D : Option Addr) (m d : Nat) (ts : List Tm) (hA : Is w A c caps) (hD : Ts w D d ts) (hn : n = caps.length) (hm : m = ts.length) (h60 : ts.length ≤ 60) (l : List Tr) (hl : ts.map Tm.tr = l) (hE : checkM caps l = 0) (N : Nat) (hN : allZ (simM caps l N)) (hN3 : N ≤ 300000) :
    Calls Try.prog 13 #[.slice A n c, .slice D m d] w (RunRes w (simM caps l N) 0) := by
  have HA := Lib.hid hA; clear hA
  have HD := Lib.hid hD; clear hD
  have HL := Lib.hid hl
  have HE : Hid (checkM caps (ts.map Tm.tr) = 0) := Lib.hid (by rw [hl]; exact hE)
  have HV := Lib.hid (checkM_zero hE).1
  have HN := Lib.hid hN
  have l0 : l.length = ts.length := by rw [← hl, List.length_map]
  clear hl hE hN
  subst hn hm
  obtain ⟨i1, hi, hi0, hi1, hi2⟩ := info_parts int_info
  go_enter Try.func13, Try.ntmps13
  go_upto_region 1 with fail
  obtain ⟨bk, b0, z0⟩ := bk2_alloc w (.slice none 0 0) (.int .i64 0) 29
  generalize (w.alloc (.cells #[.slice none 0 0, .int .i64 0] 29)) = w0 at bk b0 z0 ⊢
  go_wp2_with fail
  go_step3
  go_wp2_with fail
  refine (tcheck_any w0 A _ c caps D _ d ts (HA.out.below b0) (HD.out.below b0) rfl rfl h60).mono ?_
  rw [HE.out]
  rintro e w1 ⟨rfl, bb⟩
  have bk1 := bk.below bb
  have bw1 := below_on b0 bb b0.size
  have hz1 := bb.size
  clear bk b0 bb
  go_upto_region 5 with (refine wpList_make_rd w1 (mk := iv) 0 rfl _ _ 22 rfl 3 i1 8 Try.underlying22 hi hi0 hi1 hi2 rfl .i64 .i64 _ _ (ts.length) rfl rfl (by omega) (by omega) (by omega) (by simp only [maxLen]; omega) ?_; intro w2 hg2 hb2 hs2)
  obtain ⟨oc, b3, z3⟩ := bk2_alloc w2 (.slice (some ⟨w1.heap.size, 0, none⟩) ts.length ts.length) (.int .i64 0) 29
  generalize (w2.alloc (.cells #[.slice (some ⟨w1.heap.size, 0, none⟩) ts.length ts.length, .int .i64 0] 29)) = w3 at oc b3 z3 ⊢
  go_upto_region 6 with (refine wpList_make_rd w3 (mk := iv) 0 rfl _ _ 22 rfl 3 i1 8 Try.underlying22 hi hi0 hi1 hi2 rfl .i64 .i64 _ _ (ts.length) rfl rfl (by omega) (by omega) (by omega) (by simp only [maxLen]; omega) ?_; intro w4 hg4 hb4 hs4)
  have hlt0 : w.heap.size < w1.heap.size := by omega
  have hlt1 : w1.heap.size < w2.heap.size := hs2
  have hlt2 : w2.heap.size < w3.heap.size := by omega
  have hbw4 : Below w.heap.size w w4 := below_on (below_on (below_on bw1 hb2 bw1.size) b3 (by omega)) hb4 (by omega)
  have U0 : SW ts.length w w4 w.heap.size w2.heap.size (some ⟨w1.heap.size, 0, none⟩) (some ⟨w3.heap.size, 0, none⟩) ts.length ts.length (initTo l 0) := by
    rw [initTo_zero, l0]
    refine ⟨?_, ?_, oc.below hb4, ((bk1.below hb2).below b3).below hb4, hbw4⟩
    · exact ((hg2.more (fun ad e => by injection e with e; subst e; exact Nat.le_of_lt hlt0)).below b3).below hb4
    · exact hg4.more (fun ad e => by injection e with e; subst e; show w.heap.size ≤ w3.heap.size; omega)
  rw [z3] at U0
  clear hg2 hb2 hs2 hg4 hb4 hs4 oc b3 z3 bk1 bw1 hz1 z0 hbw4
  generalize w1.heap.size = gn at *
  generalize w2.heap.size = g7 at *
  go_wp2_with fail
  go_loopw [36] (fun i wr => ∃ k : Nat, k ≤ ts.length ∧ i = .int .i64 k ∧ SW ts.length w wr w.heap.size g7 (some ⟨gn, 0, none⟩) (some ⟨(g7 + 1), 0, none⟩) ts.length ts.length (initTo l k)) (fun i _ => ts.length - (intOf i).toNat)
  case atStart => exact ⟨0, by omega, rfl, U0⟩
  case round =>
    clear U0
    obtain ⟨k, hk, rfl, hU⟩ := hrel
    have HU := Lib.hid hU
    clear hU
    by_cases hlt : k < ts.length
    · obtain ⟨ad, rfl, hc0, hc1, hc2, hok⟩ := (HD.out.below HU.out.bw).at k hlt
      have HB : Hid (ts[k].b = (l.getD k ([], 0, 0)).2.1) := Lib.hid (by rw [← HL.out, getD_tr, getD_lt _ _ _ hlt])
      obtain ⟨x, hx⟩ : ∃ x, ts[k] = x := ⟨_, rfl⟩
      rw [hx] at hc0 hc1 hc2 HB
      clear hx hok
      have hgl : g7 + 1 < wr.heap.size := (HU.out.lf.form.2.2 _ rfl).2
      have hg7 := HU.out.oc.lt
      go_upto_region 9 with fail
      have tb := (tb_alloc wr x 26).1
      have bb := (tb_alloc wr x 26).2
      have HU2 := Lib.hid (HU.out.below bb)
      clear hc0 hc1 hc2 HU
      generalize (wr.alloc (.cells #[.slice x.A x.ls.length x.c, .int .i64 x.b, .int .i64 x.s] 26)) = wm at tb bb HU2 ⊢
      clear bb
      generalize wr.heap.size = gT at *
      have tc1 := tb.c1
      have oc0 := HU2.out.oc.c0
      have hnl : k < (initTo l k).fn.length := by rw [(initTo_len l k).2, l0]; exact hlt
      have hll : k < (initTo l k).left.length := by rw [(initTo_len l k).1, l0]; exact hlt
      have fc := HU2.out.ff.cell k hnl
      have ff := HU2.out.ff.free k
      have lc := HU2.out.lf.cell k hll
      have lf := HU2.out.lf.free k
      have n1 : ¬ gn = (g7 + 1) := by omega
      have n2 : ¬ (g7 + 1) = gn := by omega
      go_region_held3 (fun w' => w'.cell? ⟨g7, 0, none⟩ = some (.slice (some ⟨gn, 0, none⟩) ts.length ts.length) ∧ w'.cell? ⟨gT, 1, none⟩ = some (.int .i64 x.b))
        (first | exact ⟨oc0, tc1⟩ | with_reducible exact ⟨far1 oc0 (by omega), far1 tc1 (by omega)⟩ | with_reducible exact ⟨far2 oc0 (by omega) (by omega), far2 tc1 (by omega) (by omega)⟩ | go_keep)
        (first | fail)
      have HST := Lib.hid (initTo_step l k (by rw [l0]; exact hlt))
      go_wp2_with fail
      go_roundw
      case rel =>
        have h1 := (HU2.out.setFn k (-1) (by omega) (by omega) (by omega)).setLeft k x.b (by omega) (by omega) (by omega)
        rw [HB.out] at h1
        refine ⟨k + 1, by omega, by go_num, ?_⟩
        rw [HST.out]
        have hd := h1.below (below_drew (Below.refl _ _))
        rw [← HB.out] at hd
        rw [← HB.out]
        exact hd
      case measure => simp [intOf]; omega
    · have hU1 := HU.out
      have hkl : k = l.length := by omega
      rw [hkl, initTo_all caps l] at hU1
      have HU1 := Lib.hid hU1
      clear hU1 HU hkl
      go_wp2_with fail
      go_step3
      go_wp2_with fail
      go_loopg [11] N (fun kn tv wr => ∃ T : Nat, kn + T = N ∧ tv = .int .i64 T ∧ SW ts.length w wr w.heap.size g7 (some ⟨gn, 0, none⟩) (some ⟨(g7 + 1), 0, none⟩) ts.length ts.length (simM caps l T))
      case atStart => exact ⟨0, by omega, rfl, HU1.out⟩
      case round =>
        clear HU1
        obtain ⟨T, hT, rfl, hU⟩ := hrel
        have HU := Lib.hid hU
        clear hU
        have HI := Lib.hid (SInv.sim HV.out T (caps := caps))
        go_wp2_with fail
        go_loopw [12, 13, 55] (fun nx dn i wr => ∃ (j : Nat) (nv : Int) (db : Bool), j ≤ ts.length ∧ nx = .int .i64 nv ∧ dn = .bool db ∧ i = .int .i64 j ∧ NxInv l (simM caps l T).left j nv db ∧ SW ts.length w wr w.heap.size g7 (some ⟨gn, 0, none⟩) (some ⟨(g7 + 1), 0, none⟩) ts.length ts.length (simM caps l T)) (fun _ _ i _ => ts.length - (intOf i).toNat)
        case atStart => exact ⟨0, -1, true, by omega, rfl, rfl, rfl, NxInv.start _ _, HU.out⟩
        case round =>
          clear HU
          obtain ⟨j, nv, db, hj, rfl, rfl, rfl, hx, hU⟩ := hrel
          have HX := Lib.hid hx
          have HU := Lib.hid hU
          have hnv := hx.nv_bd
          clear hx hU
          by_cases hlt : j < ts.length
          · obtain ⟨ad, rfl, hc0, hc1, hc2, hok⟩ := (HD.out.below HU.out.bw).at j hlt
            have hjl : j < l.length := by rw [l0]; exact hlt
            have HS : Hid (ts[j].s = l[j].2.2) := Lib.hid (by
              have : l.getD j ([], 0, 0) = ts[j].tr := by rw [← HL.out, getD_tr, getD_lt _ _ _ hlt]
              rw [getD_lt _ _ _ hjl] at this
              rw [this])
            have hsb := HV.out.1 _ (List.getElem_mem hjl)
            have hs1 : 0 ≤ ts[j].s := by rw [HS.out]; exact hsb.2.2.1
            have hs2 : ts[j].s ≤ 4096 := by rw [HS.out]; exact hsb.2.2.2
            obtain ⟨x, hx⟩ : ∃ x, ts[j] = x := ⟨_, rfl⟩
            rw [hx] at hc0 hc1 hc2 HS hs1 hs2
            clear hx hok hsb
            go_upto_region 17 with fail
            have tb := (tb_alloc wr x 26).1
            have bb := (tb_alloc wr x 26).2
            have HU2 := Lib.hid (HU.out.below bb)
            clear hc0 hc1 hc2 HU
            generalize (wr.alloc (.cells #[.slice x.A x.ls.length x.c, .int .i64 x.b, .int .i64 x.s] 26)) = wm at tb bb HU2 ⊢
            clear bb
            generalize wr.heap.size = gT at *
            have tc2 := tb.c2
            have hll : j < (simM caps l T).left.length := by rw [HI.out.ll]; exact hjl
            have lc := HU2.out.lf.cell j hll
            by_cases hz : (simM caps l T).left[j] = 0
            · have hz' : ((simM caps l T).left[j] == 0) = true := by simp [hz]
              have HX2 := Lib.hid (HX.out.zero (by rw [getD_lt _ _ _ hll]; exact hz))
              clear hz HX
              go_wp2_with fail
              go_roundw
              case rel => exact ⟨j + 1, nv, db, by omega, rfl, rfl, by go_num, HX2.out, HU2.out⟩
              case measure => simp [intOf]; omega
            · have hz' : ((simM caps l T).left[j] == 0) = false := beq_eq_false_iff_ne.2 hz
              have hzg : (simM caps l T).left.getD j 0 ≠ 0 := by rw [getD_lt _ _ _ hll]; exact hz
              by_cases hn1 : nv < 0
              · have hn1' : decide (nv < 0) = true := decide_eq_true hn1
                have HX2 := Lib.hid (HX.out.take hzg x.s hjl HS.out hs1 hs2 (.inl hn1))
                clear hz HX hzg
                go_wp2_with fail
                go_roundw
                case rel => exact ⟨j + 1, x.s, false, by omega, rfl, rfl, by go_num, HX2.out, HU2.out⟩
                case measure => simp [intOf]; omega
              · have hn1' : decide (nv < 0) = false := decide_eq_false hn1
                by_cases hn2 : x.s < nv
                · have hn2' : decide (x.s < nv) = true := decide_eq_true hn2
                  have HX2 := Lib.hid (HX.out.take hzg x.s hjl HS.out hs1 hs2 (.inr hn2))
                  clear hz HX hzg
                  go_wp2_with fail
                  go_roundw
                  case rel => exact ⟨j + 1, x.s, false, by omega, rfl, rfl, by go_num, HX2.out, HU2.out⟩
                  case measure => simp [intOf]; omega
                · have hn2' : decide (x.s < nv) = false := decide_eq_false hn2
                  have HX2 := Lib.hid (HX.out.keep hzg x.s hjl HS.out hn1 hn2)
                  clear hz HX hzg
                  go_wp2_with fail
                  go_roundw
                  case rel => exact ⟨j + 1, nv, false, by omega, rfl, rfl, by go_num, HX2.out, HU2.out⟩
                  case measure => simp [intOf]; omega
          · cases db with
            | true =>
              have HZ : Hid (simM caps l T = simM caps l N) := Lib.hid (sim_unique HV.out (fun i hi => (HX.out.1 rfl).2 i (by rw [HI.out.ll] at hi; omega)) HN.out)
              have k0 := HU.out.oc.c0
              have k1 := HU.out.oc.c1
              have r0 := HU.out.rc.c0
              have r1 := HU.out.rc.c1
              have s0 := HU.out.rc.f0
              have s1 := HU.out.rc.f1
              go_wp2_with fail
              rw [Exit.noGoto_ret]
              refine bodyPost_ret (v := .tuple #[.agg #[.slice (some ⟨gn, 0, none⟩) ts.length ts.length, .int .i64 (simM caps l T).tk], .int .i64 0]) (by simp [results, Try.results13, go_sem, r0, r1]) rfl ?_
              have hfl : (simM caps l N).fn.length = ts.length := by rw [(simM_len caps l N).2, l0]
              have hd := (HU.out.ff.far (p := ⟨w.heap.size, 0, none⟩) (by intro ad e; injection e with e; subst e; show gn ≠ w.heap.size; omega) (.slice (some ⟨gn, 0, none⟩) ts.length ts.length)).far (p := ⟨w.heap.size, 1, none⟩) (by intro ad e; injection e with e; subst e; show gn ≠ w.heap.size; omega) (.int .i64 (simM caps l T).tk)
              rw [HZ.out] at hd ⊢
              refine ⟨some ⟨gn, 0, none⟩, ts.length, by rw [hfl], hd.is (fun x hx => by have := simM_fn_mem caps l N x hx; omega), ?_⟩
              exact (HU.out.bw.setCell (p := ⟨w.heap.size, 0, none⟩) (Nat.le_refl _) _).setCell (p := ⟨w.heap.size, 1, none⟩) (Nat.le_refl _) _
            | false =>
              obtain ⟨nx, rfl⟩ : ∃ nx : Nat, nv = (nx : Int) := ⟨nv.toNat, by have := HX.out.2 rfl; omega⟩
              have hj2 := jump_to HV.out HN.out (show T ≤ N by omega) nx (fun i hi => by
                have := (HX.out.2 rfl).2.2.2 i hi (by omega)
                exact this) (fun hz => by
                obtain ⟨i, hi, h0⟩ := (HX.out.2 rfl).2.2.1
                exact h0 (hz.get HI.out.ll i (by omega)))
              rcases Nat.lt_or_ge T nx with hTn | hTn
              · rw [Nat.max_eq_right (Nat.le_of_lt hTn)] at hj2
                have hMN := hj2.2
                have hU := HU.out
                rw [← hj2.1] at hU
                have HU := Lib.hid hU
                have HI := Lib.hid (SInv.sim HV.out nx (caps := caps))
                have HOK : Hid (stepOk caps (ts.map Tm.tr) (simM caps l nx).left nx) := Lib.hid (by rw [HL.out]; exact HI.out.ok HV.out nx)
                have HM4 : Hid (T ≤ nx) := Lib.hid (by omega)
                clear hU HX hj2 hnv
                go_wp2_with fail
                have his := HU.out.lf.is (fun x hx => by have := HI.out.mem (fun t ht => (HV.out.1 t ht).2.1) x hx; omega)
                refine (tstep_any wr A _ c caps D _ d ts _ _ _ (simM caps l nx).left nx (HA.out.below HU.out.bw) (HD.out.below HU.out.bw) his rfl rfl (by rw [HI.out.ll, l0]) h60).mono ?_
                rintro e wn hres
                rw [StepRes, if_pos HOK.out] at hres
                obtain ⟨A2, c2, rfl, hgu, bb⟩ := hres
                rw [HL.out] at hgu ⊢
                have HU2 := Lib.hid (HU.out.below bb)
                obtain ⟨u, hu⟩ : ∃ u, sentM caps l (simM caps l nx).left nx = u := ⟨_, rfl⟩
                rw [hu] at hgu ⊢
                have HUU := Lib.hid hu
                have hul : u.length = ts.length := by rw [← hu, sentM_len, l0]
                have hA2 : ∀ ad, A2 = some ad → wr.heap.size ≤ ad.block := fun ad e => (hgu.form.2.2 ad e).1
                have hg7w : g7 + 1 < wr.heap.size := (HU.out.lf.form.2.2 _ rfl).2
                have hww := HU.out.bw.size
                have HG := Lib.hid (hgu.more (B' := w.heap.size) (fun ad e => Nat.le_trans hww (hA2 ad e)))
                clear hgu his bb HU hu
                rw [hul]
                go_wp2_with fail
                go_loopw [94] (fun iv' wz => ∃ j : Nat, j ≤ ts.length ∧ iv' = .int .i64 j ∧ SW ts.length w wz w.heap.size g7 (some ⟨gn, 0, none⟩) (some ⟨(g7 + 1), 0, none⟩) ts.length ts.length (fpart u nx (simM caps l nx) j) ∧ Gr iv 3 wz w.heap.size A2 c2 u) (fun iv' _ => ts.length - (intOf iv').toNat)
                case atStart => exact ⟨0, by omega, rfl, HU2.out, HG.out⟩
                case round =>
                  clear HU2 HG
                  obtain ⟨j, hj, rfl, hU, hG⟩ := hrel
                  have HU := Lib.hid hU
                  have HG := Lib.hid hG
                  clear hU hG
                  by_cases hlt2 : j < ts.length
                  · have hul2 : j < u.length := by omega
                    obtain ⟨gu, rfl⟩ := HG.out.some_ (by omega)
                    have hgu := hA2 _ rfl
                    try simp only at hgu
                    have uc := HG.out.cell j hul2
                    have huc2 : ts.length ≤ c2 := by have := HG.out.form.1; omega
                    obtain ⟨s, hs⟩ : ∃ s, fpart u nx (simM caps l nx) j = s := ⟨_, rfl⟩
                    have hsl : s.left.length = ts.length := by rw [← hs, (fpart_len _ _ _ _).1, HI.out.ll, l0]
                    have hsf : s.fn.length = ts.length := by rw [← hs, (fpart_len _ _ _ _).2, HI.out.lf, l0]
                    have hle : j ≤ (simM caps l nx).left.length := by rw [HI.out.ll, l0]; exact hj
                    have hsj : s.left.getD j 0 = (simM caps l nx).left.getD j 0 := by
                      have := fpart_left u nx (simM caps l nx) j hle j
                      rw [hs, if_neg (Nat.lt_irrefl _)] at this
                      exact this
                    rw [hs] at HU
                    have HS := Lib.hid hs
                    have hbd := HI.out.bd j (by rw [l0]; exact hlt2)
                    have hub := sentM_bd (by have := HOK.out; rw [HL.out] at this; exact this) j (by rw [l0]; exact hlt2)
                    rw [HUU.out] at hub
                    have hlm := limT_le (l := l) (t := (nx : Int)) hbd.1
                    have hb4 := (HV.out.1 _ (List.getElem_mem (show j < l.length by rw [l0]; exact hlt2))).2.1
                    have hlj : j < s.left.length := by omega
                    have hfj : j < s.fn.length := by omega
                    rw [← hsj] at hbd hlm
                    rw [getD_lt _ _ _ hlj] at hbd hlm
                    rw [getD_lt _ _ _ hul2] at hub
                    have b1 : 0 ≤ u[j] := hub.1
                    have b2 : u[j] ≤ s.left[j] := by omega
                    have b3 : s.left[j] ≤ 4096 := by omega
                    have lc := HU.out.lf.cell j hlj
                    have lf := HU.out.lf.free j
                    have HNX : Hid (fpart u nx (simM caps l nx) (j + 1) = fstep u nx s j) := Lib.hid (by rw [fpart, HS.out])
                    have hne1 : ¬ g7 + 1 = gu := by omega
                    have hU1 := HU.out.setLeft j (s.left[j] - u[j]) (by omega) (by omega) (by omega)
                    have hG1 := HG.out.far (p := ⟨g7 + 1, j, none⟩) (by intro ad e; injection e with e; subst e; show gu ≠ g7 + 1; omega) (iv (s.left[j] - u[j]))
                    clear hbd hub hlm hb4 hsj hs
                    have HB2 := Lib.hid b2
                    go_upto_region 31 with fail
                    have hsn : (s.left.set j (s.left[j] - u[j]))[j]'(by rw [List.length_set]; exact hlj) = s.left[j] - u[j] := by simp
                    have lc2 := hU1.lf.cell j (show j < (s.left.set j (s.left[j] - u[j])).length by rw [List.length_set]; exact hlj)
                    rw [hsn] at lc2
                    have HU1 := Lib.hid hU1
                    have HG1 := Lib.hid hG1
                    clear hU1 hG1 lc lf uc hsn HU HG
                    generalize (wr.setCell ⟨g7 + 1, j, none⟩ (.int .i64 (s.left[j] - u[j]))) = wy at HU1 HG1 lc2 ⊢
                    by_cases c1 : 0 < u[j]
                    · by_cases c2' : s.left[j] - u[j] = 0
                      · have c3 : (s.left[j] - u[j] == 0) = true := by simp [c2']
                        have HC2 := Lib.hid c2'
                        have HC1 := Lib.hid c1
                        clear c2'
                        have fc := HU1.out.ff.cell j hfj
                        have ff := HU1.out.ff.free j
                        have oc0 := HU1.out.oc.c0
                        have oc1 := HU1.out.oc.c1
                        have of1 := HU1.out.oc.f1
                        have n3 : ¬ gn = g7 := by omega
                        go_upto_region 33 with fail
                        have hU3 := (HU1.out.setFn j nx (by omega) (by omega) (by omega)).setTk (nx + 1) (by omega) (by omega) (by omega) (by omega)
                        have hG3 := (HG1.out.far (p := ⟨gn, j, none⟩) (by intro ad e; injection e with e; subst e; show gu ≠ gn; omega) (iv nx)).far (p := ⟨g7, 1, none⟩) (by intro ad e; injection e with e; subst e; show gu ≠ g7; omega) (.int .i64 (nx + 1))
                        have HU3 := Lib.hid hU3
                        have HG3 := Lib.hid hG3
                        clear hU3 hG3 fc ff oc0 oc1 of1
                        go_wp2_with fail
                        go_roundw
                        case rel =>
                          refine ⟨j + 1, by omega, by go_num, ?_, HG3.out⟩
                          rw [HNX.out, fstep, getD_lt _ _ _ hul2, getD_lt _ _ _ hlj, if_pos ⟨HC1.out, HC2.out⟩]
                          exact HU3.out
                        case measure => simp [intOf]; omega
                      · have c3 : (s.left[j] - u[j] == 0) = false := beq_eq_false_iff_ne.2 c2'
                        have HC2 : Hid (¬ s.left[j] - u[j] = 0) := c2'
                        clear c2'
                        go_wp2_with fail
                        go_roundw
                        case rel =>
                          refine ⟨j + 1, by omega, by go_num, ?_, HG1.out⟩
                          rw [HNX.out, fstep, getD_lt _ _ _ hul2, getD_lt _ _ _ hlj, if_neg (fun h => HC2.out h.2)]
                          exact HU1.out
                        case measure => simp [intOf]; omega
                    · have c1' : decide (0 < u[j]) = false := decide_eq_false c1
                      have HC1 : Hid (¬ 0 < u[j]) := c1
                      clear c1
                      go_wp2_with fail
                      go_roundw
                      case rel =>
                        refine ⟨j + 1, by omega, by go_num, ?_, HG1.out⟩
                        rw [HNX.out, fstep, getD_lt _ _ _ hul2, getD_lt _ _ _ hlj, if_neg (fun h => HC1.out h.1)]
                        exact HU1.out
                      case measure => simp [intOf]; omega
                  · have hjl : j = l.length := by omega
                    have HNX : Hid (fpart u nx (simM caps l nx) j = simM caps l (nx + 1)) := Lib.hid (by rw [simM, tickM, HUU.out, hjl])
                    clear hjl
                    go_wp2_with fail
                    go_roundg (N - (nx + 1))
                    case rel => exact ⟨nx + 1, by omega, by go_num, by rw [← HNX.out]; exact HU.out⟩
                    case measure => have := HM4.out; omega
              · rw [Nat.max_eq_left hTn] at hj2
                have hTn' : ¬ T < nx := by omega
                have hMN := hj2.2
                have hU := HU.out
                rw [← hj2.1] at hU
                have HU := Lib.hid hU
                have HI := Lib.hid (SInv.sim HV.out T (caps := caps))
                have HOK : Hid (stepOk caps (ts.map Tm.tr) (simM caps l T).left T) := Lib.hid (by rw [HL.out]; exact HI.out.ok HV.out T)
                have HM4 : Hid (T ≤ T) := Lib.hid (by omega)
                clear hU HX hj2 hnv
                go_wp2_with fail
                have his := HU.out.lf.is (fun x hx => by have := HI.out.mem (fun t ht => (HV.out.1 t ht).2.1) x hx; omega)
                refine (tstep_any wr A _ c caps D _ d ts _ _ _ (simM caps l T).left T (HA.out.below HU.out.bw) (HD.out.below HU.out.bw) his rfl rfl (by rw [HI.out.ll, l0]) h60).mono ?_
                rintro e wn hres
                rw [StepRes, if_pos HOK.out] at hres
                obtain ⟨A2, c2, rfl, hgu, bb⟩ := hres
                rw [HL.out] at hgu ⊢
                have HU2 := Lib.hid (HU.out.below bb)
                obtain ⟨u, hu⟩ : ∃ u, sentM caps l (simM caps l T).left T = u := ⟨_, rfl⟩
                rw [hu] at hgu ⊢
                have HUU := Lib.hid hu
                have hul : u.length = ts.length := by rw [← hu, sentM_len, l0]
                have hA2 : ∀ ad, A2 = some ad → wr.heap.size ≤ ad.block := fun ad e => (hgu.form.2.2 ad e).1
                have hg7w : g7 + 1 < wr.heap.size := (HU.out.lf.form.2.2 _ rfl).2
                have hww := HU.out.bw.size
                have HG := Lib.hid (hgu.more (B' := w.heap.size) (fun ad e => Nat.le_trans hww (hA2 ad e)))
                clear hgu his bb HU hu
                rw [hul]
                go_wp2_with fail
                go_loopw [94] (fun iv' wz => ∃ j : Nat, j ≤ ts.length ∧ iv' = .int .i64 j ∧ SW ts.length w wz w.heap.size g7 (some ⟨gn, 0, none⟩) (some ⟨(g7 + 1), 0, none⟩) ts.length ts.length (fpart u T (simM caps l T) j) ∧ Gr iv 3 wz w.heap.size A2 c2 u) (fun iv' _ => ts.length - (intOf iv').toNat)
                case atStart => exact ⟨0, by omega, rfl, HU2.out, HG.out⟩
                case round =>
                  clear HU2 HG
                  obtain ⟨j, hj, rfl, hU, hG⟩ := hrel
                  have HU := Lib.hid hU
                  have HG := Lib.hid hG
                  clear hU hG
                  by_cases hlt2 : j < ts.length
                  · have hul2 : j < u.length := by omega
                    obtain ⟨gu, rfl⟩ := HG.out.some_ (by omega)
                    have hgu := hA2 _ rfl
                    try simp only at hgu
                    have uc := HG.out.cell j hul2
                    have huc2 : ts.length ≤ c2 := by have := HG.out.form.1; omega
                    obtain ⟨s, hs⟩ : ∃ s, fpart u T (simM caps l T) j = s := ⟨_, rfl⟩
                    have hsl : s.left.length = ts.length := by rw [← hs, (fpart_len _ _ _ _).1, HI.out.ll, l0]
                    have hsf : s.fn.length = ts.length := by rw [← hs, (fpart_len _ _ _ _).2, HI.out.lf, l0]
                    have hle : j ≤ (simM caps l T).left.length := by rw [HI.out.ll, l0]; exact hj
                    have hsj : s.left.getD j 0 = (simM caps l T).left.getD j 0 := by
                      have := fpart_left u T (simM caps l T) j hle j
                      rw [hs, if_neg (Nat.lt_irrefl _)] at this
                      exact this
                    rw [hs] at HU
                    have HS := Lib.hid hs
                    have hbd := HI.out.bd j (by rw [l0]; exact hlt2)
                    have hub := sentM_bd (by have := HOK.out; rw [HL.out] at this; exact this) j (by rw [l0]; exact hlt2)
                    rw [HUU.out] at hub
                    have hlm := limT_le (l := l) (t := (T : Int)) hbd.1
                    have hb4 := (HV.out.1 _ (List.getElem_mem (show j < l.length by rw [l0]; exact hlt2))).2.1
                    have hlj : j < s.left.length := by omega
                    have hfj : j < s.fn.length := by omega
                    rw [← hsj] at hbd hlm
                    rw [getD_lt _ _ _ hlj] at hbd hlm
                    rw [getD_lt _ _ _ hul2] at hub
                    have b1 : 0 ≤ u[j] := hub.1
                    have b2 : u[j] ≤ s.left[j] := by omega
                    have b3 : s.left[j] ≤ 4096 := by omega
                    have lc := HU.out.lf.cell j hlj
                    have lf := HU.out.lf.free j
                    have HNX : Hid (fpart u T (simM caps l T) (j + 1) = fstep u T s j) := Lib.hid (by rw [fpart, HS.out])
                    have hne1 : ¬ g7 + 1 = gu := by omega
                    have hU1 := HU.out.setLeft j (s.left[j] - u[j]) (by omega) (by omega) (by omega)
                    have hG1 := HG.out.far (p := ⟨g7 + 1, j, none⟩) (by intro ad e; injection e with e; subst e; show gu ≠ g7 + 1; omega) (iv (s.left[j] - u[j]))
                    clear hbd hub hlm hb4 hsj hs
                    have HB2 := Lib.hid b2
                    go_upto_region 31 with fail
                    have hsn : (s.left.set j (s.left[j] - u[j]))[j]'(by rw [List.length_set]; exact hlj) = s.left[j] - u[j] := by simp
                    have lc2 := hU1.lf.cell j (show j < (s.left.set j (s.left[j] - u[j])).length by rw [List.length_set]; exact hlj)
                    rw [hsn] at lc2
                    have HU1 := Lib.hid hU1
                    have HG1 := Lib.hid hG1
                    clear hU1 hG1 lc lf uc hsn HU HG
                    generalize (wr.setCell ⟨g7 + 1, j, none⟩ (.int .i64 (s.left[j] - u[j]))) = wy at HU1 HG1 lc2 ⊢
                    by_cases c1 : 0 < u[j]
                    · by_cases c2' : s.left[j] - u[j] = 0
                      · have c3 : (s.left[j] - u[j] == 0) = true := by simp [c2']
                        have HC2 := Lib.hid c2'
                        have HC1 := Lib.hid c1
                        clear c2'
                        have fc := HU1.out.ff.cell j hfj
                        have ff := HU1.out.ff.free j
                        have oc0 := HU1.out.oc.c0
                        have oc1 := HU1.out.oc.c1
                        have of1 := HU1.out.oc.f1
                        have n3 : ¬ gn = g7 := by omega
                        go_upto_region 33 with fail
                        have hU3 := (HU1.out.setFn j T (by omega) (by omega) (by omega)).setTk (T + 1) (by omega) (by omega) (by omega) (by omega)
                        have hG3 := (HG1.out.far (p := ⟨gn, j, none⟩) (by intro ad e; injection e with e; subst e; show gu ≠ gn; omega) (iv T)).far (p := ⟨g7, 1, none⟩) (by intro ad e; injection e with e; subst e; show gu ≠ g7; omega) (.int .i64 (T + 1))
                        have HU3 := Lib.hid hU3
                        have HG3 := Lib.hid hG3
                        clear hU3 hG3 fc ff oc0 oc1 of1
                        go_wp2_with fail
                        go_roundw
                        case rel =>
                          refine ⟨j + 1, by omega, by go_num, ?_, HG3.out⟩
                          rw [HNX.out, fstep, getD_lt _ _ _ hul2, getD_lt _ _ _ hlj, if_pos ⟨HC1.out, HC2.out⟩]
                          exact HU3.out
                        case measure => simp [intOf]; omega
                      · have c3 : (s.left[j] - u[j] == 0) = false := beq_eq_false_iff_ne.2 c2'
                        have HC2 : Hid (¬ s.left[j] - u[j] = 0) := c2'
                        clear c2'
                        go_wp2_with fail
                        go_roundw
                        case rel =>
                          refine ⟨j + 1, by omega, by go_num, ?_, HG1.out⟩
                          rw [HNX.out, fstep, getD_lt _ _ _ hul2, getD_lt _ _ _ hlj, if_neg (fun h => HC2.out h.2)]
                          exact HU1.out
                        case measure => simp [intOf]; omega
                    · have c1' : decide (0 < u[j]) = false := decide_eq_false c1
                      have HC1 : Hid (¬ 0 < u[j]) := c1
                      clear c1
                      go_wp2_with fail
                      go_roundw
                      case rel =>
                        refine ⟨j + 1, by omega, by go_num, ?_, HG1.out⟩
                        rw [HNX.out, fstep, getD_lt _ _ _ hul2, getD_lt _ _ _ hlj, if_neg (fun h => HC1.out h.1)]
                        exact HU1.out
                      case measure => simp [intOf]; omega
                  · have hjl : j = l.length := by omega
                    have HNX : Hid (fpart u T (simM caps l T) j = simM caps l (T + 1)) := Lib.hid (by rw [simM, tickM, HUU.out, hjl])
                    clear hjl
                    go_wp2_with fail
                    go_roundg (N - (T + 1))
                    case rel => exact ⟨T + 1, by omega, by go_num, by rw [← HNX.out]; exact HU.out⟩
                    case measure => have := HM4.out; omega
end Go.Proofs.Ytgjhjdjbhmblmaa
