/- The walks of Within and Caps. Words for lists of transfers in memory, and rows of flows of the call's own. Appending a flow, a transfer onto a row of the call's own. Appending a flow, with what the append keeps. -/
import Derived.Test.YthdfflbhogfejaaGfC
import Derived.Deep.RegionHeld3
import Derived.Test.YthdfflbhogfejaaFhW
import Derived.Laws.MakeOwn
import Derived.Maps.AppendAt
namespace Go.Proofs.Ythdfflbhogfejaa
open Go.RowKit

/-- a number made to lie from 0 to below n -/
def withinM (x n : Int) : Int := if n < 1 then 0 else x % n
set_option maxRecDepth 100000 in
theorem tmod_fix (x n : Int) (hn : 0 < n) : (if x.tmod n < 0 then x.tmod n + n else x.tmod n) = x % n := by
  have h0 := Int.emod_nonneg x (show n ≠ 0 by omega)
  have h1 := Int.emod_lt_of_pos x hn
  rw [Int.tmod_eq_emod]
  by_cases h : 0 ≤ x ∨ n ∣ x
  · rw [if_pos h]
    simp only [Int.natCast_zero, Int.sub_zero]
    rw [if_neg (by omega)]
  · rw [if_neg h]
    have : (n.natAbs : Int) = n := by omega
    rw [this]
    have hne : x % n ≠ 0 := fun e => h (.inr (Int.dvd_of_emod_eq_zero e))
    rw [if_pos (by omega)]; omega
set_option maxRecDepth 100000 in
theorem withinM_bd (x : Int) {n : Int} (hn : 1 ≤ n) : 0 ≤ withinM x n ∧ withinM x n < n := by
  rw [withinM, if_neg (by omega)]
  exact ⟨Int.emod_nonneg x (by omega), Int.emod_lt_of_pos x (by omega)⟩
set_option maxRecDepth 100000 in
theorem within_any (w : World) (x n : Int) (_hx : -9223372036854775808 ≤ x ∧ x ≤ 9223372036854775807) (hn : n ≤ 1000000) :
    Calls Try.prog 29 #[.int .i64 x, .int .i64 n] w fun e w' => e = .returned (.int .i64 (withinM x n)) ∧ w = w' := by
  by_cases h1 : n < 1
  · have HM : Hid (withinM x n = 0) := Lib.hid (by rw [withinM, if_pos h1])
    have h1' : decide (n < 1) = true := decide_eq_true h1
    clear h1 _hx
    go_enter Try.func29, Try.ntmps29
    go_wp2_with fail
    go_ret
    exact ⟨ret_int HM.out.symm, rfl⟩
  · have h1' : decide (n < 1) = false := decide_eq_false h1
    have hf := tmod_fix x n (by omega)
    have hb := withinM_bd x (show 1 ≤ n by omega)
    have HM : Hid (withinM x n = x % n) := Lib.hid (by rw [withinM, if_neg h1])
    rw [HM.out] at hb
    have hn0 : ¬ n = 0 := by omega
    have hn1 : 1 ≤ n := by omega
    obtain ⟨m, hm⟩ : ∃ m, x.tmod n = m := ⟨_, rfl⟩
    have hmb : -1000000 ≤ m ∧ m ≤ 1000000 := by rw [hm] at hf; split at hf <;> omega
    have hmb1 := hmb.1
    have hmb2 := hmb.2
    have hw : IntKind.i64.wrap m = m := IntWalk.i64_in _ (by omega)
    have hw2 : wrap64 m = m := by unfold wrap64; omega
    rw [hm] at hf
    have HF := Lib.hid hf
    by_cases h2 : m < 0
    · have h2' : decide (m < 0) = true := decide_eq_true h2
      have HR : Hid (m + n = withinM x n) := Lib.hid (by have := HF.out; rw [if_pos h2] at this; rw [HM.out]; exact this)
      clear h1 hb hf hmb
      go_enter Try.func29, Try.ntmps29
      go_wp2_with fail
      go_ret
      exact ⟨ret_int HR.out, rfl⟩
    · have h2' : decide (m < 0) = false := decide_eq_false h2
      have HR : Hid (m = withinM x n) := Lib.hid (by have := HF.out; rw [if_neg h2] at this; rw [HM.out]; exact this)
      clear h1 hb hf hmb
      go_enter Try.func29, Try.ntmps29
      go_wp2_with fail
      go_ret
      exact ⟨ret_int HR.out, rfl⟩
/-- the capacities that a law makes -/
def capsM (l : List Int) : List Int := 7 :: (l.take 4).map fun x => withinM x 21
set_option maxRecDepth 100000 in
theorem capsM_bd (l : List Int) : ∀ c ∈ capsM l, 0 ≤ c ∧ c ≤ 20 := by
  intro c hc
  rcases List.mem_cons.1 hc with rfl | hc
  · omega
  · obtain ⟨x, _, rfl⟩ := List.mem_map.1 hc
    have := withinM_bd x (show (1 : Int) ≤ 21 by omega)
    omega
set_option maxRecDepth 100000 in
theorem capsM_len (l : List Int) : 1 ≤ (capsM l).length ∧ (capsM l).length ≤ 5 := by simp [capsM]; omega
set_option maxRecDepth 100000 in
set_option maxHeartbeats 1600000 in
theorem caps_any (w : World) (A : Option Addr) (n c : Nat) (xs : List Int) (hA : Is w A c xs) (hn : n = xs.length) :
    Calls Try.prog 22 #[.slice A n c] w fun e w' => ∃ A' c', e = .returned (.slice A' (capsM xs).length c') ∧ Is w' A' c' (capsM xs) ∧ Below w.heap.size w w' := by
  have HA := Lib.hid hA; clear hA
  subst hn
  obtain ⟨i1, hi, hi0, hi1, hi2⟩ := info_parts int_info
  have hla := HA.out.len
  go_enter Try.func22, Try.ntmps22
  go_upto_region 2 with fail
  have hg := Gr.lit (mk := iv) (e := 3) (B := w.heap.size) w [7] #[.int .i64 7] rfl (by simp [maxLen]) (Nat.le_refl _)
  have b0 := (Below.refl w.heap.size w).alloc (Nat.le_refl _) (.cells #[.int .i64 7] 3)
  generalize (w.alloc (.cells #[.int .i64 7] 3)) = w0 at hg b0 ⊢
  go_wp2_with fail
  go_loopw [3, 4] (fun s i wr => ∃ (k : Nat) (A' : Option Addr) (c' : Nat), k ≤ xs.length ∧ k ≤ 4 ∧ i = .int .i64 k ∧ s = .slice A' (capsM (xs.take k)).length c' ∧ Gr iv 3 wr w.heap.size A' c' (capsM (xs.take k)) ∧ Below w.heap.size w wr) (fun _ i _ => xs.length - (intOf i).toNat)
  case atStart => exact ⟨0, _, _, by omega, by omega, rfl, rfl, hg, b0⟩
  case round =>
    clear hg b0
    obtain ⟨k, A', c', hk, hk4, rfl, rfl, hG, bw⟩ := hrel
    have HG := Lib.hid hG
    clear hG
    have hcl : (capsM (xs.take k)).length ≤ 5 := (capsM_len _).2
    by_cases hlt : k < xs.length
    · by_cases h4 : k < 4
      · obtain ⟨ad, rfl, _, hc⟩ := (HA.out.below bw).at k hlt
        have hwf := HA.out.wf _ (List.getElem_mem hlt)
        have HNX : Hid (capsM (xs.take k) ++ [withinM xs[k] 21] = capsM (xs.take (k + 1))) := Lib.hid (by
          simp only [capsM, List.take_take, Nat.min_eq_right (show k ≤ 4 by omega), Nat.min_eq_right (show k + 1 ≤ 4 by omega)]
          rw [List.take_succ_eq_append_getElem hlt, List.map_append]; rfl)
        have HWF := Lib.hid hwf
        clear hwf
        obtain ⟨L, hL⟩ : ∃ L, capsM (xs.take k) = L := ⟨_, rfl⟩
        rw [hL] at hcl HNX HG ⊢
        clear hL
        go_wp2_with (first
          | (go_at_call 29
             refine (within_any wr _ _ HWF.out (by omega)).mono ?_
             rintro e wn ⟨rfl, rfl⟩)
          | (at_builtin; refine wpList_append_rd _ (mk := iv) (fun _ => rfl) rfl _ _ 22 rfl 3 i1 (iv 0) 8 Try.underlying22 hi hi0 hi1 hi2 rfl (B := w.heap.size) rfl rfl (HG.out.below ((Below.refl _ _).alloc (Nat.le_refl _) _)) (some ⟨wr.heap.size, 0, none⟩) 1 1 [withinM xs[k] 21] rfl rfl (Rd.one wr _ _) (by simp only [maxLen]; omega) (by omega) (by have := bw.size; simp; omega) ?_; intro A2 c2 w2 hg2 _ hb2 _))
        go_roundw
        case rel =>
          have bl := (Below.refl wr.heap.size wr).alloc (Nat.le_refl _) (.cells #[.int .i64 (withinM xs[k] 21)] 3)
          refine ⟨k + 1, A2, c2, by omega, by omega, by go_num, ?_, by rw [← HNX.out]; exact hg2, (below_on bw bl bw.size).trans hb2⟩
          rw [← HNX.out, List.length_append]; rfl
        case measure => simp [intOf]; omega
      · have h4' : decide ((k : Int) < 4) = false := decide_eq_false (by omega)
        have HF : Hid (capsM (xs.take k) = capsM xs) := Lib.hid (by simp only [capsM, List.take_take]; rw [show min 4 k = 4 by omega])
        go_wp2_with fail
        go_ret
        rw [HF.out]
        have := HG.out
        rw [HF.out] at this
        exact ⟨A', c', rfl, this.is (fun x hx => by have := capsM_bd xs x hx; omega), bw⟩
    · have HF : Hid (capsM (xs.take k) = capsM xs) := Lib.hid (by rw [List.take_of_length_le (by omega)])
      go_wp2_with fail
      go_ret
      rw [HF.out]
      have := HG.out
      rw [HF.out] at this
      exact ⟨A', c', rfl, this.is (fun x hx => by have := capsM_bd xs x hx; omega), bw⟩
end Go.Proofs.Ythdfflbhogfejaa
namespace Go.Proofs.Ythdfflbhogfejaa
open Go.RowKit

/-- a transfer: where its links lie, its bytes and its start -/
structure Tm where
  A : Option Addr
  c : Nat
  ls : List Int
  b : Int
  s : Int
abbrev Tm.val (x : Tm) : Value := .agg #[.slice x.A x.ls.length x.c, .int .i64 x.b, .int .i64 x.s]
abbrev Tm.cells (x : Tm) : Array Value := #[.slice x.A x.ls.length x.c, .int .i64 x.b, .int .i64 x.s]
/-- links, bytes, start -/
abbrev Tr := List Int × Int × Int
abbrev Tm.tr (x : Tm) : Tr := (x.ls, x.b, x.s)
structure Tm.ok (x : Tm) (w : World) : Prop where
  is : Is w x.A x.c x.ls
  wb : -9223372036854775808 ≤ x.b ∧ x.b ≤ 9223372036854775807
  ws : -9223372036854775808 ≤ x.s ∧ x.s ≤ 9223372036854775807
set_option maxRecDepth 100000 in
theorem Tm.ok.below {x : Tm} {w w' : World} (h : x.ok w) (hb : Below w.heap.size w w') : x.ok w' := ⟨h.is.below hb, h.wb, h.ws⟩
/-- the flow of a transfer with a limit -/
abbrev Tm.fm (x : Tm) (m : Int) : Fm := ⟨x.A, x.c, x.ls, m⟩
def RdT (w : World) (A : Option Addr) (ts : List Tm) : Prop := 0 < ts.length → ∃ ad, A = some ad ∧ ad.block < w.heap.size ∧
  ∀ k (hk : k < ts.length), w.cell? (ad.add (k * 3)) = some (.slice ts[k].A ts[k].ls.length ts[k].c) ∧ w.cell? ⟨(ad.add (k * 3)).block, (ad.add (k * 3)).off + 1, none⟩ = some (.int .i64 ts[k].b) ∧ w.cell? ⟨(ad.add (k * 3)).block, (ad.add (k * 3)).off + 2, none⟩ = some (.int .i64 ts[k].s)
set_option maxRecDepth 100000 in
theorem RdT.below {w w' : World} {A : Option Addr} {ts : List Tm} (h : RdT w A ts) (hb : Below w.heap.size w w') : RdT w' A ts := fun hn => by
  obtain ⟨ad, e, hl, hc⟩ := h hn
  refine ⟨ad, e, Nat.lt_of_lt_of_le hl hb.size, fun k hk => ?_⟩
  obtain ⟨h0, h1, h2⟩ := hc k hk
  have e2 : (ad.add (k * 3)).block = ad.block := block_of_add _ _
  exact ⟨(hb.cell (p := ad.add (k * 3)) (by rw [e2]; exact hl)).trans h0, (hb.cell (p := ⟨(ad.add (k * 3)).block, (ad.add (k * 3)).off + 1, none⟩) (by show (ad.add (k * 3)).block < _; rw [e2]; exact hl)).trans h1, (hb.cell (p := ⟨(ad.add (k * 3)).block, (ad.add (k * 3)).off + 2, none⟩) (by show (ad.add (k * 3)).block < _; rw [e2]; exact hl)).trans h2⟩
/-- a list of transfers in memory -/
structure Ts (w : World) (A : Option Addr) (c : Nat) (ts : List Tm) : Prop where
  cap : ts.length ≤ c
  max : c ≤ 9223372036854775807
  rd : RdT w A ts
  ok : ∀ x ∈ ts, x.ok w
set_option maxRecDepth 100000 in
theorem Ts.below {w w' : World} {A : Option Addr} {c : Nat} {ts : List Tm} (h : Ts w A c ts) (hb : Below w.heap.size w w') : Ts w' A c ts := ⟨h.cap, h.max, h.rd.below hb, fun x hx => (h.ok x hx).below hb⟩
set_option maxRecDepth 100000 in
theorem Ts.at {w : World} {A : Option Addr} {c : Nat} {ts : List Tm} (h : Ts w A c ts) (k : Nat) (hk : k < ts.length) : ∃ ad, A = some ad ∧ w.cell? (ad.add (k * 3)) = some (.slice ts[k].A ts[k].ls.length ts[k].c) ∧ w.cell? ⟨(ad.add (k * 3)).block, (ad.add (k * 3)).off + 1, none⟩ = some (.int .i64 ts[k].b) ∧ w.cell? ⟨(ad.add (k * 3)).block, (ad.add (k * 3)).off + 2, none⟩ = some (.int .i64 ts[k].s) ∧ ts[k].ok w := by
  obtain ⟨ad, e, _, hc⟩ := h.rd (by omega)
  obtain ⟨h0, h1, h2⟩ := hc k hk
  exact ⟨ad, e, h0, h1, h2, h.ok _ (List.getElem_mem hk)⟩
/-- a block of three cells: a transfer -/
structure Tb (w : World) (G : Nat) (x : Tm) : Prop where
  c0 : w.cell? ⟨G, 0, none⟩ = some (.slice x.A x.ls.length x.c)
  c1 : w.cell? ⟨G, 1, none⟩ = some (.int .i64 x.b)
  c2 : w.cell? ⟨G, 2, none⟩ = some (.int .i64 x.s)
  lt : G < w.heap.size
set_option maxRecDepth 100000 in
theorem Tb.below {w w' : World} {G : Nat} {x : Tm} (h : Tb w G x) (hb : Below w.heap.size w w') : Tb w' G x :=
  ⟨(hb.cell (p := ⟨G, 0, none⟩) h.lt).trans h.c0, (hb.cell (p := ⟨G, 1, none⟩) h.lt).trans h.c1, (hb.cell (p := ⟨G, 2, none⟩) h.lt).trans h.c2, Nat.lt_of_lt_of_le h.lt hb.size⟩
set_option maxRecDepth 100000 in
theorem tb_alloc (w : World) (x : Tm) (e : TypeId) : Tb (w.alloc (.cells x.cells e)) w.heap.size x ∧ Below w.heap.size w (w.alloc (.cells x.cells e)) :=
  ⟨⟨by go_simp, by go_simp, by go_simp, by simp⟩, (Below.refl _ _).alloc (Nat.le_refl _) _⟩

/-! rows of flows -/
def wcells : List Fm → List Value
  | [] => []
  | v :: vs => .slice v.A v.ls.length v.c :: .int .i64 v.m :: wcells vs
set_option maxRecDepth 100000 in
theorem wcells_len (vs : List Fm) : (wcells vs).length = vs.length * 2 := by
  induction vs with
  | nil => rfl
  | cons v vs ih => rw [wcells]; simp only [List.length_cons, ih]; omega
set_option maxRecDepth 100000 in
theorem wcells_append (a b : List Fm) : wcells (a ++ b) = wcells a ++ wcells b := by
  induction a with
  | nil => rfl
  | cons v a ih => rw [List.cons_append, wcells, wcells, ih]; rfl
set_option maxRecDepth 100000 in
theorem wcells_get (vs : List Fm) : ∀ k (hk : k < vs.length), (wcells vs)[k * 2]? = some (.slice vs[k].A vs[k].ls.length vs[k].c) ∧ (wcells vs)[k * 2 + 1]? = some (.int .i64 vs[k].m) := by
  induction vs with
  | nil => intro k hk; simp at hk
  | cons v vs ih =>
    intro k hk
    cases k with
    | zero => exact ⟨rfl, rfl⟩
    | succ k =>
      have h := ih k (by simpa using hk)
      have e : (k + 1) * 2 = k * 2 + 1 + 1 := by omega
      rw [wcells, e]
      simp only [List.getElem?_cons_succ, List.getElem_cons_succ]
      exact h
set_option maxRecDepth 100000 in
theorem wcells_set (vs : List Fm) (x : Fm) : ∀ i, ((wcells vs).set (i * 2) (.slice x.A x.ls.length x.c)).set (i * 2 + 1) (.int .i64 x.m) = wcells (vs.set i x) := by
  induction vs with
  | nil => intro i; simp [wcells]
  | cons v vs ih =>
    intro i
    cases i with
    | zero => simp [wcells]
    | succ i =>
      have e : (i + 1) * 2 = i * 2 + 1 + 1 := by omega
      rw [wcells, e]
      simp only [List.set_cons_succ, wcells]
      rw [ih i]
set_option maxRecDepth 100000 in
theorem wcells_one (vs : List Fm) : ∀ u ∈ wcells vs, u.oneCell' = true := by
  induction vs with
  | nil => intro u hu; cases hu
  | cons v vs ih =>
    intro u hu
    rw [wcells] at hu
    simp only [List.mem_cons] at hu
    rcases hu with rfl | rfl | hu
    · rfl
    · rfl
    · exact ih u hu
/-- a row of flows of the call's own -/
def Fw (w : World) (B : Nat) (A : Option Addr) (c : Nat) (vs : List Fm) : Prop := World.ownsRow w B 48 2 (.slice A vs.length c) vs.length (wcells vs)
section
variable {w w' : World} {B : Nat} {A : Option Addr} {c : Nat} {vs : List Fm}
set_option maxRecDepth 100000 in
theorem add_mkt (g j : Nat) : (⟨g, 0, none⟩ : Addr).add j = ⟨g, j, none⟩ := by
  unfold Addr.add
  split
  · rename_i h; rw [h]
  · simp
set_option maxRecDepth 100000 in
theorem Fw.rd (h : Fw w B A c vs) : RdW w A vs := fun hn => by
  have h' := h
  rcases h.2 with ⟨_, h0⟩ | ⟨g, cap, cur, hv, _, hg, _⟩
  · omega
  · simp only [Value.slice.injEq] at hv
    obtain ⟨rfl, _, rfl⟩ := hv
    refine ⟨_, rfl, ?_, fun k hk => ?_⟩
    · exact (Array.getElem?_eq_some_iff.1 hg).1
    · obtain ⟨h0, h1⟩ := wcells_get vs k hk
      have hc := fun j hj => World.ownsRow.cellAt h' j hj
      rw [add_mkt]
      exact ⟨(hc (k * 2) (by omega)).trans h0, (hc (k * 2 + 1) (by omega)).trans h1⟩
set_option maxRecDepth 100000 in
theorem Fw.below (h : Fw w B A c vs) (hb : Below w.heap.size w w') : Fw w' B A c vs :=
  World.ownsRow.kept h (w' := w') (row := none) ⟨hb.os, hb.tape, hb.output, hb.size, fun k hk _ => hb.block k hk⟩ (by
    cases A with
    | none => exact .inl rfl
    | some ad => exact .inr (by simp [Value.ownBlock]))
set_option maxRecDepth 100000 in
theorem Fw.grown {row : Option Nat} (h : Fw w B A c vs) (hg : w.grownBy w' row) (hne : ∀ ad, A = some ad → some ad.block ≠ row) : Fw w' B A c vs :=
  World.ownsRow.kept h hg (by
    cases A with
    | none => exact .inl rfl
    | some ad => exact .inr (hne ad rfl))
set_option maxRecDepth 100000 in
theorem Fw.form (h : Fw w B A c vs) : vs.length ≤ c ∧ c ≤ maxLen ∧ ∀ ad, A = some ad → B ≤ ad.block ∧ ad.block < w.heap.size := by
  rcases h.2 with ⟨h', hn⟩ | ⟨g', cap', cur, h', hb, hg, h3, h4, _⟩
  · simp only [Value.slice.injEq] at h'
    obtain ⟨rfl, _, rfl⟩ := h'
    exact ⟨by omega, by simp [maxLen], by intro ad h; cases h⟩
  · simp only [Value.slice.injEq] at h'
    obtain ⟨rfl, _, rfl⟩ := h'
    exact ⟨h3, h4, by intro ad h; injection h with h; subst h; exact ⟨hb, (Array.getElem?_eq_some_iff.1 hg).1⟩⟩
set_option maxRecDepth 100000 in
theorem Fw.free {g : Nat} (h : Fw w B (some ⟨g, 0, none⟩) c vs) (k : Nat) : w.frozen? ⟨g, k, none⟩ = false := World.ownsRow.frozenAt h k
set_option maxRecDepth 100000 in
theorem Fw.put {g : Nat} (h : Fw w B (some ⟨g, 0, none⟩) c vs) (i : Nat) (x : Fm) : Fw ((w.setCell ⟨g, i * 2, none⟩ (.slice x.A x.ls.length x.c)).setCell ⟨g, i * 2 + 1, none⟩ (.int .i64 x.m)) B (some ⟨g, 0, none⟩) c (vs.set i x) := by
  have h1 := (World.ownsRow.stored h (i * 2) (.slice x.A x.ls.length x.c)).1
  have h2 := (World.ownsRow.stored h1 (i * 2 + 1) (.int .i64 x.m)).1
  unfold Fw
  rw [List.length_set, ← wcells_set]
  exact h2
set_option maxRecDepth 100000 in
theorem Fw.ws (h : Fw w B A c vs) (ho : ∀ x ∈ vs, x.ok w) : Ws w A c vs := ⟨h.form.1, by have := h.form.2.1; unfold maxLen at this; omega, h.rd, ho⟩
end
abbrev Fm.nil : Fm := ⟨none, 0, [], 0⟩
set_option maxRecDepth 100000 in
theorem flow_info : (Try.prog.info? 48).map (fun i => (i.zero, i.size, i.bytes)) = some (some Fm.nil.val, 2, 32) := by kernel_rfl
set_option maxRecDepth 100000 in
theorem toList_made2 (n : Nat) : (madeCells Fm.nil.val.cells n).toList.length = n := by simp [madeCells]
end Go.Proofs.Ythdfflbhogfejaa
namespace Go.Proofs.Ythdfflbhogfejaa
open Go.RowKit

set_option maxRecDepth 100000 in
theorem wcells_at (vs : List Fm) (j : Nat) (u : Value) (h : (wcells vs)[j]? = some u) : ∃ k, ∃ hk : k < vs.length, (j = k * 2 ∧ u = .slice vs[k].A vs[k].ls.length vs[k].c) ∨ (j = k * 2 + 1 ∧ u = .int .i64 vs[k].m) := by
  have hj : j < vs.length * 2 := by
    rcases Nat.lt_or_ge j (vs.length * 2) with h1 | h1
    · exact h1
    · rw [List.getElem?_eq_none (by rw [wcells_len]; exact h1)] at h; cases h
  have hk : j / 2 < vs.length := by omega
  obtain ⟨h0, h1⟩ := wcells_get vs (j / 2) hk
  refine ⟨j / 2, hk, ?_⟩
  rcases (show j % 2 = 0 ∨ j % 2 = 1 by omega) with e | e
  · left
    have ej : j = j / 2 * 2 := by omega
    rw [ej] at h
    exact ⟨ej, Option.some.inj (h.symm.trans h0)⟩
  · right
    have ej : j = j / 2 * 2 + 1 := by omega
    rw [ej] at h
    exact ⟨ej, Option.some.inj (h.symm.trans h1)⟩
set_option maxRecDepth 100000 in
/-- a literal of one flow -/
theorem rdw_one (w : World) (x : Fm) : RdW (w.alloc (.cells x.cells 48)) (some ⟨w.heap.size, 0, none⟩) [x] := fun _ =>
  ⟨_, rfl, by simp, fun k hk => by
    have : k = 0 := by simpa using hk
    subst this
    exact ⟨by go_simp, by go_simp⟩⟩
set_option maxRecDepth 100000 in
theorem run_append_w (w : World) {B c : Nat} {A : Option Addr} {xs : List Fm} (hown : Fw w B A c xs) (ad : Addr) (c2 : Nat) (y : Fm) (hr : RdW w (some ad) [y]) (hmax : xs.length ≤ 1000) (hbase : B ≤ w.heap.size) :
    ∃ A' c' w', (Builtin.append_ #[23, 23] 23 #[.slice A xs.length c, .slice (some ad) 1 c2]).run Try.prog w = .ok (.slice A' (xs.length + 1) c') w' ∧ Fw w' B A' c' (xs ++ [y]) ∧ Below B w w' ∧ w.grownBy w' (A.map (·.block)) := by
  obtain ⟨i, hi, hz, hsize, hby⟩ := info_parts flow_info
  have hAb : ∀ k, A.map (·.block) = some k → B ≤ k := by
    intro k hk
    cases A with
    | none => cases hk
    | some ad => simp at hk; subst hk; exact (hown.form.2.2 ad rfl).1
  have hob : (Value.slice A xs.length c).ownBlock = A.map (·.block) := by cases A <;> rfl
  have hnews : ∀ j u, (wcells [y])[j]? = some u → w.cell? (ad.add j) = some u := by
    intro j u hu
    obtain ⟨k, hk, hcase⟩ := wcells_at [y] j u hu
    obtain ⟨ad', e', _, hc⟩ := hr (by simp)
    injection e' with e'
    subst e'
    obtain ⟨h0, h1⟩ := hc k hk
    have hk0 : k = 0 := by simpa using hk
    subst hk0
    rcases hcase with ⟨rfl, rfl⟩ | ⟨rfl, rfl⟩
    · exact h0
    · rw [show ad.add (0 * 2 + 1) = ⟨(ad.add (0 * 2)).block, (ad.add (0 * 2)).off + 1, none⟩ from by rw [Nat.zero_mul, add_at1, add_at0]]
      exact h1
  obtain ⟨v', w', hrun, hown', hg, _, hat⟩ := run_append_own_at (P := Try.prog) w B 23 23 48 i _ 2 32 Try.underlying23 hi hz hsize hby rfl (by omega) (.slice A xs.length c) xs.length (wcells xs) hown ad 1 c2 (wcells [y]) rfl hnews
    (wcells_one [y]) (by simp only [maxLen]; omega) (by omega) hbase
  have hform : ∃ A' c', v' = .slice A' (xs.length + 1) c' := by
    rcases hown'.2 with ⟨rfl, hn⟩ | ⟨g, cap, cur, rfl, _⟩
    · omega
    · exact ⟨_, _, rfl⟩
  obtain ⟨A', c', rfl⟩ := hform
  rw [hob] at hg
  refine ⟨A', c', w', hrun, ?_, (Below.refl _ _).grown hg hbase hAb, hg⟩
  unfold Fw
  rw [List.length_append, wcells_append]
  exact hown'
set_option maxRecDepth 100000 in
theorem wpList_append_w (w : World) {ops : Array Oper} {rest : List Oper} {o : Oper} {a : Act} {Q : Exit → Act → World → Prop} (hgd : o.guard = none) (s x : Operand)
    (ho : o.op = .call { callee := .builtin .append, args := #[s, x], argTypes := #[23, 23] }) (hty : o.type = 23)
    {B c n : Nat} {A : Option Addr} {xs : List Fm} (hs : a.eval s = .slice A n c) (hn : n = xs.length) (hown : Fw w B A c xs)
    (ad : Addr) (c2 : Nat) (y : Fm) (hx : a.eval x = .slice (some ad) 1 c2) (hr : RdW w (some ad) [y]) (hmax : n ≤ 1000) (hbase : B ≤ w.heap.size)
    (h : ∀ A' c' w', Fw w' B A' c' (xs ++ [y]) → Below B w w' → wpList Try.prog ops Q rest (a.put o.dst (.slice A' (n + 1) c')) w') : wpList Try.prog ops Q (o :: rest) a w := by
  subst hn
  obtain ⟨A', c', w', hrun, h1, h3, h4⟩ := run_append_w w hown ad c2 y hr hmax hbase
  refine wpList_plain hgd fun K hK => ?_
  unfold Oper.wp execOp
  simp only [ho, hty, resolve, invoke, builtin, Sem.run_bind, Sem.run_pure, Result.andThen_ok, List.map_toArray, List.map_cons, List.map_nil, hs, hx, hrun]
  exact hK _ _ (h A' c' w' h1 h3)
end Go.Proofs.Ythdfflbhogfejaa
namespace Go.Proofs.Ythdfflbhogfejaa
open Go.RowKit

set_option maxRecDepth 100000 in
theorem run_append_w2 (w : World) {B c : Nat} {A : Option Addr} {xs : List Fm} (hown : Fw w B A c xs) (ad : Addr) (c2 : Nat) (y : Fm) (hr : RdW w (some ad) [y]) (hmax : xs.length ≤ 1000) (hbase : B ≤ w.heap.size) :
    ∃ A' c' w', (Builtin.append_ #[23, 23] 23 #[.slice A xs.length c, .slice (some ad) 1 c2]).run Try.prog w = .ok (.slice A' (xs.length + 1) c') w' ∧ Fw w' B A' c' (xs ++ [y]) ∧ Below B w w' ∧ w.grownBy w' (A.map (·.block)) ∧ (A'.map (·.block) = A.map (·.block) ∨ A'.map (·.block) = some w.heap.size) := by
  obtain ⟨i, hi, hz, hsize, hby⟩ := info_parts flow_info
  have hAb : ∀ k, A.map (·.block) = some k → B ≤ k := by
    intro k hk
    cases A with
    | none => cases hk
    | some ad => simp at hk; subst hk; exact (hown.form.2.2 ad rfl).1
  have hob : (Value.slice A xs.length c).ownBlock = A.map (·.block) := by cases A <;> rfl
  have hnews : ∀ j u, (wcells [y])[j]? = some u → w.cell? (ad.add j) = some u := by
    intro j u hu
    obtain ⟨k, hk, hcase⟩ := wcells_at [y] j u hu
    obtain ⟨ad', e', _, hc⟩ := hr (by simp)
    injection e' with e'
    subst e'
    obtain ⟨h0, h1⟩ := hc k hk
    have hk0 : k = 0 := by simpa using hk
    subst hk0
    rcases hcase with ⟨rfl, rfl⟩ | ⟨rfl, rfl⟩
    · exact h0
    · rw [show ad.add (0 * 2 + 1) = ⟨(ad.add (0 * 2)).block, (ad.add (0 * 2)).off + 1, none⟩ from by rw [Nat.zero_mul, add_at1, add_at0]]
      exact h1
  obtain ⟨v', w', hrun, hown', hg, _, hat⟩ := run_append_own_at (P := Try.prog) w B 23 23 48 i _ 2 32 Try.underlying23 hi hz hsize hby rfl (by omega) (.slice A xs.length c) xs.length (wcells xs) hown ad 1 c2 (wcells [y]) rfl hnews
    (wcells_one [y]) (by simp only [maxLen]; omega) (by omega) hbase
  have hform : ∃ A' c', v' = .slice A' (xs.length + 1) c' := by
    rcases hown'.2 with ⟨rfl, hn⟩ | ⟨g, cap, cur, rfl, _⟩
    · omega
    · exact ⟨_, _, rfl⟩
  obtain ⟨A', c', rfl⟩ := hform
  have hob' : (Value.slice A' (xs.length + 1) c').ownBlock = A'.map (·.block) := by cases A' <;> rfl
  rw [hob, hob'] at hat
  rw [hob] at hg
  refine ⟨A', c', w', hrun, ?_, (Below.refl _ _).grown hg hbase hAb, hg, hat⟩
  unfold Fw
  rw [List.length_append, wcells_append]
  exact hown'
set_option maxRecDepth 100000 in
theorem wpList_append_w2 (w : World) {ops : Array Oper} {rest : List Oper} {o : Oper} {a : Act} {Q : Exit → Act → World → Prop} (hgd : o.guard = none) (s x : Operand)
    (ho : o.op = .call { callee := .builtin .append, args := #[s, x], argTypes := #[23, 23] }) (hty : o.type = 23)
    {B c n : Nat} {A : Option Addr} {xs : List Fm} (hs : a.eval s = .slice A n c) (hn : n = xs.length) (hown : Fw w B A c xs)
    (ad : Addr) (c2 : Nat) (y : Fm) (hx : a.eval x = .slice (some ad) 1 c2) (hr : RdW w (some ad) [y]) (hmax : n ≤ 1000) (hbase : B ≤ w.heap.size)
    (h : ∀ A' c' w', Fw w' B A' c' (xs ++ [y]) → Below B w w' → w.grownBy w' (A.map (·.block)) → (A'.map (·.block) = A.map (·.block) ∨ A'.map (·.block) = some w.heap.size) → wpList Try.prog ops Q rest (a.put o.dst (.slice A' (n + 1) c')) w') : wpList Try.prog ops Q (o :: rest) a w := by
  subst hn
  obtain ⟨A', c', w', hrun, h1, h3, h4, h5⟩ := run_append_w2 w hown ad c2 y hr hmax hbase
  refine wpList_plain hgd fun K hK => ?_
  unfold Oper.wp execOp
  simp only [ho, hty, resolve, invoke, builtin, Sem.run_bind, Sem.run_pure, Result.andThen_ok, List.map_toArray, List.map_cons, List.map_nil, hs, hx, hrun]
  exact hK _ _ (h A' c' w' h1 h3 h4 h5)

end Go.Proofs.Ythdfflbhogfejaa
