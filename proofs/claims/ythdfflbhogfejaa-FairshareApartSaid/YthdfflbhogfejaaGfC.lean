/- The rates are accepted with their bottlenecks; whatever is accepted is the rates. No program in sight. Words for blocks of two cells, and for rows that lie apart. The walk of SameInts. -/
import Derived.Test.YthdfflbhogfejaaFhG
import Derived.Test.YthdfflbhogfejaaFhW
import Derived.WalkMore
import Derived.BigQuiet
import Derived.Deep.QuietTactic
import Derived.Deep.CutBlock
namespace Go.Proofs.Ythdfflbhogfejaa

set_option maxRecDepth 100000 in
theorem not_big {q : Rat} (h : Sz q 4 4) : ¬ bigQ q := by
  have h1 := h.1; have h2 := h.2
  rw [bigQ]; omega
section
variable {caps : List Int} {l : List Fl}
set_option maxRecDepth 100000 in
theorem rates_sm (h : validFl caps l) (h14 : l.length ≤ 14) : ∃ D, SmR (cpF caps) l (itR (cpF caps) l caps.length l.length) D := itR_sm h.okR h14 (fun i hi => (h.lm i hi).2) l.length h14
set_option maxRecDepth 100000 in
theorem rates_load (h : validFl caps l) (h14 : l.length ≤ 14) (k : Int) : loadE l (ratesM (cpF caps) l caps.length) k l.length = some (ldq l (ratesM (cpF caps) l caps.length) k) := by
  obtain ⟨D, hD⟩ := rates_sm h h14
  refine loadE_ok _ fun m hm => not_big (hD.sz (B := 14 * 4096) ((Qd.sum (n := m) (B := 4096) (fun i hi => ?_)).mono (Nat.mul_le_mul_right _ (by omega))) (by omega))
  rw [tk]
  split
  · exact hD.qd i (by omega)
  · exact Qd.zero _ _
set_option maxRecDepth 100000 in
theorem rates_limP (h : validFl caps l) (h14 : l.length ≤ 14) {i : Nat} {k : Int} : limP (cpF caps) l (ratesM (cpF caps) l caps.length) k i ↔ ldq l (ratesM (cpF caps) l caps.length) k = (cpF caps k : Rat) ∧ ∀ j, j < l.length → k ∈ lkA l j → (ratesM (cpF caps) l caps.length).getD j 0 ≤ (ratesM (cpF caps) l caps.length).getD i 0 := by
  rw [limP, rates_load h h14]
  constructor
  · rintro ⟨h1, h2⟩; exact ⟨Option.some.inj h1, h2⟩
  · rintro ⟨h1, h2⟩; exact ⟨congrArg some h1, h2⟩
set_option maxRecDepth 100000 in
theorem rates_chk (h : validFl caps l) (h14 : l.length ≤ 14) {vs : List Fx} (hv : ∀ v ∈ vs, v.v) (hR : vs.map Fx.q = ratesM (cpF caps) l caps.length) : chkP caps l vs (botM (cpF caps) l (ratesM (cpF caps) l caps.length)) := by
  have hc := ratesM_cert h.okR
  have hl : vs.length = l.length := by have := congrArg List.length hR; rw [List.length_map, hc.lo] at this; exact this
  refine ⟨h, hl, botM_len _ _ _, hv, fun i hi => by rw [hR]; exact hc.nn i hi, fun k hk => ?_, fun i hi => ?_⟩
  · rw [hR]
    exact ⟨_, rates_load h h14 _, hc.cap k hk⟩
  · have hb : (botM (cpF caps) l (ratesM (cpF caps) l caps.length)).getD i 0 = botA (cpF caps) l (ratesM (cpF caps) l caps.length) i := by
      rw [getD_lt _ _ _ (by rw [botM_len]; exact hi)]; simp [botM]
    rw [hb, hR]
    by_cases he : (ratesM (cpF caps) l caps.length).getD i 0 = (lmA l i : Rat)
    · have : botA (cpF caps) l (ratesM (cpF caps) l caps.length) i = -1 := by rw [botA, if_pos he]
      rw [if_pos this]; exact he
    · rcases hc.held i hi with h1 | ⟨k, hk, h1, h2⟩
      · exact absurd h1 he
      · have hlim : limP (cpF caps) l (ratesM (cpF caps) l caps.length) k i := (rates_limP h h14).2 ⟨h1, h2⟩
        cases hf : (lkA l i).find? (fun e => decide (limP (cpF caps) l (ratesM (cpF caps) l caps.length) e i)) with
        | none =>
          rw [List.find?_eq_none] at hf
          exact absurd (decide_eq_true hlim) (hf k hk)
        | some e =>
          have hbe : botA (cpF caps) l (ratesM (cpF caps) l caps.length) i = e := by rw [botA, if_neg he, hf]; rfl
          have hem := List.mem_of_find?_eq_some hf
          have hep := List.find?_some hf
          have hne : ¬ e = -1 := fun x => by have := h.okR.lk i hi e hem; omega
          rw [hbe, if_neg hne]
          exact ⟨hem, of_decide_eq_true hep⟩
set_option maxRecDepth 100000 in
/-- what Check accepts is the rates -/
theorem chkP.cert {vs : List Fx} {ats : List Int} (h : chkP caps l vs ats) : Cert (cpF caps) l caps.length (vs.map Fx.q) := by
  refine ⟨by rw [List.length_map]; exact h.lv, h.bd, fun k hk => ?_, fun i hi => ?_⟩
  · obtain ⟨q, h1, h2⟩ := h.ld k hk
    rw [loadE_val _ _ h1] at h2
    exact h2
  · have h1 := h.at_ i hi
    by_cases he : ats.getD i 0 = -1
    · rw [if_pos he] at h1; exact .inl h1
    · rw [if_neg he] at h1
      exact .inr ⟨_, h1.1, (loadE_val _ _ h1.2.1).symm, h1.2.2⟩
set_option maxRecDepth 100000 in
theorem chkP.rates {vs : List Fx} {ats : List Int} (h : chkP caps l vs ats) : vs.map Fx.q = ratesM (cpF caps) l caps.length :=
  Cert.unique h.vl.okR.lk h.cert (ratesM_cert h.vl.okR)
end
/-! the example of the sanity check -/
abbrev awC : List Int := [6, 10]
abbrev awL : List Fl := [([0], 100), ([0, 1], 100), ([1], 4)]
set_option maxRecDepth 100000 in
theorem awV : validFl awC awL := by decide +kernel
set_option maxRecDepth 100000 in
theorem awR : ratesM (cpF awC) awL 2 = [3, 3, 4] := by decide +kernel
set_option maxRecDepth 100000 in
theorem awB : botM (cpF awC) awL [3, 3, 4] = [0, 0, -1] := by decide +kernel
set_option maxRecDepth 100000 in
theorem awU : unitsM (cpF awC) awL = [3, 3, 4] := (unitsM_of awV.ok (k := 5) (show allFin (itU (cpF awC) awL 5) by unfold allFin; decide +kernel)).symm.trans (by decide +kernel)
end Go.Proofs.Ythdfflbhogfejaa
namespace Go.Proofs.Ythdfflbhogfejaa
open Go.RowKit
/-- a block of two cells that can be written -/
structure Bk2 (w : World) (G : Nat) (v0 v1 : Value) : Prop where
  c0 : w.cell? ⟨G, 0, none⟩ = some v0
  c1 : w.cell? ⟨G, 1, none⟩ = some v1
  f0 : w.frozen? ⟨G, 0, none⟩ = false
  f1 : w.frozen? ⟨G, 1, none⟩ = false
  lt : G < w.heap.size
section
variable {w w' : World} {G H : Nat} {v0 v1 : Value}
set_option maxRecDepth 100000 in
theorem Bk2.below (h : Bk2 w G v0 v1) (hb : Below w.heap.size w w') : Bk2 w' G v0 v1 :=
  ⟨(hb.cell (p := ⟨G, 0, none⟩) h.lt).trans h.c0, (hb.cell (p := ⟨G, 1, none⟩) h.lt).trans h.c1, (hb.frozen (p := ⟨G, 0, none⟩) h.lt).trans h.f0, (hb.frozen (p := ⟨G, 1, none⟩) h.lt).trans h.f1, Nat.lt_of_lt_of_le h.lt hb.size⟩
set_option maxRecDepth 100000 in
theorem Bk2.far (h : Bk2 w G v0 v1) {p : Addr} (hne : p.block ≠ G) (u : Value) : Bk2 (w.setCell p u) G v0 v1 := by
  have hb : (w.setCell p u).heap[G]? = w.heap[G]? := Below.heap_setCell _ _ _ _ (fun e => hne e.symm)
  refine ⟨?_, ?_, ?_, ?_, by simpa [World.setCell] using h.lt⟩
  · rw [← h.c0]; exact World.cell?_of_block hb
  · rw [← h.c1]; exact World.cell?_of_block hb
  · rw [← h.f0]; exact World.frozen?_of_block hb
  · rw [← h.f1]; exact World.frozen?_of_block hb
set_option maxRecDepth 100000 in
theorem Bk2.put1 (h : Bk2 w G v0 v1) (u : Value) : Bk2 (w.setCell ⟨G, 1, none⟩ u) G v0 u := by
  have h0 := h.c0
  have h1 := h.c1
  have f0 := h.f0
  have f1 := h.f1
  have hl := h.lt
  exact ⟨by go_simp, by go_simp, by go_simp, by go_simp, by simpa [World.setCell] using hl⟩
end
set_option maxRecDepth 100000 in
theorem bk2_alloc (w : World) (v0 v1 : Value) (e : TypeId) : Bk2 (w.alloc (.cells #[v0, v1] e)) w.heap.size v0 v1 ∧ Below w.heap.size w (w.alloc (.cells #[v0, v1] e)) ∧ (w.alloc (.cells #[v0, v1] e)).heap.size = w.heap.size + 1 :=
  ⟨⟨by go_simp, by go_simp, by go_simp, by go_simp, by simp⟩, (Below.refl _ _).alloc (Nat.le_refl _) _, by simp⟩
/-- two rows, and they do not lie in one block -/
def apart2 (AF AL : Option Addr) : Prop := ∀ a b, AF = some a → AL = some b → a.block ≠ b.block
set_option maxRecDepth 100000 in
theorem apart2.app {AF AL AF' : Option Addr} {z : Nat} (h : apart2 AF AL) (hL : ∀ b, AL = some b → b.block < z) (hat : AF'.map (·.block) = AF.map (·.block) ∨ AF'.map (·.block) = some z) : apart2 AF' AL := by
  intro a b e1 e2
  subst e1
  rcases hat with hat | hat
  · cases AF with
    | none => simp at hat
    | some f =>
      simp only [Option.map_some, Option.some.injEq] at hat
      rw [hat]; exact h f b rfl e2
  · simp only [Option.map_some, Option.some.injEq] at hat
    have := hL b e2
    omega
set_option maxRecDepth 100000 in
theorem apart2.symm {AF AL : Option Addr} (h : apart2 AF AL) : apart2 AL AF := fun a b e1 e2 => (h b a e2 e1).symm
/-- not that block -/
def offB (A : Option Addr) (G : Nat) : Prop := ∀ a, A = some a → a.block ≠ G
set_option maxRecDepth 100000 in
theorem offB.app {A A' : Option Addr} {G z : Nat} (h : offB A G) (hG : G < z) (hat : A'.map (·.block) = A.map (·.block) ∨ A'.map (·.block) = some z) : offB A' G := by
  intro a e
  subst e
  rcases hat with hat | hat
  · cases A with
    | none => simp at hat
    | some f =>
      simp only [Option.map_some, Option.some.injEq] at hat
      rw [hat]; exact h f rfl
  · simp only [Option.map_some, Option.some.injEq] at hat
    omega
set_option maxRecDepth 100000 in
theorem offB.row {A : Option Addr} {G : Nat} (h : offB A G) : some G ≠ A.map (·.block) := by
  cases A with
  | none => simp
  | some a => simp; exact fun e => h a rfl e.symm
set_option maxRecDepth 100000 in
theorem Bk2.grown {w w' : World} {G : Nat} {v0 v1 : Value} {row : Option Nat} (h : Bk2 w G v0 v1) (hg : w.grownBy w' row) (hne : some G ≠ row) : Bk2 w' G v0 v1 := by
  have hb : w'.heap[G]? = w.heap[G]? := hg.block G h.lt hne
  refine ⟨hg.cell h.c0 hne, hg.cell h.c1 hne, ?_, ?_, Nat.lt_of_lt_of_le h.lt hg.size⟩
  · rw [← h.f0]; exact World.frozen?_of_block hb
  · rw [← h.f1]; exact World.frozen?_of_block hb
set_option maxRecDepth 100000 in
theorem Bk2.put0 {w : World} {G : Nat} {v0 v1 : Value} (h : Bk2 w G v0 v1) (u : Value) : Bk2 (w.setCell ⟨G, 0, none⟩ u) G u v1 := by
  have h0 := h.c0
  have h1 := h.c1
  have f0 := h.f0
  have f1 := h.f1
  have hl := h.lt
  exact ⟨by go_simp, by go_simp, by go_simp, by go_simp, by simpa [World.setCell] using hl⟩
set_option maxRecDepth 100000 in
theorem apart2.row {AF AL : Option Addr} (h : apart2 AF AL) : ∀ a, AF = some a → some a.block ≠ AL.map (·.block) := by
  intro a e
  cases AL with
  | none => simp
  | some b => simp; exact h a b e rfl
set_option maxRecDepth 100000 in
theorem int_one (w : World) (v : Int) (e : TypeId) : Rd iv (w.alloc (.cells #[.int .i64 v] e)) (some ⟨w.heap.size, 0, none⟩) [v] := Rd.one w e v
set_option maxRecDepth 100000 in
theorem is_lit (w : World) (v : Int) (hv : -9223372036854775808 ≤ v ∧ v ≤ 9223372036854775807) (e : TypeId) : Is (w.alloc (.cells #[.int .i64 v] e)) (some ⟨w.heap.size, 0, none⟩) 1 [v] ∧ Below w.heap.size w (w.alloc (.cells #[.int .i64 v] e)) ∧ (w.alloc (.cells #[.int .i64 v] e)).heap.size = w.heap.size + 1 :=
  ⟨⟨by simp, by omega, Rd.one w e v, by intro x hx; rw [List.mem_singleton] at hx; rw [hx]; exact hv⟩, (Below.refl _ _).alloc (Nat.le_refl _) _, by simp⟩
end Go.Proofs.Ythdfflbhogfejaa
namespace Go.Proofs.Ythdfflbhogfejaa
open Go.RowKit
set_option maxRecDepth 100000 in
theorem sameints_any (w : World) (A : Option Addr) (n c : Nat) (xs : List Int) (D : Option Addr) (m d : Nat) (ys : List Int) (b : Bool) (hA : Is w A c xs) (hD : Is w D d ys) (hn : n = xs.length) (hm : m = ys.length) (hb : decide (xs = ys) = b) :
    Calls Try.prog 25 #[.slice A n c, .slice D m d] w fun e w' => e = .returned (.bool b) ∧ Below w.heap.size w w' := by
  have HB := Lib.hid hb; clear hb
  have HA := Lib.hid hA; clear hA
  have HD := Lib.hid hD; clear hD
  subst hn hm
  have hla := HA.out.len
  by_cases hl : xs.length = ys.length
  · have hl1 : ((xs.length : Int) == (ys.length : Int)) = true := by simp [hl]
    have hl2 : ((xs.length : Int) != (ys.length : Int)) = false := by simp [hl]
    have HL := Lib.hid hl
    clear hl
    go_enter Try.func25, Try.ntmps25
    go_wp2_with fail
    go_loopw [5] (fun i wr => ∃ k : Nat, k ≤ xs.length ∧ i = .int .i64 k ∧ xs.take k = ys.take k ∧ Below w.heap.size w wr) (fun i _ => xs.length - (intOf i).toNat)
    case atStart => exact ⟨0, by omega, rfl, rfl, Below.refl _ _⟩
    case round =>
      obtain ⟨k, hk, rfl, hP, bw⟩ := hrel
      have HP := Lib.hid hP
      clear hP
      by_cases hlt : k < xs.length
      · have hlt2 : k < ys.length := by have := HL.out; omega
        obtain ⟨ad, rfl, _, hc⟩ := (HA.out.below bw).at k hlt
        obtain ⟨bd, rfl, _, hd⟩ := (HD.out.below bw).at k hlt2
        have hac := HA.out.cap
        have hdc := HD.out.cap
        have hdm := HD.out.max
        by_cases hz : xs[k] = ys[k]
        · have hz1 : (xs[k] == ys[k]) = true := by simp [hz]
          have hz2 : (xs[k] != ys[k]) = false := by simp [hz]
          have HNX : Hid (xs.take (k + 1) = ys.take (k + 1)) := Lib.hid (by rw [List.take_succ_eq_append_getElem hlt, List.take_succ_eq_append_getElem hlt2, HP.out, hz])
          clear hz HP
          go_wp2_with fail
          go_quiet (fail)
          go_wp2_with fail
          go_roundw
          case rel => exact ⟨k + 1, by omega, by go_num, HNX.out, below_drewN bw nq⟩
          case measure => simp [intOf]; omega
        · have hz1 : (xs[k] == ys[k]) = false := beq_eq_false_iff_ne.2 hz
          have hz2 : (xs[k] != ys[k]) = true := by simp [hz]
          have HBB : Hid (b = false) := Lib.hid (by
            rw [← HB.out]
            refine decide_eq_false (fun h => hz ?_)
            subst h; rfl)
          clear hz HP
          go_wp2_with fail
          go_quiet (fail)
          go_wp2_with fail
          go_ret
          exact ⟨ret_bool HBB.out.symm, below_drewN bw nq⟩
      · have HBB : Hid (b = true) := Lib.hid (by
          rw [← HB.out]
          have h1 := HP.out
          rw [List.take_of_length_le (by omega), List.take_of_length_le (by have := HL.out; omega)] at h1
          exact decide_eq_true h1)
        go_wp2_with fail
        go_ret
        exact ⟨ret_bool HBB.out.symm, bw⟩
  · have hl1 : ((xs.length : Int) == (ys.length : Int)) = false := beq_eq_false_iff_ne.2 (by omega)
    have hl2 : ((xs.length : Int) != (ys.length : Int)) = true := by simp; omega
    have HBB : Hid (b = false) := Lib.hid (by rw [← HB.out]; exact decide_eq_false (fun h => hl (by rw [h])))
    clear hl
    go_enter Try.func25, Try.ntmps25
    go_wp2_with fail
    go_ret
    exact ⟨ret_bool HBB.out.symm, Below.refl _ _⟩
end Go.Proofs.Ythdfflbhogfejaa
