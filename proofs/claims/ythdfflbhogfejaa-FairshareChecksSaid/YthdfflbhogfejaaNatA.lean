/- Words for lists of transfers in memory, and rows of flows of the call's own. Appending a flow, a transfer onto a row of the call's own. Appending a flow, with what the append keeps. The walk of Flows. The flows that the laws make may be. The walks of package natural: length, large, Cmp. -/
import Derived.Test.YthdfflbhogfejaaTrX
import Derived.Laws.MakeOwn
import Derived.Maps.AppendAt
import Derived.Test.YthdfflbhogfejaaProg
import Derived.Test.YthdfflbhogfejaaBase
import Derived.BigQuiet
import Derived.Deep.QuietTactic
namespace Go.Proofs.Ythdfflbhogfejaa
set_option maxRecDepth 100000
open Go.RowKit

/-- a transfer: where its links lie, its bytes and its start -/
structure Tm where
  A : Option Addr
  c : Nat
  ls : List Int
  b : Int
  s : Int
abbrev Tm.val (x : Tm) : Value := .agg #[.slice x.A x.ls.length x.c, .int .i64 x.b, .int .i64 x.s]
abbrev Tm.cells (x : Tm) : Array Value := #[.slice x.A x.ls.length x.c, .int .i64 x.b, .int .i64 x.s]
/-- links, bytes, start -/
abbrev Tr := List Int × Int × Int
abbrev Tm.tr (x : Tm) : Tr := (x.ls, x.b, x.s)
structure Tm.ok (x : Tm) (w : World) : Prop where
  is : Is w x.A x.c x.ls
  wb : -9223372036854775808 ≤ x.b ∧ x.b ≤ 9223372036854775807
  ws : -9223372036854775808 ≤ x.s ∧ x.s ≤ 9223372036854775807
theorem Tm.ok.below {x : Tm} {w w' : World} (h : x.ok w) (hb : Below w.heap.size w w') : x.ok w' := ⟨h.is.below hb, h.wb, h.ws⟩
/-- the flow of a transfer with a limit -/
abbrev Tm.fm (x : Tm) (m : Int) : Fm := ⟨x.A, x.c, x.ls, m⟩
def RdT (w : World) (A : Option Addr) (ts : List Tm) : Prop := 0 < ts.length → ∃ ad, A = some ad ∧ ad.block < w.heap.size ∧
  ∀ k (hk : k < ts.length), w.cell? (ad.add (k * 3)) = some (.slice ts[k].A ts[k].ls.length ts[k].c) ∧ w.cell? ⟨(ad.add (k * 3)).block, (ad.add (k * 3)).off + 1, none⟩ = some (.int .i64 ts[k].b) ∧ w.cell? ⟨(ad.add (k * 3)).block, (ad.add (k * 3)).off + 2, none⟩ = some (.int .i64 ts[k].s)
theorem RdT.below {w w' : World} {A : Option Addr} {ts : List Tm} (h : RdT w A ts) (hb : Below w.heap.size w w') : RdT w' A ts := fun hn => by
  obtain ⟨ad, e, hl, hc⟩ := h hn
  refine ⟨ad, e, Nat.lt_of_lt_of_le hl hb.size, fun k hk => ?_⟩
  obtain ⟨h0, h1, h2⟩ := hc k hk
  have e2 : (ad.add (k * 3)).block = ad.block := block_of_add _ _
  exact ⟨(hb.cell (p := ad.add (k * 3)) (by rw [e2]; exact hl)).trans h0, (hb.cell (p := ⟨(ad.add (k * 3)).block, (ad.add (k * 3)).off + 1, none⟩) (by show (ad.add (k * 3)).block < _; rw [e2]; exact hl)).trans h1, (hb.cell (p := ⟨(ad.add (k * 3)).block, (ad.add (k * 3)).off + 2, none⟩) (by show (ad.add (k * 3)).block < _; rw [e2]; exact hl)).trans h2⟩
/-- a list of transfers in memory -/
structure Ts (w : World) (A : Option Addr) (c : Nat) (ts : List Tm) : Prop where
  cap : ts.length ≤ c
  max : c ≤ 9223372036854775807
  rd : RdT w A ts
  ok : ∀ x ∈ ts, x.ok w
theorem Ts.below {w w' : World} {A : Option Addr} {c : Nat} {ts : List Tm} (h : Ts w A c ts) (hb : Below w.heap.size w w') : Ts w' A c ts := ⟨h.cap, h.max, h.rd.below hb, fun x hx => (h.ok x hx).below hb⟩
theorem Ts.at {w : World} {A : Option Addr} {c : Nat} {ts : List Tm} (h : Ts w A c ts) (k : Nat) (hk : k < ts.length) : ∃ ad, A = some ad ∧ w.cell? (ad.add (k * 3)) = some (.slice ts[k].A ts[k].ls.length ts[k].c) ∧ w.cell? ⟨(ad.add (k * 3)).block, (ad.add (k * 3)).off + 1, none⟩ = some (.int .i64 ts[k].b) ∧ w.cell? ⟨(ad.add (k * 3)).block, (ad.add (k * 3)).off + 2, none⟩ = some (.int .i64 ts[k].s) ∧ ts[k].ok w := by
  obtain ⟨ad, e, _, hc⟩ := h.rd (by omega)
  obtain ⟨h0, h1, h2⟩ := hc k hk
  exact ⟨ad, e, h0, h1, h2, h.ok _ (List.getElem_mem hk)⟩
/-- a block of three cells: a transfer -/
structure Tb (w : World) (G : Nat) (x : Tm) : Prop where
  c0 : w.cell? ⟨G, 0, none⟩ = some (.slice x.A x.ls.length x.c)
  c1 : w.cell? ⟨G, 1, none⟩ = some (.int .i64 x.b)
  c2 : w.cell? ⟨G, 2, none⟩ = some (.int .i64 x.s)
  lt : G < w.heap.size
theorem Tb.below {w w' : World} {G : Nat} {x : Tm} (h : Tb w G x) (hb : Below w.heap.size w w') : Tb w' G x :=
  ⟨(hb.cell (p := ⟨G, 0, none⟩) h.lt).trans h.c0, (hb.cell (p := ⟨G, 1, none⟩) h.lt).trans h.c1, (hb.cell (p := ⟨G, 2, none⟩) h.lt).trans h.c2, Nat.lt_of_lt_of_le h.lt hb.size⟩
/-! rows of flows -/
def wcells : List Fm → List Value
  | [] => []
  | v :: vs => .slice v.A v.ls.length v.c :: .int .i64 v.m :: wcells vs
theorem wcells_len (vs : List Fm) : (wcells vs).length = vs.length * 2 := by
  induction vs with
  | nil => rfl
  | cons v vs ih => rw [wcells]; simp only [List.length_cons, ih]; omega
theorem wcells_append (a b : List Fm) : wcells (a ++ b) = wcells a ++ wcells b := by
  induction a with
  | nil => rfl
  | cons v a ih => rw [List.cons_append, wcells, wcells, ih]; rfl
theorem wcells_get (vs : List Fm) : ∀ k (hk : k < vs.length), (wcells vs)[k * 2]? = some (.slice vs[k].A vs[k].ls.length vs[k].c) ∧ (wcells vs)[k * 2 + 1]? = some (.int .i64 vs[k].m) := by
  induction vs with
  | nil => intro k hk; simp at hk
  | cons v vs ih =>
    intro k hk
    cases k with
    | zero => exact ⟨rfl, rfl⟩
    | succ k =>
      have h := ih k (by simpa using hk)
      have e : (k + 1) * 2 = k * 2 + 1 + 1 := by omega
      rw [wcells, e]
      simp only [List.getElem?_cons_succ, List.getElem_cons_succ]
      exact h
theorem wcells_set (vs : List Fm) (x : Fm) : ∀ i, ((wcells vs).set (i * 2) (.slice x.A x.ls.length x.c)).set (i * 2 + 1) (.int .i64 x.m) = wcells (vs.set i x) := by
  induction vs with
  | nil => intro i; simp [wcells]
  | cons v vs ih =>
    intro i
    cases i with
    | zero => simp [wcells]
    | succ i =>
      have e : (i + 1) * 2 = i * 2 + 1 + 1 := by omega
      rw [wcells, e]
      simp only [List.set_cons_succ, wcells]
      rw [ih i]
theorem wcells_one (vs : List Fm) : ∀ u ∈ wcells vs, u.oneCell' = true := by
  induction vs with
  | nil => intro u hu; cases hu
  | cons v vs ih =>
    intro u hu
    rw [wcells] at hu
    simp only [List.mem_cons] at hu
    rcases hu with rfl | rfl | hu
    · rfl
    · rfl
    · exact ih u hu
/-- a row of flows of the call's own -/
def Fw (w : World) (B : Nat) (A : Option Addr) (c : Nat) (vs : List Fm) : Prop := World.ownsRow w B 48 2 (.slice A vs.length c) vs.length (wcells vs)
section
variable {w w' : World} {B : Nat} {A : Option Addr} {c : Nat} {vs : List Fm}
theorem add_mkt (g j : Nat) : (⟨g, 0, none⟩ : Addr).add j = ⟨g, j, none⟩ := by
  unfold Addr.add
  split
  · rename_i h; rw [h]
  · simp
theorem Fw.rd (h : Fw w B A c vs) : RdW w A vs := fun hn => by
  have h' := h
  rcases h.2 with ⟨_, h0⟩ | ⟨g, cap, cur, hv, _, hg, _⟩
  · omega
  · simp only [Value.slice.injEq] at hv
    obtain ⟨rfl, _, rfl⟩ := hv
    refine ⟨_, rfl, ?_, fun k hk => ?_⟩
    · exact (Array.getElem?_eq_some_iff.1 hg).1
    · obtain ⟨h0, h1⟩ := wcells_get vs k hk
      have hc := fun j hj => World.ownsRow.cellAt h' j hj
      rw [add_mkt]
      exact ⟨(hc (k * 2) (by omega)).trans h0, (hc (k * 2 + 1) (by omega)).trans h1⟩
theorem Fw.below (h : Fw w B A c vs) (hb : Below w.heap.size w w') : Fw w' B A c vs :=
  World.ownsRow.kept h (w' := w') (row := none) ⟨hb.os, hb.tape, hb.output, hb.size, fun k hk _ => hb.block k hk⟩ (by
    cases A with
    | none => exact .inl rfl
    | some ad => exact .inr (by simp [Value.ownBlock]))
theorem Fw.grown {row : Option Nat} (h : Fw w B A c vs) (hg : w.grownBy w' row) (hne : ∀ ad, A = some ad → some ad.block ≠ row) : Fw w' B A c vs :=
  World.ownsRow.kept h hg (by
    cases A with
    | none => exact .inl rfl
    | some ad => exact .inr (hne ad rfl))
theorem Fw.form (h : Fw w B A c vs) : vs.length ≤ c ∧ c ≤ maxLen ∧ ∀ ad, A = some ad → B ≤ ad.block ∧ ad.block < w.heap.size := by
  rcases h.2 with ⟨h', hn⟩ | ⟨g', cap', cur, h', hb, hg, h3, h4, _⟩
  · simp only [Value.slice.injEq] at h'
    obtain ⟨rfl, _, rfl⟩ := h'
    exact ⟨by omega, by simp [maxLen], by intro ad h; cases h⟩
  · simp only [Value.slice.injEq] at h'
    obtain ⟨rfl, _, rfl⟩ := h'
    exact ⟨h3, h4, by intro ad h; injection h with h; subst h; exact ⟨hb, (Array.getElem?_eq_some_iff.1 hg).1⟩⟩
theorem Fw.free {g : Nat} (h : Fw w B (some ⟨g, 0, none⟩) c vs) (k : Nat) : w.frozen? ⟨g, k, none⟩ = false := World.ownsRow.frozenAt h k
theorem Fw.put {g : Nat} (h : Fw w B (some ⟨g, 0, none⟩) c vs) (i : Nat) (x : Fm) : Fw ((w.setCell ⟨g, i * 2, none⟩ (.slice x.A x.ls.length x.c)).setCell ⟨g, i * 2 + 1, none⟩ (.int .i64 x.m)) B (some ⟨g, 0, none⟩) c (vs.set i x) := by
  have h1 := (World.ownsRow.stored h (i * 2) (.slice x.A x.ls.length x.c)).1
  have h2 := (World.ownsRow.stored h1 (i * 2 + 1) (.int .i64 x.m)).1
  unfold Fw
  rw [List.length_set, ← wcells_set]
  exact h2
theorem Fw.ws (h : Fw w B A c vs) (ho : ∀ x ∈ vs, x.ok w) : Ws w A c vs := ⟨h.form.1, by have := h.form.2.1; unfold maxLen at this; omega, h.rd, ho⟩
end
abbrev Fm.nil : Fm := ⟨none, 0, [], 0⟩
theorem flow_info : (Try.prog.info? 48).map (fun i => (i.zero, i.size, i.bytes)) = some (some Fm.nil.val, 2, 32) := by kernel_rfl
end Go.Proofs.Ythdfflbhogfejaa
namespace Go.Proofs.Ythdfflbhogfejaa
set_option maxRecDepth 100000
open Go.RowKit

theorem wcells_at (vs : List Fm) (j : Nat) (u : Value) (h : (wcells vs)[j]? = some u) : ∃ k, ∃ hk : k < vs.length, (j = k * 2 ∧ u = .slice vs[k].A vs[k].ls.length vs[k].c) ∨ (j = k * 2 + 1 ∧ u = .int .i64 vs[k].m) := by
  have hj : j < vs.length * 2 := by
    rcases Nat.lt_or_ge j (vs.length * 2) with h1 | h1
    · exact h1
    · rw [List.getElem?_eq_none (by rw [wcells_len]; exact h1)] at h; cases h
  have hk : j / 2 < vs.length := by omega
  obtain ⟨h0, h1⟩ := wcells_get vs (j / 2) hk
  refine ⟨j / 2, hk, ?_⟩
  rcases (show j % 2 = 0 ∨ j % 2 = 1 by omega) with e | e
  · left
    have ej : j = j / 2 * 2 := by omega
    rw [ej] at h
    exact ⟨ej, Option.some.inj (h.symm.trans h0)⟩
  · right
    have ej : j = j / 2 * 2 + 1 := by omega
    rw [ej] at h
    exact ⟨ej, Option.some.inj (h.symm.trans h1)⟩
/-- a literal of one flow -/
theorem rdw_one (w : World) (x : Fm) : RdW (w.alloc (.cells x.cells 48)) (some ⟨w.heap.size, 0, none⟩) [x] := fun _ =>
  ⟨_, rfl, by simp, fun k hk => by
    have : k = 0 := by simpa using hk
    subst this
    exact ⟨by go_simp, by go_simp⟩⟩
end Go.Proofs.Ythdfflbhogfejaa
namespace Go.Proofs.Ythdfflbhogfejaa
set_option maxRecDepth 100000
open Go.RowKit

theorem run_append_w2 (w : World) {B c : Nat} {A : Option Addr} {xs : List Fm} (hown : Fw w B A c xs) (ad : Addr) (c2 : Nat) (y : Fm) (hr : RdW w (some ad) [y]) (hmax : xs.length ≤ 1000) (hbase : B ≤ w.heap.size) :
    ∃ A' c' w', (Builtin.append_ #[23, 23] 23 #[.slice A xs.length c, .slice (some ad) 1 c2]).run Try.prog w = .ok (.slice A' (xs.length + 1) c') w' ∧ Fw w' B A' c' (xs ++ [y]) ∧ Below B w w' ∧ w.grownBy w' (A.map (·.block)) ∧ (A'.map (·.block) = A.map (·.block) ∨ A'.map (·.block) = some w.heap.size) := by
  obtain ⟨i, hi, hz, hsize, hby⟩ := info_parts flow_info
  have hAb : ∀ k, A.map (·.block) = some k → B ≤ k := by
    intro k hk
    cases A with
    | none => cases hk
    | some ad => simp at hk; subst hk; exact (hown.form.2.2 ad rfl).1
  have hob : (Value.slice A xs.length c).ownBlock = A.map (·.block) := by cases A <;> rfl
  have hnews : ∀ j u, (wcells [y])[j]? = some u → w.cell? (ad.add j) = some u := by
    intro j u hu
    obtain ⟨k, hk, hcase⟩ := wcells_at [y] j u hu
    obtain ⟨ad', e', _, hc⟩ := hr (by simp)
    injection e' with e'
    subst e'
    obtain ⟨h0, h1⟩ := hc k hk
    have hk0 : k = 0 := by simpa using hk
    subst hk0
    rcases hcase with ⟨rfl, rfl⟩ | ⟨rfl, rfl⟩
    · exact h0
    · rw [show ad.add (0 * 2 + 1) = ⟨(ad.add (0 * 2)).block, (ad.add (0 * 2)).off + 1, none⟩ from by rw [Nat.zero_mul, add_at1, add_at0]]
      exact h1
  obtain ⟨v', w', hrun, hown', hg, _, hat⟩ := run_append_own_at (P := Try.prog) w B 23 23 48 i _ 2 32 Try.underlying23 hi hz hsize hby rfl (by omega) (.slice A xs.length c) xs.length (wcells xs) hown ad 1 c2 (wcells [y]) rfl hnews
    (wcells_one [y]) (by simp only [maxLen]; omega) (by omega) hbase
  have hform : ∃ A' c', v' = .slice A' (xs.length + 1) c' := by
    rcases hown'.2 with ⟨rfl, hn⟩ | ⟨g, cap, cur, rfl, _⟩
    · omega
    · exact ⟨_, _, rfl⟩
  obtain ⟨A', c', rfl⟩ := hform
  have hob' : (Value.slice A' (xs.length + 1) c').ownBlock = A'.map (·.block) := by cases A' <;> rfl
  rw [hob, hob'] at hat
  rw [hob] at hg
  refine ⟨A', c', w', hrun, ?_, (Below.refl _ _).grown hg hbase hAb, hg, hat⟩
  unfold Fw
  rw [List.length_append, wcells_append]
  exact hown'
theorem wpList_append_w2 (w : World) {ops : Array Oper} {rest : List Oper} {o : Oper} {a : Act} {Q : Exit → Act → World → Prop} (hgd : o.guard = none) (s x : Operand)
    (ho : o.op = .call { callee := .builtin .append, args := #[s, x], argTypes := #[23, 23] }) (hty : o.type = 23)
    {B c n : Nat} {A : Option Addr} {xs : List Fm} (hs : a.eval s = .slice A n c) (hn : n = xs.length) (hown : Fw w B A c xs)
    (ad : Addr) (c2 : Nat) (y : Fm) (hx : a.eval x = .slice (some ad) 1 c2) (hr : RdW w (some ad) [y]) (hmax : n ≤ 1000) (hbase : B ≤ w.heap.size)
    (h : ∀ A' c' w', Fw w' B A' c' (xs ++ [y]) → Below B w w' → w.grownBy w' (A.map (·.block)) → (A'.map (·.block) = A.map (·.block) ∨ A'.map (·.block) = some w.heap.size) → wpList Try.prog ops Q rest (a.put o.dst (.slice A' (n + 1) c')) w') : wpList Try.prog ops Q (o :: rest) a w := by
  subst hn
  obtain ⟨A', c', w', hrun, h1, h3, h4, h5⟩ := run_append_w2 w hown ad c2 y hr hmax hbase
  refine wpList_plain hgd fun K hK => ?_
  unfold Oper.wp execOp
  simp only [ho, hty, resolve, invoke, builtin, Sem.run_bind, Sem.run_pure, Result.andThen_ok, List.map_toArray, List.map_cons, List.map_nil, hs, hx, hrun]
  exact hK _ _ (h A' c' w' h1 h3 h4 h5)

end Go.Proofs.Ythdfflbhogfejaa
namespace Go.Proofs.Ythdfflbhogfejaa
set_option maxRecDepth 100000
open Go.RowKit

/-- the links of a mask -/
def linksM (m : Nat) (n : Nat) : List Int := ((List.range n).filter fun k => decide (m / 2 ^ k % 2 = 1)).map fun k : Nat => (k : Int)
theorem linksM_succ (m n : Nat) : linksM m (n + 1) = linksM m n ++ if m / 2 ^ n % 2 = 1 then [(n : Int)] else [] := by
  rw [linksM, linksM, List.range_succ, List.filter_append, List.map_append]
  congr 1
  by_cases h : m / 2 ^ n % 2 = 1 <;> simp [h]
theorem linksM_len (m n : Nat) : (linksM m n).length ≤ n := by
  rw [linksM, List.length_map]
  exact Nat.le_trans (List.length_filter_le _ _) (by simp)
theorem linksM_mem {m n : Nat} {e : Int} (h : e ∈ linksM m n) : 0 ≤ e ∧ e < n := by
  obtain ⟨k, hk, rfl⟩ := List.mem_map.1 h
  have := List.mem_range.1 (List.mem_filter.1 hk).1
  omega
theorem and_one : ∀ a : Nat, a < 64 → bits .and .i64 (a : Int) 1 = ((a % 2 : Nat) : Int) := by decide +kernel
theorem mask_bit (m k : Nat) (hm : m < 64) : bits .and .i64 ((m : Int) / 2 ^ k) 1 = ((m / 2 ^ k % 2 : Nat) : Int) := by
  have e : ((m : Int) / 2 ^ k) = ((m / 2 ^ k : Nat) : Int) := by rw [Int.natCast_ediv, Int.natCast_pow]; rfl
  rw [e]
  exact and_one _ (Nat.lt_of_le_of_lt (Nat.div_le_self _ _) hm)
/-- one of the flows that a law makes -/
def flowM (l : List Int) (n : Nat) (j : Nat) : Fl := (linksM (withinM (l.getD (2 * j) 0) 64).toNat n, withinM (l.getD (2 * j + 1) 0) 24)
/-- how many flows a law makes -/
def cntF (l : List Int) : Nat := min 7 (l.length / 2)
def flowsM (l : List Int) (n : Nat) : List Fl := (List.range (cntF l)).map (flowM l n)
/-- the links of the flows do not lie in the row's block -/
def apartW (A : Option Addr) (fs : List Fm) : Prop := ∀ x ∈ fs, apart2 x.A A
set_option maxHeartbeats 4000000 in
theorem flowsL_walk (w : World) (A : Option Addr) (n c : Nat) (xs : List Int) (L : Nat) (hA : Is w A c xs) (hn : n = xs.length) (hL : L ≤ 20) :
    Calls Try.prog 23 #[.slice A n c, .int .i64 L] w fun e w' => ∃ A' c' fs, e = .returned (.slice A' fs.length c') ∧ fs.map Fm.fl = flowsM xs L ∧ Ws w' A' c' fs ∧ Below w.heap.size w w' := by
  have HA := Lib.hid hA; clear hA
  subst hn
  obtain ⟨i1, hi, hi0, hi1, hi2⟩ := info_parts int_info
  have hla := HA.out.len
  have hla2 := HA.out.cap
  have hla3 := HA.out.max
  go_enter Try.func23, Try.ntmps23
  go_wp2_with fail
  go_loopw [5, 6] (fun s i wr => ∃ (j i2 : Nat) (A' : Option Addr) (c' : Nat) (fs : List Fm), j ≤ cntF xs ∧ i2 = 2 * j ∧ i = .int .i64 (i2 : Int) ∧ s = .slice A' fs.length c' ∧ fs.length = j ∧ fs.map Fm.fl = (List.range j).map (flowM xs L) ∧ Fw wr w.heap.size A' c' fs ∧ (∀ x ∈ fs, x.ok wr) ∧ apartW A' fs ∧ (∀ x ∈ fs, ∀ b, x.A = some b → b.block < wr.heap.size) ∧ Below w.heap.size w wr) (fun _ i _ => xs.length + 2 - (intOf i).toNat)
  case atStart => exact ⟨0, 0, none, 0, [], by omega, rfl, rfl, rfl, rfl, rfl, ⟨rfl, .inl ⟨rfl, rfl⟩⟩, by simp, (by intro x hx; cases hx), (by intro x hx; cases hx), Below.refl _ _⟩
  case round =>
    obtain ⟨j, i2, A', c', fs, hj, hi2', rfl, rfl, hfl, hfm, hF, hO, hap, hblt, bw⟩ := hrel
    have HF := Lib.hid hF
    have HO := Lib.hid hO
    have HAP := Lib.hid hap
    have HBLT := Lib.hid hblt
    have HFM := Lib.hid hfm
    have HFL := Lib.hid hfl
    have hj7 : j ≤ 7 := by unfold cntF at hj; omega
    have hfl7 : fs.length ≤ 7 := by omega
    clear hF hO hap hfm hfl hblt
    have HI2 := Lib.hid hi2'
    by_cases hlt : i2 + 1 < xs.length
    · by_cases h14 : i2 < 14
      · have hj7' : j < 7 := by omega
        clear hi2'
        obtain ⟨ad, rfl, _, hc0⟩ := (HA.out.below bw).at i2 (by omega)
        obtain ⟨ad2, had, _, hc1⟩ := (HA.out.below bw).at (i2 + 1) hlt
        injection had with had
        subst had
        rw [add_at1] at hc1
        have wf0 := Lib.hid (HA.out.wf _ (List.getElem_mem (show i2 < xs.length by omega)))
        have wf1 := Lib.hid (HA.out.wf _ (List.getElem_mem hlt))
        have HFM1 : Hid (flowM xs L j = (linksM (withinM xs[i2] 64).toNat L, withinM xs[i2 + 1] 24)) := Lib.hid (by
          rw [flowM, ← HI2.out, getD_lt _ _ _ hlt, getD_lt _ _ _ (show i2 < xs.length by omega)])
        go_wp2_with fail
        refine (within_any wr _ _ wf1.out (by omega)).mono ?_
        rintro e wn ⟨rfl, rfl⟩
        go_upto_region 6 with fail
        obtain ⟨lm, hlm⟩ : ∃ lm, withinM xs[i2 + 1] 24 = lm := ⟨_, rfl⟩
        rw [hlm] at HFM1 ⊢
        obtain ⟨bk, bb, zb⟩ := bk2_alloc wr (.slice none 0 0) (.int .i64 lm) 48
        have hc0' := (bb.cell (p := ad.add i2) (World.block_lt_of_cell? wr _ hc0)).trans hc0
        have hBB := Lib.hid bb
        have hlmb := withinM_bd xs[i2 + 1] (show (1 : Int) ≤ 24 by omega)
        rw [hlm] at hlmb
        have HLB := Lib.hid hlmb
        clear hc0 hc1 hlm hlmb bb
        generalize (wr.alloc (.cells #[.slice none 0 0, .int .i64 lm] 48)) = w0 at bk hBB hc0' zb ⊢
        obtain ⟨gF, hgF⟩ : ∃ gF, wr.heap.size = gF := ⟨_, rfl⟩
        have HGF := Lib.hid hgF
        rw [hgF] at bk zb ⊢
        clear hgF
        go_wp2_with fail
        refine (within_any w0 _ _ wf0.out (by omega)).mono ?_
        rintro e wn ⟨rfl, rfl⟩
        have hmb := withinM_bd xs[i2] (show (1 : Int) ≤ 64 by omega)
        obtain ⟨m, hm⟩ : ∃ m : Nat, withinM xs[i2] 64 = (m : Int) := ⟨(withinM xs[i2] 64).toNat, by omega⟩
        rw [hm] at HFM1 hmb ⊢
        rw [Int.toNat_natCast] at HFM1
        have hm64 : m < 64 := by omega
        have hbF : Below gF wr w0 := by rw [← HGF.out]; exact hBB.out
        have G0 : Gr iv 3 w0 (gF + 1) none 0 (linksM m 0) := Gr.nil _ _
        clear hmb hm hc0'
        go_wp2_with fail
        go_loopw [9] (fun kv wz => ∃ (k : Nat) (AK : Option Addr) (cK : Nat), k ≤ L ∧ kv = .int .i64 k ∧ Bk2 wz gF (.slice AK (linksM m k).length cK) (.int .i64 lm) ∧ Gr iv 3 wz (gF + 1) AK cK (linksM m k) ∧ Below gF wr w0 ∧ Below gF w0 wz ∧ gF + 1 ≤ wz.heap.size) (fun kv _ => L - (intOf kv).toNat)
        case atStart => exact ⟨0, none, 0, by omega, rfl, bk, G0, hbF, Below.refl _ _, by omega⟩
        case round =>
          obtain ⟨k, AK, cK, hk, rfl, bk, hK, hb1, hb2, hsz⟩ := hrel
          have HK := Lib.hid hK
          have hkl := linksM_len m k
          have b0 := bk.c0
          have f0 := bk.f0
          by_cases hkL : k < L
          · have hmb := mask_bit m k hm64
            have hks := linksM_succ m k
            by_cases hbit : m / 2 ^ k % 2 = 1
            · have hb' : (bits .and .i64 ((m : Int) / 2 ^ k) 1 == 1) = true := by rw [hmb, hbit]; rfl
              rw [if_pos hbit] at hks
              have HKS := Lib.hid hks
              have bl := (Below.refl wr.heap.size wr).alloc (Nat.le_refl _) (.cells #[.int .i64 (k : Int)] 3)
              have zl := size_alloc wr (.cells #[.int .i64 (k : Int)] 3)
              have hgl := HK.out.below bl
              have hrow := int_one wr (k : Int) 3
              have bkl := bk.below bl
              have hoff : ∀ a, AK = some a → gF + 1 ≤ a.block := fun a e => (HK.out.form.2.2 a e).1
              have HOF : Hid (some gF ≠ AK.map (·.block)) := Lib.hid (by
                cases AK with
                | none => simp
                | some a => have := hoff a rfl; simp; omega)
              clear hmb hks hbit
              go_upto_region 9 with (at_builtin; refine wpList_append_rd _ (mk := iv) (fun _ => rfl) rfl _ _ 22 rfl 3 i1 (iv 0) 8 Try.underlying22 hi hi0 hi1 hi2 rfl (B := gF + 1) rfl rfl hgl (some ⟨wr.heap.size, 0, none⟩) 1 1 [(k : Int)] rfl rfl hrow (by simp only [maxLen]; omega) (by omega) (by omega) ?_; intro AK2 cK2 wq hgq hgrq hbq hatq; have bkq := bkl.grown hgrq HOF.out; have q0 := bkq.c0; have qf := bkq.f0)
              have HN : Hid (Bk2 (wq.setCell ⟨gF, 0, none⟩ (.slice AK2 ((linksM m k).length + 1) cK2)) gF (.slice AK2 (linksM m (k + 1)).length cK2) (.int .i64 lm) ∧ Gr iv 3 (wq.setCell ⟨gF, 0, none⟩ (.slice AK2 ((linksM m k).length + 1) cK2)) (gF + 1) AK2 cK2 (linksM m (k + 1)) ∧ Below gF w0 (wq.setCell ⟨gF, 0, none⟩ (.slice AK2 ((linksM m k).length + 1) cK2)) ∧ gF + 1 ≤ (wq.setCell ⟨gF, 0, none⟩ (.slice AK2 ((linksM m k).length + 1) cK2)).heap.size) := Lib.hid (by
                rw [HKS.out, List.length_append]
                refine ⟨bkq.put0 _, hgq.far (fun a e => by have := (hgq.form.2.2 a e).1; show a.block ≠ gF; omega) _, ?_, ?_⟩
                · exact ((below_on hb2 bl (by omega)).trans (hbq.mono (by omega))).setCell (p := ⟨gF, 0, none⟩) (Nat.le_refl _) _
                · have := hbq.size
                  simp only [World.setCell] at *
                  simp; omega)
              clear hgl hrow bkl bl zl hgq hgrq hbq hatq bkq q0 qf bk b0 f0 HK
              go_wp2_with fail
              go_roundw
              case rel => exact ⟨k + 1, AK2, cK2, by omega, by go_num, HN.out.1, HN.out.2.1, hb1, HN.out.2.2.1, HN.out.2.2.2⟩
              case measure => simp [intOf]; omega
            · have hb' : (bits .and .i64 ((m : Int) / 2 ^ k) 1 == 1) = false := by
                rw [hmb]; exact beq_eq_false_iff_ne.2 (by omega)
              rw [if_neg hbit, List.append_nil] at hks
              have HKS := Lib.hid hks
              clear hmb hks hbit
              go_wp2_with fail
              go_roundw
              case rel => exact ⟨k + 1, AK, cK, by omega, by go_num, by rw [HKS.out]; exact bk, by rw [HKS.out]; exact HK.out, hb1, hb2, hsz⟩
              case measure => simp [intOf]; omega
          · obtain rfl : k = L := by omega
            obtain ⟨x, hx⟩ : ∃ x : Fm, x = ⟨AK, cK, linksM m k, lm⟩ := ⟨_, rfl⟩
            have hbr : Below gF _ wr := hb1.trans hb2
            rw [← HGF.out] at hbr
            have bl := (Below.refl wr.heap.size wr).alloc (Nat.le_refl _) (.cells #[.slice AK (linksM m k).length cK, .int .i64 lm] 48)
            have zl := size_alloc wr (.cells #[.slice AK (linksM m k).length cK, .int .i64 lm] 48)
            have hrow := rdw_one wr ⟨AK, cK, linksM m k, lm⟩
            have hf2 := (HF.out.below hbr).below bl
            have bw2 := below_on (below_on bw hbr bw.size) bl (Nat.le_trans bw.size hbr.size)
            have k0 := bk.c0
            have k1 := bk.c1
            have hA' : ∀ a, A' = some a → a.block < gF := fun a e => by rw [← HGF.out]; exact (HF.out.form.2.2 a e).2
            have hAK : ∀ a, AK = some a → gF + 1 ≤ a.block ∧ a.block < wr.heap.size := fun a e => HK.out.form.2.2 a e
            clear b0 f0
            go_wp2_with (at_builtin; refine wpList_append_w2 _ rfl _ _ rfl rfl (B := w.heap.size) (xs := fs) rfl rfl hf2 ⟨wr.heap.size, 0, none⟩ _ ⟨AK, cK, linksM m k, lm⟩ rfl hrow (by omega) bw2.size ?_; intro A2 c2 wz hfz hbz hgz hatz)
            go_roundw
            case rel =>
              refine ⟨j + 1, i2 + 2, A2, c2, fs ++ [⟨AK, cK, linksM m k, lm⟩], ?_, by have := HI2.out; omega, by go_num, by simp, by simp [HFL.out], ?_, hfz, ?_, ?_, ?_, bw2.trans hbz⟩
              · have := HI2.out; unfold cntF; omega
              · rw [List.map_append, HFM.out, List.range_succ, List.map_append]
                simp only [List.map_cons, List.map_nil]
                rw [HFM1.out]
              · intro y hy
                rcases List.mem_append.1 hy with hy | hy
                · have ho := ((HO.out y hy).below hbr).below bl
                  exact ⟨ho.is.grown hgz (fun _ => (HAP.out y hy).row), ho.wf⟩
                · rw [List.mem_singleton] at hy
                  subst hy
                  refine ⟨((HK.out.below bl).is (fun v hv => by have := linksM_mem hv; omega)).grown hgz (fun _ a e => ?_), by have := HLB.out; show (-9223372036854775808 : Int) ≤ lm ∧ lm ≤ _; omega⟩
                  cases hA2 : A' with
                  | none => simp
                  | some b =>
                    have h1 := hA' b hA2
                    have h2 := (hAK a e).1
                    simp; omega
              · intro y hy
                rcases List.mem_append.1 hy with hy | hy
                · exact ((HAP.out y hy).symm.app (fun b e => by have := HBLT.out y hy b e; have := hbr.size; rw [zl]; omega) hatz).symm
                · rw [List.mem_singleton] at hy
                  subst hy
                  have hp : apart2 A' AK := fun a b e1 e2 => by
                    have h1 := hA' a e1
                    have h2 := (hAK b e2).1
                    omega
                  exact (hp.app (fun b e => by have := (hAK b e).2; rw [zl]; omega) hatz).symm
              · intro y hy b e
                have hsz := hgz.size
                rcases List.mem_append.1 hy with hy | hy
                · have := HBLT.out y hy b e; have := hbr.size; rw [zl] at hsz; omega
                · rw [List.mem_singleton] at hy
                  subst hy
                  have := (hAK b e).2; rw [zl] at hsz; omega
            case measure => simp [intOf]; omega
      · have t2 : decide ((i2 : Int) < 14) = false := decide_eq_false (by omega)
        have HE : Hid (j = cntF xs) := Lib.hid (by unfold cntF; omega)
        clear hi2'
        go_wp2_with fail
        go_ret
        exact ⟨A', c', fs, rfl, by rw [HFM.out, HE.out]; rfl, HF.out.ws HO.out, bw⟩
    · have HE : Hid (j = cntF xs) := Lib.hid (by unfold cntF at *; omega)
      have hib : i2 ≤ 14 := by omega
      have t1 : decide ((i2 : Int) + 1 < (xs.length : Int)) = false := decide_eq_false (by omega)
      clear hi2'
      go_wp2_with fail
      go_ret
      exact ⟨A', c', fs, rfl, by rw [HFM.out, HE.out]; rfl, HF.out.ws HO.out, bw⟩
end Go.Proofs.Ythdfflbhogfejaa
namespace Go.Proofs.Ythdfflbhogfejaa
set_option maxRecDepth 100000
open Go.RowKit

theorem linksM_ok (m n : Nat) : LinksOk n (linksM m n) := by
  have hp : (linksM m n).Pairwise (· < ·) := by
    unfold linksM
    rw [List.pairwise_map]
    exact ((List.pairwise_lt_range).filter _).imp (fun h => by omega)
  rw [List.pairwise_iff_getElem] at hp
  intro i hi
  have := linksM_mem (List.getElem_mem hi)
  exact ⟨this.1, this.2, fun h0 => hp (i - 1) i (by omega) hi (by omega)⟩
theorem flowsM_len (xs : List Int) (n : Nat) : (flowsM xs n).length ≤ 7 := by simp [flowsM, cntF]; omega
theorem flowsM_valid (cs xs : List Int) : validFl (capsM cs) (flowsM xs (capsM cs).length) := by
  have hc := capsM_len cs
  have hl := flowsM_len xs (capsM cs).length
  refine ⟨by omega, by omega, fun c hc => by have := capsM_bd cs c hc; omega, fun f hf => ?_⟩
  obtain ⟨j, _, rfl⟩ := List.mem_map.1 hf
  have h1 := withinM_bd (xs.getD (2 * j + 1) 0) (show (1 : Int) ≤ 24 by omega)
  refine ⟨h1.1, ?_, linksM_ok _ _⟩
  show (flowM xs (capsM cs).length j).2 ≤ 4096
  simp only [flowM]; omega
end Go.Proofs.Ythdfflbhogfejaa
namespace Go.Proofs.Ythdfflbhogfejaa
set_option maxRecDepth 100000
open Go.RowKit

theorem tl_yes {xs : List Nat} {k : Nat} (hk : k < xs.length) (h : xs[k] = 0) : tl xs (k + 1) = tl xs k := by
  simp [tl, List.getD_eq_getElem?_getD, hk, h]
theorem tl_no {xs : List Nat} {k : Nat} (hk : k < xs.length) (h : xs[k] ≠ 0) : tl xs (k + 1) = k + 1 := by
  simp [tl, List.getD_eq_getElem?_getD, hk, h]

theorem length_any (w : World) (A : Option Addr) (c n : Nat) (xs : List Nat) (h : Nt w A c xs) (hn : n = xs.length) :
    Calls Try.prog 89 #[.slice A n c] w fun e w' => e = .returned (.int .i64 (lim (nv xs)).length) ∧ w = w' := by
  subst hn
  have h1 := h.cap
  have h2 := h.max
  have HT := Lib.hid (tl_length h.u)
  go_enter Try.func89, Try.ntmps89
  go_wp2
  go_loop [3] (fun i => ∃ k : Nat, k ≤ xs.length ∧ i = .int .i64 k ∧ tl xs k = tl xs xs.length) (fun i => (intOf i).toNat)
  case atStart => exact ⟨xs.length, Nat.le_refl _, rfl, rfl⟩
  case round =>
    obtain ⟨k, hk, rfl, ht⟩ := hrel
    have HT2 := Lib.hid ht; clear ht
    rcases k with _ | k
    · go_wp2
      go_ret
      exact ⟨by rw [← HT.out, ← HT2.out]; rfl, rfl⟩
    · obtain ⟨ad, rfl, hb, hc, hlt⟩ := h.at k (by omega)
      clear h
      by_cases hz : xs[k] = 0
      · have hz' : ((xs[k] : Int) == 0) = true := by simp [hz]
        have HZ := Lib.hid hz; clear hz
        go_wp2
        go_round
        case rel => exact ⟨k, by omega, by go_num, by rw [← HT2.out, tl_yes (by omega) HZ.out]⟩
        case measure => simp [intOf]
      · have hz' : ((xs[k] : Int) == 0) = false := by simp; omega
        go_wp2
        go_ret
        exact ⟨by rw [← HT.out, ← HT2.out, tl_no (by omega) hz]; go_num, rfl⟩

theorem large_any (w : World) (A : Option Addr) (c n : Nat) (xs : List Nat) (b : Bool) (h : Nt w A c xs) (hn : n = xs.length) (hb : decide (512 < (lim (nv xs)).length) = b) :
    Calls Try.prog 101 #[.slice A n c] w fun e w' => e = .returned (.bool b) ∧ w = w' := by
  have HB := Lib.hid hb; clear hb
  subst hn
  go_enter Try.func101, Try.ntmps101
  go_wp2_with fail
  refine (length_any w A c _ xs h rfl).mono ?_
  rintro e w' ⟨rfl, rfl⟩
  go_wp2_with fail
  go_ret
  exact ⟨ret_bool (by rw [← HB.out]; apply decide_eq_decide.2; omega), rfl⟩

theorem cmp3_lt {m n : Nat} (h : m < n) : cmp3 m n = -1 := by simp [cmp3, h]
theorem cmp3_gt {m n : Nat} (h : n < m) : cmp3 m n = 1 := by
  have : ¬ m < n := by omega
  simp [cmp3, h, this]
theorem cmp3_eq {m n : Nat} (h : m = n) : cmp3 m n = 0 := by subst h; simp [cmp3]
theorem lt_of_lim_lt {m n : Nat} (h : (lim m).length < (lim n).length) : m < n := by
  rcases Nat.lt_or_ge m n with h1 | h1
  · exact h1
  · have := lim_length_mono h1; omega

/-- the comparison from above: the limbs from k on are alike -/
def Tops (xs ys : List Nat) (k : Nat) : Prop := ∀ j (h1 : j < xs.length) (h2 : j < ys.length), k ≤ j → xs[j] = ys[j]
theorem Tops.start (xs ys : List Nat) : Tops xs ys xs.length := fun j h1 _ h => absurd h (by omega)
theorem Tops.step {xs ys : List Nat} {k : Nat} (h : Tops xs ys (k + 1)) (hk : k < xs.length) (hk2 : k < ys.length) (e : xs[k] = ys[k]) : Tops xs ys k := fun j h1 h2 h3 => by
  rcases Nat.lt_or_ge k j with h4 | h4
  · exact h j h1 h2 h4
  · have : j = k := by omega
    subst this
    exact e
theorem Tops.lt {m n k : Nat} (h : Tops (lim m) (lim n) (k + 1)) (hl : (lim m).length = (lim n).length) (h1 : k < (lim m).length) (h2 : k < (lim n).length) (hlt : (lim m)[k] < (lim n)[k]) : m < n := by
  have := nv_lt_at (lim_u32 m) hl k h1 hlt (fun j hj hkj => h j hj (by omega) hkj)
  rwa [nv_lim, nv_lim] at this
theorem Tops.symm {xs ys : List Nat} {k : Nat} (h : Tops xs ys k) : Tops ys xs k := fun j h1 h2 h3 => (h j h2 h1 h3).symm
theorem Tops.eq {m n : Nat} (h : Tops (lim m) (lim n) 0) (hl : (lim m).length = (lim n).length) : m = n := by
  have : lim m = lim n := List.ext_getElem hl fun j h1 h2 => h j h1 h2 (by omega)
  rw [← nv_lim m, ← nv_lim n, this]

theorem cmp_any (w : World) (A D : Option Addr) (c d n m : Nat) (xs ys : List Nat) (z : Int) (h : Nt w A c xs) (k : Nt w D d ys) (hn : n = xs.length) (hm : m = ys.length) (hz : cmp3 (nv xs) (nv ys) = z) :
    Calls Try.prog 85 #[.slice A n c, .slice D m d] w fun e w' => e = .returned (.int .i64 z) ∧ Qt w w' := by
  have HZ := Lib.hid hz; clear hz
  subst hn hm
  have hx := h.lim
  have hy := k.lim
  have hxl := hx.len
  have hyl := hy.len
  have hx1 := lim_length_le_length h.u
  have hy1 := lim_length_le_length k.u
  have hc := h.cap
  have hd := k.cap
  have hc2 := h.max
  have hd2 := k.max
  go_enter Try.func85, Try.ntmps85
  go_wp2_with fail
  refine (length_any w A c _ xs h rfl).mono ?_
  rintro e w' ⟨rfl, rfl⟩
  go_wp2_with fail
  refine (length_any w D d _ ys k rfl).mono ?_
  rintro e w' ⟨rfl, rfl⟩
  clear h k
  rcases Nat.lt_trichotomy (lim (nv xs)).length (lim (nv ys)).length with hl | hl | hl
  · go_wp2_with fail
    go_ret
    exact ⟨ret_int (by rw [← HZ.out, cmp3_lt (lt_of_lim_lt hl)]), Qt.refl _⟩
  · have HL := Lib.hid hl
    have hl1 : decide ((lim (nv xs)).length < (lim (nv ys)).length) = false := by simp; omega
    have hl2 : decide ((lim (nv ys)).length < (lim (nv xs)).length) = false := by simp; omega
    clear hl
    go_wp2_with fail
    go_loopw [7] (fun i wr => ∃ k : Nat, k ≤ (lim (nv xs)).length ∧ i = .int .i64 ((k : Int) - 1) ∧ Tops (lim (nv xs)) (lim (nv ys)) k ∧ Qt w wr) (fun i _ => (intOf i + 1).toNat)
    case atStart => exact ⟨(lim (nv xs)).length, Nat.le_refl _, by go_num, Tops.start _ _, Qt.refl _⟩
    case round =>
      obtain ⟨k, hk, rfl, ht, q⟩ := hrel
      have HT := Lib.hid ht; clear ht
      rcases k with _ | k
      · go_wp2_with fail
        go_ret
        exact ⟨ret_int (by rw [← HZ.out, cmp3_eq (HT.out.eq HL.out)]), q⟩
      · have hk2 : k < (lim (nv ys)).length := by have := HL.out; omega
        obtain ⟨ad, rfl, hb, hcx, hlt⟩ := (hx.below (q.below _)).at k (by omega)
        obtain ⟨ad2, rfl, hb2, hcy, hlt2⟩ := (hy.below (q.below _)).at k hk2
        have hk1 : k < (lim (nv xs)).length := by omega
        clear hx hy
        rcases Nat.lt_trichotomy (lim (nv xs))[k] (lim (nv ys))[k] with he | he | he
        · have he1 : ((lim (nv xs))[k] : Int) < (lim (nv ys))[k] := by omega
          go_wp2_with fail
          go_quiet (fail)
          go_wp2_with fail
          go_ret
          exact ⟨ret_int (by rw [← HZ.out, cmp3_lt (HT.out.lt HL.out hk1 hk2 he)]), by first | exact q.drewN _ | exact (q.drewN _).drewN _⟩
        · have HE := Lib.hid he
          have he1 : ¬ ((lim (nv xs))[k] : Int) < (lim (nv ys))[k] := by omega
          have he2 : ¬ ((lim (nv ys))[k] : Int) < (lim (nv xs))[k] := by omega
          clear he
          go_wp2_with fail
          go_quiet (fail)
          go_wp2_with fail
          go_quiet (fail)
          go_wp2_with fail
          go_roundw
          case rel => exact ⟨k, by omega, by go_num, HT.out.step hk1 hk2 HE.out, by first | exact q.drewN _ | exact (q.drewN _).drewN _⟩
          case measure => simp [intOf]
        · have he1 : ¬ ((lim (nv xs))[k] : Int) < (lim (nv ys))[k] := by omega
          have he2 : ((lim (nv ys))[k] : Int) < (lim (nv xs))[k] := by omega
          go_wp2_with fail
          go_quiet (fail)
          go_wp2_with fail
          go_quiet (fail)
          go_wp2_with fail
          go_ret
          exact ⟨ret_int (by rw [← HZ.out, cmp3_gt (HT.out.symm.lt HL.out.symm hk2 hk1 he)]), by first | exact q.drewN _ | exact (q.drewN _).drewN _⟩
  · go_wp2_with fail
    go_ret
    exact ⟨ret_int (by rw [← HZ.out, cmp3_gt (lt_of_lim_lt hl)]), Qt.refl _⟩
end Go.Proofs.Ythdfflbhogfejaa
