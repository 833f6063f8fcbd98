/- Appending fractions onto a row of the call's own. -/
import Derived.Test.YtlcolmifmhdboaaFrS
import Derived.Maps.AppendAt
namespace Go.Proofs.Ytlcolmifmhdboaa
open Go.RowKit

def fcells : List Fx → List Value
  | [] => []
  | v :: vs => .bool v.b :: .slice v.A v.xs.length v.c :: .slice v.D v.ys.length v.d :: fcells vs
set_option maxRecDepth 100000 in
theorem fcells_len (vs : List Fx) : (fcells vs).length = vs.length * 3 := by
  induction vs with
  | nil => rfl
  | cons v vs ih => rw [fcells]; simp only [List.length_cons, ih]; omega
set_option maxRecDepth 100000 in
theorem fcells_append (a b : List Fx) : fcells (a ++ b) = fcells a ++ fcells b := by
  induction a with
  | nil => rfl
  | cons v a ih => rw [List.cons_append, fcells, fcells, ih]; rfl
set_option maxRecDepth 100000 in
theorem fcells_get (vs : List Fx) : ∀ k (hk : k < vs.length), (fcells vs)[k * 3]? = some (.bool vs[k].b) ∧ (fcells vs)[k * 3 + 1]? = some (.slice vs[k].A vs[k].xs.length vs[k].c) ∧ (fcells vs)[k * 3 + 2]? = some (.slice vs[k].D vs[k].ys.length vs[k].d) := by
  induction vs with
  | nil => intro k hk; simp at hk
  | cons v vs ih =>
    intro k hk
    cases k with
    | zero => exact ⟨rfl, rfl, rfl⟩
    | succ k =>
      have h := ih k (by simpa using hk)
      have e : (k + 1) * 3 = k * 3 + 1 + 1 + 1 := by omega
      rw [fcells, e]
      simp only [List.getElem?_cons_succ, List.getElem_cons_succ]
      exact h
set_option maxRecDepth 100000 in
/-- where a cell of such a row lies -/
theorem fcells_at (vs : List Fx) (j : Nat) (u : Value) (h : (fcells vs)[j]? = some u) : ∃ k, ∃ hk : k < vs.length, (j = k * 3 ∧ u = .bool vs[k].b) ∨ (j = k * 3 + 1 ∧ u = .slice vs[k].A vs[k].xs.length vs[k].c) ∨ (j = k * 3 + 2 ∧ u = .slice vs[k].D vs[k].ys.length vs[k].d) := by
  have hj : j < vs.length * 3 := by
    rcases Nat.lt_or_ge j (vs.length * 3) with h1 | h1
    · exact h1
    · rw [List.getElem?_eq_none (by rw [fcells_len]; exact h1)] at h; cases h
  have hk : j / 3 < vs.length := by omega
  obtain ⟨h0, h1, h2⟩ := fcells_get vs (j / 3) hk
  refine ⟨j / 3, hk, ?_⟩
  have hm : j % 3 = 0 ∨ j % 3 = 1 ∨ j % 3 = 2 := by omega
  rcases hm with e | e | e
  · left
    have ej : j = j / 3 * 3 := by omega
    rw [ej] at h
    exact ⟨ej, Option.some.inj (h.symm.trans h0)⟩
  · right; left
    have ej : j = j / 3 * 3 + 1 := by omega
    rw [ej] at h
    exact ⟨ej, Option.some.inj (h.symm.trans h1)⟩
  · right; right
    have ej : j = j / 3 * 3 + 2 := by omega
    rw [ej] at h
    exact ⟨ej, Option.some.inj (h.symm.trans h2)⟩
set_option maxRecDepth 100000 in
theorem fcells_one (vs : List Fx) : ∀ u ∈ fcells vs, u.oneCell' = true := by
  induction vs with
  | nil => intro u hu; cases hu
  | cons v vs ih =>
    intro u hu
    rw [fcells] at hu
    simp only [List.mem_cons] at hu
    rcases hu with rfl | rfl | rfl | hu
    · rfl
    · rfl
    · rfl
    · exact ih u hu
/-- a row of fractions of the call's own -/
def Fr (w : World) (B : Nat) (A : Option Addr) (c : Nat) (vs : List Fx) : Prop := World.ownsRow w B 25 3 (.slice A vs.length c) vs.length (fcells vs)
set_option maxRecDepth 100000 in
theorem add_mk (g j : Nat) : (⟨g, 0, none⟩ : Addr).add j = ⟨g, j, none⟩ := by
  unfold Addr.add
  split
  · rename_i h; rw [h]
  · simp
set_option maxRecDepth 100000 in
theorem Fr.rd {w : World} {B : Nat} {A : Option Addr} {c : Nat} {vs : List Fx} (h : Fr w B A c vs) : RdF w A vs := fun hn => by
  have h' := h
  rcases h.2 with ⟨_, h0⟩ | ⟨g, cap, cur, hv, _, hg, _⟩
  · omega
  · simp only [Value.slice.injEq] at hv
    obtain ⟨rfl, _, rfl⟩ := hv
    refine ⟨_, rfl, ?_, fun k hk => ?_⟩
    · exact (Array.getElem?_eq_some_iff.1 hg).1
    · obtain ⟨h0, h1, h2⟩ := fcells_get vs k hk
      have hc := fun j hj => World.ownsRow.cellAt h' j hj
      rw [add_mk]
      exact ⟨(hc (k * 3) (by omega)).trans h0, (hc (k * 3 + 1) (by omega)).trans h1, (hc (k * 3 + 2) (by omega)).trans h2⟩
set_option maxRecDepth 100000 in
theorem Fr.below {w w' : World} {B : Nat} {A : Option Addr} {c : Nat} {vs : List Fx} (h : Fr w B A c vs) (hb : Below w.heap.size w w') : Fr w' B A c vs :=
  World.ownsRow.kept h (w' := w') (row := none) ⟨hb.os, hb.tape, hb.output, hb.size, fun k hk _ => hb.block k hk⟩ (by
    cases A with
    | none => exact .inl rfl
    | some ad => exact .inr (by simp [Value.ownBlock]))
set_option maxRecDepth 100000 in
theorem fr_lit (w : World) (B : Nat) (hB : B ≤ w.heap.size) : Fr (w.alloc (.cells #[] 25)) B (some ⟨w.heap.size, 0, none⟩) 0 [] :=
  World.ownsRow_lit (e := 25) (size := 3) (base := B) w #[] 0 hB (by simp [maxLen]) rfl
set_option maxRecDepth 100000 in
theorem frac_info : ∃ i z, Try.prog.info? 25 = some i ∧ i.zero = some z ∧ i.size = 3 ∧ z.cells.size = 3 ∧ i.bytes ≤ 1000 := by
  have h : (Try.prog.info? 25).any (fun i => i.zero.any (fun z => decide (z.cells.size = 3)) && decide (i.size = 3) && decide (i.bytes ≤ 1000)) = true := by kernel_rfl
  cases hi : Try.prog.info? 25 with
  | none => rw [hi] at h; cases h
  | some i =>
    rw [hi] at h
    cases hz : i.zero with
    | none => simp [hz] at h
    | some z =>
      simp [hz] at h
      exact ⟨i, z, rfl, hz, h.1.2, h.1.1, h.2⟩
set_option maxRecDepth 100000 in
theorem run_append_frac (w : World) {B c : Nat} {A : Option Addr} {xs : List Fx} (hown : Fr w B A c xs) (A2 : Option Addr) (c2 : Nat) (ys : List Fx) (hr : RdF w A2 ys) (hmax : xs.length + ys.length ≤ 1000) (hbase : B ≤ w.heap.size) :
    ∃ A' c' w', (Builtin.append_ #[62, 62] 62 #[.slice A xs.length c, .slice A2 ys.length c2]).run Try.prog w = .ok (.slice A' (xs.length + ys.length) c') w' ∧ Fr w' B A' c' (xs ++ ys) ∧ Below B w w' ∧ w.grownBy w' (A.map (·.block)) ∧ (A'.map (·.block) = A.map (·.block) ∨ A'.map (·.block) = some w.heap.size) := by
  obtain ⟨i, z, hi, hz, hsize, hzs, hby⟩ := frac_info
  have hAb : ∀ k, A.map (·.block) = some k → B ≤ k := by
    intro k hk
    rcases hown.2 with ⟨hv, _⟩ | ⟨g, cap, cur, hv, hb, _⟩
    · simp only [Value.slice.injEq] at hv
      obtain ⟨rfl, _, _⟩ := hv
      cases hk
    · simp only [Value.slice.injEq] at hv
      obtain ⟨rfl, _, rfl⟩ := hv
      simp at hk; omega
  have hob : (Value.slice A xs.length c).ownBlock = A.map (·.block) := by cases A <;> rfl
  cases A2 with
  | none =>
    have hy : ys = [] := by
      rcases Nat.eq_zero_or_pos ys.length with h0 | h0
      · exact List.eq_nil_of_length_eq_zero h0
      · obtain ⟨ad, h, _⟩ := hr h0; cases h
    subst hy
    refine ⟨A, c, w, ?_, by rw [List.append_nil]; exact hown, Below.refl _ _, World.grownBy.refl _ _, .inl rfl⟩
    rcases hown.2 with ⟨h', hn⟩ | ⟨g, cap, cur, h', _, _, hnc, _⟩
    · simp only [Value.slice.injEq] at h'
      obtain ⟨rfl, _, rfl⟩ := h'
      simp [Builtin.append_, run_underlying Try.underlying62, sizeOf, typeInfo, hi, Builtin.lenOf, Builtin.firstCells, hn]
    · simp only [Value.slice.injEq] at h'
      obtain ⟨rfl, _, rfl⟩ := h'
      simp [Builtin.append_, run_underlying Try.underlying62, sizeOf, typeInfo, hi, Builtin.lenOf, Builtin.firstCells, hnc, storeCells]
  | some ad =>
    have hnews : ∀ j u, (fcells ys)[j]? = some u → w.cell? (ad.add j) = some u := by
      intro j u hu
      obtain ⟨k, hk, hcase⟩ := fcells_at ys j u hu
      obtain ⟨ad', e', _, hc⟩ := hr (by omega)
      injection e' with e'
      subst e'
      obtain ⟨h0, h1, h2⟩ := hc k hk
      have hoff : (ad.add (k * 3)).off = ad.off + k * 3 := by
        unfold Addr.add
        split
        · rename_i h0; rw [h0]; rfl
        · rfl
      rcases hcase with ⟨rfl, rfl⟩ | ⟨rfl, rfl⟩ | ⟨rfl, rfl⟩
      · exact h0
      · rw [show ad.add (k * 3 + 1) = ⟨(ad.add (k * 3)).block, (ad.add (k * 3)).off + 1, none⟩ from by rw [block_of_add, hoff]; exact if_neg (by omega)]
        exact h1
      · rw [show ad.add (k * 3 + 2) = ⟨(ad.add (k * 3)).block, (ad.add (k * 3)).off + 2, none⟩ from by rw [block_of_add, hoff]; exact if_neg (by omega)]
        exact h2
    obtain ⟨v', w', hrun, hown', hg, _, hat⟩ := run_append_own_at (P := Try.prog) w B 62 62 25 i z 3 i.bytes Try.underlying62 hi hz hsize rfl hzs (by omega) (.slice A xs.length c) xs.length (fcells xs) hown ad ys.length c2 (fcells ys) (fcells_len ys) hnews
      (fcells_one ys) (by simp only [maxLen]; omega) (by have := Nat.mul_le_mul hmax hby; omega) hbase
    have hform : ∃ A' c', v' = .slice A' (xs.length + ys.length) c' := by
      rcases hown'.2 with ⟨rfl, hn⟩ | ⟨g, cap, cur, rfl, _⟩
      · exact ⟨none, 0, by rw [hn]⟩
      · exact ⟨_, _, rfl⟩
    obtain ⟨A', c', rfl⟩ := hform
    have hob' : (Value.slice A' (xs.length + ys.length) c').ownBlock = A'.map (·.block) := by cases A' <;> rfl
    rw [hob, hob'] at hat
    rw [hob] at hg
    refine ⟨A', c', w', hrun, ?_, (Below.refl _ _).grown hg hbase hAb, hg, hat⟩
    unfold Fr
    rw [List.length_append, fcells_append]
    exact hown'
set_option maxRecDepth 100000 in
/-- append at a step of a region that draws its order -/
theorem step_append_frac (w : World) {ops : Array Oper} {o : Oper} {a : Act} {K : Act → World → Prop} {Q : Exit → Act → World → Prop} {X : Prop} (hgd : o.guard = none) (s x : Operand)
    (ho : o.op = .call { callee := .builtin .append, args := #[s, x], argTypes := #[62, 62] }) (hty : o.type = 62)
    {B c n : Nat} {A : Option Addr} {xs : List Fx} (hs : a.eval s = .slice A n c) (hn : n = xs.length) (hown : Fr w B A c xs)
    (A2 : Option Addr) (m c2 : Nat) (ys : List Fx) (hx : a.eval x = .slice A2 m c2) (hm : m = ys.length) (hr : RdF w A2 ys) (hmax : n + m ≤ 1000) (hbase : B ≤ w.heap.size)
    (h : ∀ A' c' w', Fr w' B A' c' (xs ++ ys) → Below B w w' → w.grownBy w' (A.map (·.block)) → (A'.map (·.block) = A.map (·.block) ∨ A'.map (·.block) = some w.heap.size) → K (a.put o.dst (.slice A' (n + m) c')) w') :
    if Region.wanted o (yielded ops a.tmps) = true then Oper.wp Try.prog o a w K Q else X := by
  have hw : Region.wanted o (yielded ops a.tmps) = true := by simp [Region.wanted, hgd]
  rw [if_pos hw]
  subst hn hm
  obtain ⟨A', c', w', hrun, h1, h3, h4, h5⟩ := run_append_frac w hown A2 c2 ys hr hmax hbase
  unfold Oper.wp execOp
  simp only [ho, hty, resolve, invoke, builtin, Sem.run_bind, Sem.run_pure, Result.andThen_ok, List.map_toArray, List.map_cons, List.map_nil, hs, hx, hrun]
  exact h A' c' w' h1 h3 h4 h5
set_option maxRecDepth 100000 in
theorem Bk3.grown {w w' : World} {G : Nat} {v0 v1 v2 : Value} {row : Option Nat} (h : Bk3 w G v0 v1 v2) (hg : w.grownBy w' row) (hne : some G ≠ row) : Bk3 w' G v0 v1 v2 := by
  have hb : w'.heap[G]? = w.heap[G]? := hg.block G h.lt hne
  refine ⟨hg.cell h.c0 hne, hg.cell h.c1 hne, hg.cell h.c2 hne, ?_, ?_, ?_, Nat.lt_of_lt_of_le h.lt hg.size, by rw [hb]; exact h.blk⟩
  · rw [← h.f0]; unfold World.frozen?; rw [hb]
  · rw [← h.f1]; unfold World.frozen?; rw [hb]
  · rw [← h.f2]; unfold World.frozen?; rw [hb]
set_option maxRecDepth 100000 in
theorem Fr.lt {w : World} {B : Nat} {A : Option Addr} {c : Nat} {vs : List Fx} (h : Fr w B A c vs) : ∀ k, A.map (·.block) = some k → B ≤ k ∧ k < w.heap.size := by
  intro k hk
  rcases h.2 with ⟨hv, _⟩ | ⟨g, cap, cur, hv, hb, hg, _⟩
  · simp only [Value.slice.injEq] at hv
    obtain ⟨rfl, _, _⟩ := hv
    cases hk
  · simp only [Value.slice.injEq] at hv
    obtain ⟨rfl, _, rfl⟩ := hv
    simp at hk
    subst hk
    exact ⟨hb, (Array.getElem?_eq_some_iff.1 hg).1⟩
set_option maxRecDepth 100000 in
theorem add_add3 (ad : Addr) (k i : Nat) : (ad.add (k * 3)).add (i * 3) = ad.add ((k + i) * 3) ∨ i = 0 := by
  rcases Nat.eq_zero_or_pos i with h | h
  · exact .inr h
  · left
    have ho : (ad.add (k * 3)).off = ad.off + k * 3 := by
      unfold Addr.add
      split
      · rename_i h0; rw [h0]; rfl
      · rfl
    rw [show ad.add ((k + i) * 3) = ⟨ad.block, ad.off + (k + i) * 3, none⟩ from if_neg (by omega),
      show (ad.add (k * 3)).add (i * 3) = ⟨(ad.add (k * 3)).block, (ad.add (k * 3)).off + i * 3, none⟩ from if_neg (by omega), block_of_add, ho, Nat.add_assoc, Nat.add_mul]
set_option maxRecDepth 100000 in
theorem RdF.take {w : World} {A : Option Addr} {vs : List Fx} (h : RdF w A vs) (k : Nat) : RdF w A (vs.take k) := fun hn => by
  obtain ⟨ad, e, hl, hc⟩ := h (by simp at hn; omega)
  refine ⟨ad, e, hl, fun i hi => ?_⟩
  rw [List.getElem_take]
  exact hc i (by simp at hi; omega)
set_option maxRecDepth 100000 in
theorem RdF.drop {w : World} {ad : Addr} {vs : List Fx} (h : RdF w (some ad) vs) (k : Nat) : RdF w (some (ad.add (k * 3))) (vs.drop k) := fun hn => by
  have hk : k < vs.length := by simp at hn; omega
  obtain ⟨ad', e, hl, hc⟩ := h (by omega)
  injection e with e
  subst e
  refine ⟨_, rfl, by rw [block_of_add]; exact hl, fun i hi => ?_⟩
  have hki : k + i < vs.length := by simp at hi; omega
  have h1 := hc (k + i) hki
  rw [List.getElem_drop]
  rcases add_add3 ad k i with e | rfl
  · rw [e]; exact h1
  · rw [show (ad.add (k * 3)).add (0 * 3) = ad.add (k * 3) from by rw [Nat.zero_mul]; exact if_pos rfl]; exact h1
end Go.Proofs.Ytlcolmifmhdboaa
