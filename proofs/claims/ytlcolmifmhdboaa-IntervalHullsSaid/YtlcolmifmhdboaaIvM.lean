/- Appending intervals onto a row of the call's own. -/
import Derived.Test.YtlcolmifmhdboaaIvP
import Derived.Maps.AppendAt
namespace Go.Proofs.Ytlcolmifmhdboaa
open Go.RowKit

set_option maxRecDepth 100000 in
theorem icells_len (vs : List Ix) : (icells vs).length = vs.length * 6 := by
  induction vs with
  | nil => rfl
  | cons v vs ih => rw [icells]; simp only [List.length_cons, ih]; omega
set_option maxRecDepth 100000 in
theorem icells_append (a b : List Ix) : icells (a ++ b) = icells a ++ icells b := by
  induction a with
  | nil => rfl
  | cons v a ih => rw [List.cons_append, icells, icells, ih]; rfl
set_option maxRecDepth 100000 in
/-- where a cell of such a row lies -/
theorem icells_at (vs : List Ix) (j : Nat) (u : Value) (h : (icells vs)[j]? = some u) : ∃ k, ∃ hk : k < vs.length, (j = k * 6 ∧ u = .bool vs[k].lo.b) ∨ (j = k * 6 + 1 ∧ u = .slice vs[k].lo.A vs[k].lo.xs.length vs[k].lo.c) ∨ (j = k * 6 + 2 ∧ u = .slice vs[k].lo.D vs[k].lo.ys.length vs[k].lo.d) ∨ (j = k * 6 + 3 ∧ u = .bool vs[k].hi.b) ∨ (j = k * 6 + 4 ∧ u = .slice vs[k].hi.A vs[k].hi.xs.length vs[k].hi.c) ∨ (j = k * 6 + 5 ∧ u = .slice vs[k].hi.D vs[k].hi.ys.length vs[k].hi.d) := by
  have hj : j < vs.length * 6 := by
    rcases Nat.lt_or_ge j (vs.length * 6) with h1 | h1
    · exact h1
    · rw [List.getElem?_eq_none (by rw [icells_len]; exact h1)] at h; cases h
  have hk : j / 6 < vs.length := by omega
  obtain ⟨h0, h1, h2, h3, h4, h5⟩ := icells_get vs (j / 6) hk
  refine ⟨j / 6, hk, ?_⟩
  have hm : j % 6 = 0 ∨ j % 6 = 1 ∨ j % 6 = 2 ∨ j % 6 = 3 ∨ j % 6 = 4 ∨ j % 6 = 5 := by omega
  rcases hm with e | e | e | e | e | e
  · left
    have ej : j = j / 6 * 6 := by omega
    rw [ej] at h
    exact ⟨ej, Option.some.inj (h.symm.trans h0)⟩
  · right; left
    have ej : j = j / 6 * 6 + 1 := by omega
    rw [ej] at h
    exact ⟨ej, Option.some.inj (h.symm.trans h1)⟩
  · right; right; left
    have ej : j = j / 6 * 6 + 2 := by omega
    rw [ej] at h
    exact ⟨ej, Option.some.inj (h.symm.trans h2)⟩
  · right; right; right; left
    have ej : j = j / 6 * 6 + 3 := by omega
    rw [ej] at h
    exact ⟨ej, Option.some.inj (h.symm.trans h3)⟩
  · right; right; right; right; left
    have ej : j = j / 6 * 6 + 4 := by omega
    rw [ej] at h
    exact ⟨ej, Option.some.inj (h.symm.trans h4)⟩
  · right; right; right; right; right
    have ej : j = j / 6 * 6 + 5 := by omega
    rw [ej] at h
    exact ⟨ej, Option.some.inj (h.symm.trans h5)⟩
set_option maxRecDepth 100000 in
theorem icells_one (vs : List Ix) : ∀ u ∈ icells vs, u.oneCell' = true := by
  induction vs with
  | nil => intro u hu; cases hu
  | cons v vs ih =>
    intro u hu
    rw [icells] at hu
    simp only [List.mem_cons] at hu
    rcases hu with rfl | rfl | rfl | rfl | rfl | rfl | hu
    · rfl
    · rfl
    · rfl
    · rfl
    · rfl
    · rfl
    · exact ih u hu
/-- a row of intervals of the call's own -/
def Ir (w : World) (B : Nat) (A : Option Addr) (c : Nat) (vs : List Ix) : Prop := World.ownsRow w B 41 6 (.slice A vs.length c) vs.length (icells vs)
set_option maxRecDepth 100000 in
theorem Ir.rd {w : World} {B : Nat} {A : Option Addr} {c : Nat} {vs : List Ix} (h : Ir w B A c vs) : RdI w A vs := fun hn => by
  have h' := h
  rcases h.2 with ⟨_, h0⟩ | ⟨g, cap, cur, hv, _, hg, _⟩
  · omega
  · simp only [Value.slice.injEq] at hv
    obtain ⟨rfl, _, rfl⟩ := hv
    refine ⟨_, rfl, ?_, fun k hk => ?_⟩
    · exact (Array.getElem?_eq_some_iff.1 hg).1
    · obtain ⟨h0, h1, h2, h3, h4, h5⟩ := icells_get vs k hk
      have hc := fun j hj => World.ownsRow.cellAt h' j hj
      rw [add_mk]
      exact ⟨(hc (k * 6) (by omega)).trans h0, (hc (k * 6 + 1) (by omega)).trans h1, (hc (k * 6 + 2) (by omega)).trans h2, (hc (k * 6 + 3) (by omega)).trans h3, (hc (k * 6 + 4) (by omega)).trans h4, (hc (k * 6 + 5) (by omega)).trans h5⟩
set_option maxRecDepth 100000 in
theorem Ir.below {w w' : World} {B : Nat} {A : Option Addr} {c : Nat} {vs : List Ix} (h : Ir w B A c vs) (hb : Below w.heap.size w w') : Ir w' B A c vs :=
  World.ownsRow.kept h (w' := w') (row := none) ⟨hb.os, hb.tape, hb.output, hb.size, fun k hk _ => hb.block k hk⟩ (by
    cases A with
    | none => exact .inl rfl
    | some ad => exact .inr (by simp [Value.ownBlock]))
set_option maxRecDepth 100000 in
theorem ir_lit (w : World) (B : Nat) (hB : B ≤ w.heap.size) : Ir (w.alloc (.cells #[] 41)) B (some ⟨w.heap.size, 0, none⟩) 0 [] :=
  World.ownsRow_lit (e := 41) (size := 6) (base := B) w #[] 0 hB (by simp [maxLen]) rfl
set_option maxRecDepth 100000 in
theorem ivl_info : ∃ i z, Try.prog.info? 41 = some i ∧ i.zero = some z ∧ i.size = 6 ∧ z.cells.size = 6 ∧ i.bytes ≤ 1000 := by
  have h : (Try.prog.info? 41).any (fun i => i.zero.any (fun z => decide (z.cells.size = 6)) && decide (i.size = 6) && decide (i.bytes ≤ 1000)) = true := by kernel_rfl
  cases hi : Try.prog.info? 41 with
  | none => rw [hi] at h; cases h
  | some i =>
    rw [hi] at h
    cases hz : i.zero with
    | none => simp [hz] at h
    | some z =>
      simp [hz] at h
      exact ⟨i, z, rfl, hz, h.1.2, h.1.1, h.2⟩
set_option maxRecDepth 100000 in
theorem run_append_ivl (w : World) {B c : Nat} {A : Option Addr} {xs : List Ix} (hown : Ir w B A c xs) (A2 : Option Addr) (c2 : Nat) (ys : List Ix) (hr : RdI w A2 ys) (hmax : xs.length + ys.length ≤ 1000) (hbase : B ≤ w.heap.size) :
    ∃ A' c' w', (Builtin.append_ #[50, 50] 50 #[.slice A xs.length c, .slice A2 ys.length c2]).run Try.prog w = .ok (.slice A' (xs.length + ys.length) c') w' ∧ Ir w' B A' c' (xs ++ ys) ∧ Below B w w' ∧ w.grownBy w' (A.map (·.block)) ∧ (A'.map (·.block) = A.map (·.block) ∨ A'.map (·.block) = some w.heap.size) := by
  obtain ⟨i, z, hi, hz, hsize, hzs, hby⟩ := ivl_info
  have hAb : ∀ k, A.map (·.block) = some k → B ≤ k := by
    intro k hk
    rcases hown.2 with ⟨hv, _⟩ | ⟨g, cap, cur, hv, hb, _⟩
    · simp only [Value.slice.injEq] at hv
      obtain ⟨rfl, _, _⟩ := hv
      cases hk
    · simp only [Value.slice.injEq] at hv
      obtain ⟨rfl, _, rfl⟩ := hv
      simp at hk; omega
  have hob : (Value.slice A xs.length c).ownBlock = A.map (·.block) := by cases A <;> rfl
  cases A2 with
  | none =>
    have hy : ys = [] := by
      rcases Nat.eq_zero_or_pos ys.length with h0 | h0
      · exact List.eq_nil_of_length_eq_zero h0
      · obtain ⟨ad, h, _⟩ := hr h0; cases h
    subst hy
    refine ⟨A, c, w, ?_, by rw [List.append_nil]; exact hown, Below.refl _ _, World.grownBy.refl _ _, .inl rfl⟩
    rcases hown.2 with ⟨h', hn⟩ | ⟨g, cap, cur, h', _, _, hnc, _⟩
    · simp only [Value.slice.injEq] at h'
      obtain ⟨rfl, _, rfl⟩ := h'
      simp [Builtin.append_, run_underlying Try.underlying50, sizeOf, typeInfo, hi, Builtin.lenOf, Builtin.firstCells, hn]
    · simp only [Value.slice.injEq] at h'
      obtain ⟨rfl, _, rfl⟩ := h'
      simp [Builtin.append_, run_underlying Try.underlying50, sizeOf, typeInfo, hi, Builtin.lenOf, Builtin.firstCells, hnc, storeCells]
  | some ad =>
    have hnews : ∀ j u, (icells ys)[j]? = some u → w.cell? (ad.add j) = some u := by
      intro j u hu
      obtain ⟨k, hk, hcase⟩ := icells_at ys j u hu
      obtain ⟨ad', e', _, hc⟩ := hr (by omega)
      injection e' with e'
      subst e'
      obtain ⟨h0, h1, h2, h3, h4, h5⟩ := hc k hk
      have hoff : (ad.add (k * 6)).off = ad.off + k * 6 := by
        unfold Addr.add
        split
        · rename_i h0; rw [h0]; rfl
        · rfl
      have hap : ∀ j, 0 < j → ad.add (k * 6 + j) = ⟨(ad.add (k * 6)).block, (ad.add (k * 6)).off + j, none⟩ := fun j hj => by rw [block_of_add, hoff, Nat.add_assoc]; exact if_neg (by omega)
      rcases hcase with ⟨rfl, rfl⟩ | ⟨rfl, rfl⟩ | ⟨rfl, rfl⟩ | ⟨rfl, rfl⟩ | ⟨rfl, rfl⟩ | ⟨rfl, rfl⟩
      · exact h0
      · rw [hap 1 (by omega)]; exact h1
      · rw [hap 2 (by omega)]; exact h2
      · rw [hap 3 (by omega)]; exact h3
      · rw [hap 4 (by omega)]; exact h4
      · rw [hap 5 (by omega)]; exact h5
    obtain ⟨v', w', hrun, hown', hg, _, hat⟩ := run_append_own_at (P := Try.prog) w B 50 50 41 i z 6 i.bytes Try.underlying50 hi hz hsize rfl hzs (by omega) (.slice A xs.length c) xs.length (icells xs) hown ad ys.length c2 (icells ys) (icells_len ys) hnews
      (icells_one ys) (by simp only [maxLen]; omega) (by have := Nat.mul_le_mul hmax hby; omega) hbase
    have hform : ∃ A' c', v' = .slice A' (xs.length + ys.length) c' := by
      rcases hown'.2 with ⟨rfl, hn⟩ | ⟨g, cap, cur, rfl, _⟩
      · exact ⟨none, 0, by rw [hn]⟩
      · exact ⟨_, _, rfl⟩
    obtain ⟨A', c', rfl⟩ := hform
    have hob' : (Value.slice A' (xs.length + ys.length) c').ownBlock = A'.map (·.block) := by cases A' <;> rfl
    rw [hob, hob'] at hat
    rw [hob] at hg
    refine ⟨A', c', w', hrun, ?_, (Below.refl _ _).grown hg hbase hAb, hg, hat⟩
    unfold Ir
    rw [List.length_append, icells_append]
    exact hown'
set_option maxRecDepth 100000 in
/-- append at a step of a region that draws its order -/
theorem step_append_ivl (w : World) {ops : Array Oper} {o : Oper} {a : Act} {K : Act → World → Prop} {X : Prop} {Q : Exit → Act → World → Prop} (hgd : o.guard = none) (s x : Operand)
    (ho : o.op = .call { callee := .builtin .append, args := #[s, x], argTypes := #[50, 50] }) (hty : o.type = 50)
    {B c n : Nat} {A : Option Addr} {xs : List Ix} (hs : a.eval s = .slice A n c) (hn : n = xs.length) (hown : Ir w B A c xs)
    (A2 : Option Addr) (m c2 : Nat) (ys : List Ix) (hx : a.eval x = .slice A2 m c2) (hm : m = ys.length) (hr : RdI w A2 ys) (hmax : n + m ≤ 1000) (hbase : B ≤ w.heap.size)
    (h : ∀ A' c' w', Ir w' B A' c' (xs ++ ys) → Below B w w' → w.grownBy w' (A.map (·.block)) → (A'.map (·.block) = A.map (·.block) ∨ A'.map (·.block) = some w.heap.size) → K (a.put o.dst (.slice A' (n + m) c')) w') :
    if Region.wanted o (yielded ops a.tmps) = true then Oper.wp Try.prog o a w K Q else X := by
  have hw : Region.wanted o (yielded ops a.tmps) = true := by simp [Region.wanted, hgd]
  rw [if_pos hw]
  subst hn hm
  obtain ⟨A', c', w', hrun, h1, h3, h4, h5⟩ := run_append_ivl w hown A2 c2 ys hr hmax hbase
  unfold Oper.wp execOp
  simp only [ho, hty, resolve, invoke, builtin, Sem.run_bind, Sem.run_pure, Result.andThen_ok, List.map_toArray, List.map_cons, List.map_nil, hs, hx, hrun]
  exact h A' c' w' h1 h3 h4 h5
set_option maxRecDepth 100000 in
theorem Ir.lt {w : World} {B : Nat} {A : Option Addr} {c : Nat} {vs : List Ix} (h : Ir w B A c vs) : ∀ k, A.map (·.block) = some k → B ≤ k ∧ k < w.heap.size := by
  intro k hk
  rcases h.2 with ⟨hv, _⟩ | ⟨g, cap, cur, hv, hb, hg, _⟩
  · simp only [Value.slice.injEq] at hv
    obtain ⟨rfl, _, _⟩ := hv
    cases hk
  · simp only [Value.slice.injEq] at hv
    obtain ⟨rfl, _, rfl⟩ := hv
    simp at hk
    subst hk
    exact ⟨hb, (Array.getElem?_eq_some_iff.1 hg).1⟩
set_option maxRecDepth 100000 in
theorem Blk.grown {w w' : World} {G : Nat} {arr : Array Value} {row : Option Nat} (h : Blk w G arr) (hg : w.grownBy w' row) (hne : some G ≠ row) : Blk w' G arr := by
  have hl := h.lt
  obtain ⟨t, e⟩ := h
  exact ⟨t, (hg.block G hl hne).trans e⟩
set_option maxRecDepth 100000 in
theorem add_add6 (ad : Addr) (k i : Nat) : (ad.add (k * 6)).add (i * 6) = ad.add ((k + i) * 6) ∨ i = 0 := by
  rcases Nat.eq_zero_or_pos i with h | h
  · exact .inr h
  · left
    have ho : (ad.add (k * 6)).off = ad.off + k * 6 := by
      unfold Addr.add
      split
      · rename_i h0; rw [h0]; rfl
      · rfl
    rw [show ad.add ((k + i) * 6) = ⟨ad.block, ad.off + (k + i) * 6, none⟩ from if_neg (by omega),
      show (ad.add (k * 6)).add (i * 6) = ⟨(ad.add (k * 6)).block, (ad.add (k * 6)).off + i * 6, none⟩ from if_neg (by omega), block_of_add, ho, Nat.add_assoc, Nat.add_mul]
set_option maxRecDepth 100000 in
theorem RdI.take {w : World} {A : Option Addr} {vs : List Ix} (h : RdI w A vs) (k : Nat) : RdI w A (vs.take k) := fun hn => by
  obtain ⟨ad, e, hl, hc⟩ := h (by simp at hn; omega)
  refine ⟨ad, e, hl, fun i hi => ?_⟩
  rw [List.getElem_take]
  exact hc i (by simp at hi; omega)
set_option maxRecDepth 100000 in
theorem RdI.drop {w : World} {ad : Addr} {vs : List Ix} (h : RdI w (some ad) vs) (k : Nat) : RdI w (some (ad.add (k * 6))) (vs.drop k) := fun hn => by
  have hk : k < vs.length := by simp at hn; omega
  obtain ⟨ad', e, hl, hc⟩ := h (by omega)
  injection e with e
  subst e
  refine ⟨_, rfl, by rw [block_of_add]; exact hl, fun i hi => ?_⟩
  have hki : k + i < vs.length := by simp at hi; omega
  have h1 := hc (k + i) hki
  rw [List.getElem_drop]
  rcases add_add6 ad k i with e | rfl
  · rw [e]; exact h1
  · rw [show (ad.add (k * 6)).add (0 * 6) = ad.add (k * 6) from by rw [Nat.zero_mul]; exact if_pos rfl]; exact h1
set_option maxRecDepth 100000 in
/-- the order of the elements does not matter -/
theorem loP_ext {a b : List Rat} (ha : a ≠ []) (hb : b ≠ []) (h : ∀ p, p ∈ a ↔ p ∈ b) : loP a = loP b :=
  Rat.le_antisymm (loP_le ((h _).2 (loP_mem hb))) (loP_le ((h _).1 (loP_mem ha)))
set_option maxRecDepth 100000 in
theorem hiP_ext {a b : List Rat} (ha : a ≠ []) (hb : b ≠ []) (h : ∀ p, p ∈ a ↔ p ∈ b) : hiP a = hiP b :=
  Rat.le_antisymm (hiP_ge ((h _).1 (hiP_mem ha))) (hiP_ge ((h _).2 (hiP_mem hb)))
set_option maxRecDepth 100000 in
theorem hull_turn (a b : List Ix) : hullS (b ++ a) = hullS (a ++ b) := by
  have hm : ∀ v, v ∈ b ++ a ↔ v ∈ a ++ b := fun v => by rw [List.mem_append, List.mem_append, Or.comm]
  have hv : allV (b ++ a) ↔ allV (a ++ b) := ⟨fun h v hv => h v ((hm v).2 hv), fun h v hv => h v ((hm v).1 hv)⟩
  have hn : b ++ a ≠ [] ↔ a ++ b ≠ [] := by simp [And.comm]
  rw [hullS, hullS]
  by_cases h : a ++ b ≠ [] ∧ allV (a ++ b)
  · rw [if_pos h, if_pos ⟨hn.2 h.1, hv.2 h.2⟩]
    have he : ∀ p, p ∈ (endsL (b ++ a)).map Fx.q ↔ p ∈ (endsL (a ++ b)).map Fx.q := fun p => by
      rw [endsL, endsL, List.flatMap_append, List.flatMap_append, List.map_append, List.map_append, List.mem_append, List.mem_append, Or.comm]
    have hl : 0 < (a ++ b).length := List.length_pos_iff.2 h.1
    have h1 : (endsL (b ++ a)).map Fx.q ≠ [] := fun e => by
      have := congrArg List.length e
      rw [List.length_map, endsL_len] at this
      simp at this hl; omega
    have h2 : (endsL (a ++ b)).map Fx.q ≠ [] := fun e => by
      have := congrArg List.length e
      rw [List.length_map, endsL_len] at this
      simp at this hl; omega
    rw [loP_ext h1 h2 he, hiP_ext h1 h2 he]
  · rw [if_neg h, if_neg (fun e => h ⟨hn.1 e.1, hv.1 e.2⟩)]
end Go.Proofs.Ytlcolmifmhdboaa
