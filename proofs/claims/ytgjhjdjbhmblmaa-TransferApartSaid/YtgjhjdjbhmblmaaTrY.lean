/- Appending a flow or a transfer, with what the append keeps. -/
import Derived.Test.YtgjhjdjbhmblmaaTrA
namespace Go.Proofs.Ytgjhjdjbhmblmaa
open Go.RowKit

theorem run_append_w2 (w : World) {B c : Nat} {A : Option Addr} {xs : List Fm} (hown : Fw w B A c xs) (ad : Addr) (c2 : Nat) (y : Fm) (hr : RdW w (some ad) [y]) (hmax : xs.length ≤ 1000) (hbase : B ≤ w.heap.size) :
    ∃ A' c' w', (Builtin.append_ #[45, 45] 45 #[.slice A xs.length c, .slice (some ad) 1 c2]).run Try.prog w = .ok (.slice A' (xs.length + 1) c') w' ∧ Fw w' B A' c' (xs ++ [y]) ∧ Below B w w' ∧ w.grownBy w' (A.map (·.block)) ∧ (A'.map (·.block) = A.map (·.block) ∨ A'.map (·.block) = some w.heap.size) := by
  obtain ⟨i, hi, hz, hsize, hby⟩ := info_parts flow_info
  have hAb : ∀ k, A.map (·.block) = some k → B ≤ k := by
    intro k hk
    cases A with
    | none => cases hk
    | some ad => simp at hk; subst hk; exact (hown.form.2.2 ad rfl).1
  have hob : (Value.slice A xs.length c).ownBlock = A.map (·.block) := by cases A <;> rfl
  have hnews : ∀ j u, (wcells [y])[j]? = some u → w.cell? (ad.add j) = some u := by
    intro j u hu
    obtain ⟨k, hk, hcase⟩ := wcells_at [y] j u hu
    obtain ⟨ad', e', _, hc⟩ := hr (by simp)
    injection e' with e'
    subst e'
    obtain ⟨h0, h1⟩ := hc k hk
    have hk0 : k = 0 := by simpa using hk
    subst hk0
    rcases hcase with ⟨rfl, rfl⟩ | ⟨rfl, rfl⟩
    · exact h0
    · rw [show ad.add (0 * 2 + 1) = ⟨(ad.add (0 * 2)).block, (ad.add (0 * 2)).off + 1, none⟩ from by rw [Nat.zero_mul, add_at1, add_at0]]
      exact h1
  obtain ⟨v', w', hrun, hown', hg, _, hat⟩ := run_append_own_at (P := Try.prog) w B 45 45 54 i _ 2 32 Try.underlying45 hi hz hsize hby rfl (by omega) (.slice A xs.length c) xs.length (wcells xs) hown ad 1 c2 (wcells [y]) rfl hnews
    (wcells_one [y]) (by simp only [maxLen]; omega) (by omega) hbase
  have hform : ∃ A' c', v' = .slice A' (xs.length + 1) c' := by
    rcases hown'.2 with ⟨rfl, hn⟩ | ⟨g, cap, cur, rfl, _⟩
    · omega
    · exact ⟨_, _, rfl⟩
  obtain ⟨A', c', rfl⟩ := hform
  have hob' : (Value.slice A' (xs.length + 1) c').ownBlock = A'.map (·.block) := by cases A' <;> rfl
  rw [hob, hob'] at hat
  rw [hob] at hg
  refine ⟨A', c', w', hrun, ?_, (Below.refl _ _).grown hg hbase hAb, hg, hat⟩
  unfold Fw
  rw [List.length_append, wcells_append]
  exact hown'
theorem wpList_append_w2 (w : World) {ops : Array Oper} {rest : List Oper} {o : Oper} {a : Act} {Q : Exit → Act → World → Prop} (hgd : o.guard = none) (s x : Operand)
    (ho : o.op = .call { callee := .builtin .append, args := #[s, x], argTypes := #[45, 45] }) (hty : o.type = 45)
    {B c n : Nat} {A : Option Addr} {xs : List Fm} (hs : a.eval s = .slice A n c) (hn : n = xs.length) (hown : Fw w B A c xs)
    (ad : Addr) (c2 : Nat) (y : Fm) (hx : a.eval x = .slice (some ad) 1 c2) (hr : RdW w (some ad) [y]) (hmax : n ≤ 1000) (hbase : B ≤ w.heap.size)
    (h : ∀ A' c' w', Fw w' B A' c' (xs ++ [y]) → Below B w w' → w.grownBy w' (A.map (·.block)) → (A'.map (·.block) = A.map (·.block) ∨ A'.map (·.block) = some w.heap.size) → wpList Try.prog ops Q rest (a.put o.dst (.slice A' (n + 1) c')) w') : wpList Try.prog ops Q (o :: rest) a w := by
  subst hn
  obtain ⟨A', c', w', hrun, h1, h3, h4, h5⟩ := run_append_w2 w hown ad c2 y hr hmax hbase
  refine wpList_plain hgd fun K hK => ?_
  unfold Oper.wp execOp
  simp only [ho, hty, resolve, invoke, builtin, Sem.run_bind, Sem.run_pure, Result.andThen_ok, List.map_toArray, List.map_cons, List.map_nil, hs, hx, hrun]
  exact hK _ _ (h A' c' w' h1 h3 h4 h5)

/-! rows of transfers -/
def tcells : List Tm → List Value
  | [] => []
  | v :: vs => .slice v.A v.ls.length v.c :: .int .i64 v.b :: .int .i64 v.s :: tcells vs
theorem tcells_len (vs : List Tm) : (tcells vs).length = vs.length * 3 := by
  induction vs with
  | nil => rfl
  | cons v vs ih => rw [tcells]; simp only [List.length_cons, ih]; omega
theorem tcells_append (a b : List Tm) : tcells (a ++ b) = tcells a ++ tcells b := by
  induction a with
  | nil => rfl
  | cons v a ih => rw [List.cons_append, tcells, tcells, ih]; rfl
theorem tcells_get (vs : List Tm) : ∀ k (hk : k < vs.length), (tcells vs)[k * 3]? = some (.slice vs[k].A vs[k].ls.length vs[k].c) ∧ (tcells vs)[k * 3 + 1]? = some (.int .i64 vs[k].b) ∧ (tcells vs)[k * 3 + 2]? = some (.int .i64 vs[k].s) := by
  induction vs with
  | nil => intro k hk; simp at hk
  | cons v vs ih =>
    intro k hk
    cases k with
    | zero => exact ⟨rfl, rfl, rfl⟩
    | succ k =>
      have h := ih k (by simpa using hk)
      have e : (k + 1) * 3 = k * 3 + 1 + 1 + 1 := by omega
      rw [tcells, e]
      simp only [List.getElem?_cons_succ, List.getElem_cons_succ]
      exact h
theorem tcells_at (vs : List Tm) (j : Nat) (u : Value) (h : (tcells vs)[j]? = some u) : ∃ k, ∃ hk : k < vs.length, (j = k * 3 ∧ u = .slice vs[k].A vs[k].ls.length vs[k].c) ∨ (j = k * 3 + 1 ∧ u = .int .i64 vs[k].b) ∨ (j = k * 3 + 2 ∧ u = .int .i64 vs[k].s) := by
  have hj : j < vs.length * 3 := by
    rcases Nat.lt_or_ge j (vs.length * 3) with h1 | h1
    · exact h1
    · rw [List.getElem?_eq_none (by rw [tcells_len]; exact h1)] at h; cases h
  have hk : j / 3 < vs.length := by omega
  obtain ⟨h0, h1, h2⟩ := tcells_get vs (j / 3) hk
  refine ⟨j / 3, hk, ?_⟩
  rcases (show j % 3 = 0 ∨ j % 3 = 1 ∨ j % 3 = 2 by omega) with e | e | e
  · left
    have ej : j = j / 3 * 3 := by omega
    rw [ej] at h
    exact ⟨ej, Option.some.inj (h.symm.trans h0)⟩
  · right; left
    have ej : j = j / 3 * 3 + 1 := by omega
    rw [ej] at h
    exact ⟨ej, Option.some.inj (h.symm.trans h1)⟩
  · right; right
    have ej : j = j / 3 * 3 + 2 := by omega
    rw [ej] at h
    exact ⟨ej, Option.some.inj (h.symm.trans h2)⟩
theorem tcells_one (vs : List Tm) : ∀ u ∈ tcells vs, u.oneCell' = true := by
  induction vs with
  | nil => intro u hu; cases hu
  | cons v vs ih =>
    intro u hu
    rw [tcells] at hu
    simp only [List.mem_cons] at hu
    rcases hu with rfl | rfl | rfl | hu
    · rfl
    · rfl
    · rfl
    · exact ih u hu
/-- a row of transfers of the call's own -/
def Tw (w : World) (B : Nat) (A : Option Addr) (c : Nat) (vs : List Tm) : Prop := World.ownsRow w B 26 3 (.slice A vs.length c) vs.length (tcells vs)
section
variable {w w' : World} {B : Nat} {A : Option Addr} {c : Nat} {vs : List Tm}
theorem Tw.rd (h : Tw w B A c vs) : RdT w A vs := fun hn => by
  have h' := h
  rcases h.2 with ⟨_, h0⟩ | ⟨g, cap, cur, hv, _, hg, _⟩
  · omega
  · simp only [Value.slice.injEq] at hv
    obtain ⟨rfl, _, rfl⟩ := hv
    refine ⟨_, rfl, ?_, fun k hk => ?_⟩
    · exact (Array.getElem?_eq_some_iff.1 hg).1
    · obtain ⟨h0, h1, h2⟩ := tcells_get vs k hk
      have hc := fun j hj => World.ownsRow.cellAt h' j hj
      rw [add_mk]
      exact ⟨(hc (k * 3) (by omega)).trans h0, (hc (k * 3 + 1) (by omega)).trans h1, (hc (k * 3 + 2) (by omega)).trans h2⟩
theorem Tw.below (h : Tw w B A c vs) (hb : Below w.heap.size w w') : Tw w' B A c vs :=
  World.ownsRow.kept h (w' := w') (row := none) ⟨hb.os, hb.tape, hb.output, hb.size, fun k hk _ => hb.block k hk⟩ (by
    cases A with
    | none => exact .inl rfl
    | some ad => exact .inr (by simp [Value.ownBlock]))
theorem Tw.form (h : Tw w B A c vs) : vs.length ≤ c ∧ c ≤ maxLen ∧ ∀ ad, A = some ad → B ≤ ad.block ∧ ad.block < w.heap.size := by
  rcases h.2 with ⟨h', hn⟩ | ⟨g', cap', cur, h', hb, hg, h3, h4, _⟩
  · simp only [Value.slice.injEq] at h'
    obtain ⟨rfl, _, rfl⟩ := h'
    exact ⟨by omega, by simp [maxLen], by intro ad h; cases h⟩
  · simp only [Value.slice.injEq] at h'
    obtain ⟨rfl, _, rfl⟩ := h'
    exact ⟨h3, h4, by intro ad h; injection h with h; subst h; exact ⟨hb, (Array.getElem?_eq_some_iff.1 hg).1⟩⟩
theorem Tw.ts (h : Tw w B A c vs) (ho : ∀ x ∈ vs, x.ok w) : Ts w A c vs := ⟨h.form.1, by have := h.form.2.1; unfold maxLen at this; omega, h.rd, ho⟩
theorem Tw.nil (w : World) (B : Nat) : Tw w B none 0 [] := ⟨rfl, .inl ⟨rfl, rfl⟩⟩
end
theorem rdt_one (w : World) (x : Tm) : RdT (w.alloc (.cells x.cells 26)) (some ⟨w.heap.size, 0, none⟩) [x] := fun _ =>
  ⟨_, rfl, by simp, fun k hk => by
    have : k = 0 := by simpa using hk
    subst this
    exact ⟨by go_simp, by go_simp, by go_simp⟩⟩
theorem tran_info : (Try.prog.info? 26).map (fun i => (i.zero, i.size, i.bytes)) = some (some (Value.agg #[.slice none 0 0, .int .i64 0, .int .i64 0]), 3, 40) := by kernel_rfl
theorem wpList_append_t (w : World) {ops : Array Oper} {rest : List Oper} {o : Oper} {a : Act} {Q : Exit → Act → World → Prop} (hgd : o.guard = none) (s x : Operand)
    (ho : o.op = .call { callee := .builtin .append, args := #[s, x], argTypes := #[23, 23] }) (hty : o.type = 23)
    {B c n : Nat} {A : Option Addr} {xs : List Tm} (hs : a.eval s = .slice A n c) (hn : n = xs.length) (hown : Tw w B A c xs)
    (ad : Addr) (c2 : Nat) (y : Tm) (hx : a.eval x = .slice (some ad) 1 c2) (hr : RdT w (some ad) [y]) (hmax : n ≤ 1000) (hbase : B ≤ w.heap.size)
    (h : ∀ A' c' w', Tw w' B A' c' (xs ++ [y]) → Below B w w' → w.grownBy w' (A.map (·.block)) → (A'.map (·.block) = A.map (·.block) ∨ A'.map (·.block) = some w.heap.size) → wpList Try.prog ops Q rest (a.put o.dst (.slice A' (n + 1) c')) w') : wpList Try.prog ops Q (o :: rest) a w := by
  subst hn
  obtain ⟨i, hi, hz, hsize, hby⟩ := info_parts tran_info
  have hAb : ∀ k, A.map (·.block) = some k → B ≤ k := by
    intro k hk
    cases A with
    | none => cases hk
    | some ad => simp at hk; subst hk; exact (hown.form.2.2 ad rfl).1
  have hob : (Value.slice A xs.length c).ownBlock = A.map (·.block) := by cases A <;> rfl
  have hnews : ∀ j u, (tcells [y])[j]? = some u → w.cell? (ad.add j) = some u := by
    intro j u hu
    obtain ⟨k, hk, hcase⟩ := tcells_at [y] j u hu
    obtain ⟨ad', e', _, hc⟩ := hr (by simp)
    injection e' with e'
    subst e'
    obtain ⟨h0, h1, h2⟩ := hc k hk
    have hk0 : k = 0 := by simpa using hk
    subst hk0
    rcases hcase with ⟨rfl, rfl⟩ | ⟨rfl, rfl⟩ | ⟨rfl, rfl⟩
    · exact h0
    · rw [show ad.add (0 * 3 + 1) = ⟨(ad.add (0 * 3)).block, (ad.add (0 * 3)).off + 1, none⟩ from by rw [Nat.zero_mul, add_at1, add_at0]]
      exact h1
    · rw [show ad.add (0 * 3 + 2) = ⟨(ad.add (0 * 3)).block, (ad.add (0 * 3)).off + 2, none⟩ from by rw [Nat.zero_mul, add_at1, add_at0]]
      exact h2
  obtain ⟨v', w', hrun, hown', hg, _, hat⟩ := run_append_own_at (P := Try.prog) w B 23 23 26 i _ 3 40 Try.underlying23 hi hz hsize hby rfl (by omega) (.slice A xs.length c) xs.length (tcells xs) hown ad 1 c2 (tcells [y]) rfl hnews
    (tcells_one [y]) (by simp only [maxLen]; omega) (by omega) hbase
  have hform : ∃ A' c', v' = .slice A' (xs.length + 1) c' := by
    rcases hown'.2 with ⟨rfl, hn⟩ | ⟨g, cap, cur, rfl, _⟩
    · omega
    · exact ⟨_, _, rfl⟩
  obtain ⟨A', c', rfl⟩ := hform
  have hob' : (Value.slice A' (xs.length + 1) c').ownBlock = A'.map (·.block) := by cases A' <;> rfl
  rw [hob, hob'] at hat
  rw [hob] at hg
  have h1 : Tw w' B A' c' (xs ++ [y]) := by
    unfold Tw
    rw [List.length_append, tcells_append]
    exact hown'
  refine wpList_plain hgd fun K hK => ?_
  unfold Oper.wp execOp
  simp only [ho, hty, resolve, invoke, builtin, Sem.run_bind, Sem.run_pure, Result.andThen_ok, List.map_toArray, List.map_cons, List.map_nil, hs, hx, hrun]
  exact hK _ _ (h A' c' w' h1 ((Below.refl _ _).grown hg hbase hAb) hg hat)
end Go.Proofs.Ytgjhjdjbhmblmaa
