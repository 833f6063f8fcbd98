/- Appending a flow, a transfer onto a row of the call's own. -/
import Derived.Test.YtgjhjdjbhmblmaaTrB
import Derived.Maps.AppendAt
namespace Go.Proofs.Ytgjhjdjbhmblmaa
open Go.RowKit

theorem wcells_at (vs : List Fm) (j : Nat) (u : Value) (h : (wcells vs)[j]? = some u) : ∃ k, ∃ hk : k < vs.length, (j = k * 2 ∧ u = .slice vs[k].A vs[k].ls.length vs[k].c) ∨ (j = k * 2 + 1 ∧ u = .int .i64 vs[k].m) := by
  have hj : j < vs.length * 2 := by
    rcases Nat.lt_or_ge j (vs.length * 2) with h1 | h1
    · exact h1
    · rw [List.getElem?_eq_none (by rw [wcells_len]; exact h1)] at h; cases h
  have hk : j / 2 < vs.length := by omega
  obtain ⟨h0, h1⟩ := wcells_get vs (j / 2) hk
  refine ⟨j / 2, hk, ?_⟩
  rcases (show j % 2 = 0 ∨ j % 2 = 1 by omega) with e | e
  · left
    have ej : j = j / 2 * 2 := by omega
    rw [ej] at h
    exact ⟨ej, Option.some.inj (h.symm.trans h0)⟩
  · right
    have ej : j = j / 2 * 2 + 1 := by omega
    rw [ej] at h
    exact ⟨ej, Option.some.inj (h.symm.trans h1)⟩
/-- a literal of one flow -/
theorem rdw_one (w : World) (x : Fm) : RdW (w.alloc (.cells x.cells 54)) (some ⟨w.heap.size, 0, none⟩) [x] := fun _ =>
  ⟨_, rfl, by simp, fun k hk => by
    have : k = 0 := by simpa using hk
    subst this
    exact ⟨by go_simp, by go_simp⟩⟩
theorem run_append_w (w : World) {B c : Nat} {A : Option Addr} {xs : List Fm} (hown : Fw w B A c xs) (ad : Addr) (c2 : Nat) (y : Fm) (hr : RdW w (some ad) [y]) (hmax : xs.length ≤ 1000) (hbase : B ≤ w.heap.size) :
    ∃ A' c' w', (Builtin.append_ #[45, 45] 45 #[.slice A xs.length c, .slice (some ad) 1 c2]).run Try.prog w = .ok (.slice A' (xs.length + 1) c') w' ∧ Fw w' B A' c' (xs ++ [y]) ∧ Below B w w' ∧ w.grownBy w' (A.map (·.block)) := by
  obtain ⟨i, hi, hz, hsize, hby⟩ := info_parts flow_info
  have hAb : ∀ k, A.map (·.block) = some k → B ≤ k := by
    intro k hk
    cases A with
    | none => cases hk
    | some ad => simp at hk; subst hk; exact (hown.form.2.2 ad rfl).1
  have hob : (Value.slice A xs.length c).ownBlock = A.map (·.block) := by cases A <;> rfl
  have hnews : ∀ j u, (wcells [y])[j]? = some u → w.cell? (ad.add j) = some u := by
    intro j u hu
    obtain ⟨k, hk, hcase⟩ := wcells_at [y] j u hu
    obtain ⟨ad', e', _, hc⟩ := hr (by simp)
    injection e' with e'
    subst e'
    obtain ⟨h0, h1⟩ := hc k hk
    have hk0 : k = 0 := by simpa using hk
    subst hk0
    rcases hcase with ⟨rfl, rfl⟩ | ⟨rfl, rfl⟩
    · exact h0
    · rw [show ad.add (0 * 2 + 1) = ⟨(ad.add (0 * 2)).block, (ad.add (0 * 2)).off + 1, none⟩ from by rw [Nat.zero_mul, add_at1, add_at0]]
      exact h1
  obtain ⟨v', w', hrun, hown', hg, _, hat⟩ := run_append_own_at (P := Try.prog) w B 45 45 54 i _ 2 32 Try.underlying45 hi hz hsize hby rfl (by omega) (.slice A xs.length c) xs.length (wcells xs) hown ad 1 c2 (wcells [y]) rfl hnews
    (wcells_one [y]) (by simp only [maxLen]; omega) (by omega) hbase
  have hform : ∃ A' c', v' = .slice A' (xs.length + 1) c' := by
    rcases hown'.2 with ⟨rfl, hn⟩ | ⟨g, cap, cur, rfl, _⟩
    · omega
    · exact ⟨_, _, rfl⟩
  obtain ⟨A', c', rfl⟩ := hform
  rw [hob] at hg
  refine ⟨A', c', w', hrun, ?_, (Below.refl _ _).grown hg hbase hAb, hg⟩
  unfold Fw
  rw [List.length_append, wcells_append]
  exact hown'
theorem wpList_append_w (w : World) {ops : Array Oper} {rest : List Oper} {o : Oper} {a : Act} {Q : Exit → Act → World → Prop} (hgd : o.guard = none) (s x : Operand)
    (ho : o.op = .call { callee := .builtin .append, args := #[s, x], argTypes := #[45, 45] }) (hty : o.type = 45)
    {B c n : Nat} {A : Option Addr} {xs : List Fm} (hs : a.eval s = .slice A n c) (hn : n = xs.length) (hown : Fw w B A c xs)
    (ad : Addr) (c2 : Nat) (y : Fm) (hx : a.eval x = .slice (some ad) 1 c2) (hr : RdW w (some ad) [y]) (hmax : n ≤ 1000) (hbase : B ≤ w.heap.size)
    (h : ∀ A' c' w', Fw w' B A' c' (xs ++ [y]) → Below B w w' → wpList Try.prog ops Q rest (a.put o.dst (.slice A' (n + 1) c')) w') : wpList Try.prog ops Q (o :: rest) a w := by
  subst hn
  obtain ⟨A', c', w', hrun, h1, h3, h4⟩ := run_append_w w hown ad c2 y hr hmax hbase
  refine wpList_plain hgd fun K hK => ?_
  unfold Oper.wp execOp
  simp only [ho, hty, resolve, invoke, builtin, Sem.run_bind, Sem.run_pure, Result.andThen_ok, List.map_toArray, List.map_cons, List.map_nil, hs, hx, hrun]
  exact hK _ _ (h A' c' w' h1 h3)
end Go.Proofs.Ytgjhjdjbhmblmaa
