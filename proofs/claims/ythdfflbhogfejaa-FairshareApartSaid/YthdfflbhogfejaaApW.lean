/- Appends of flows, fractions and whole numbers within regions that draw their order; slices of flows. -/
import Derived.Test.YthdfflbhogfejaaGfA
import Derived.Test.YthdfflbhogfejaaFrcA
namespace Go.Proofs.Ythdfflbhogfejaa
open Go.RowKit

set_option maxRecDepth 100000 in
theorem run_append_ws (w : World) {B c : Nat} {A : Option Addr} {xs : List Fm} (hown : Fw w B A c xs) (A2 : Option Addr) (c2 : Nat) (ys : List Fm) (hr : RdW w A2 ys) (hmax : xs.length + ys.length ≤ 1000) (hbase : B ≤ w.heap.size) :
    ∃ A' c' w', (Builtin.append_ #[23, 23] 23 #[.slice A xs.length c, .slice A2 ys.length c2]).run Try.prog w = .ok (.slice A' (xs.length + ys.length) c') w' ∧ Fw w' B A' c' (xs ++ ys) ∧ Below B w w' ∧ w.grownBy w' (A.map (·.block)) ∧ (A'.map (·.block) = A.map (·.block) ∨ A'.map (·.block) = some w.heap.size) := by
  obtain ⟨i, hi, hz, hsize, hby⟩ := info_parts flow_info
  have hAb : ∀ k, A.map (·.block) = some k → B ≤ k := by
    intro k hk
    cases A with
    | none => cases hk
    | some ad => simp at hk; subst hk; exact (hown.form.2.2 ad rfl).1
  have hob : (Value.slice A xs.length c).ownBlock = A.map (·.block) := by cases A <;> rfl
  cases A2 with
  | none =>
    have hy : ys = [] := by
      rcases Nat.eq_zero_or_pos ys.length with h0 | h0
      · exact List.eq_nil_of_length_eq_zero h0
      · obtain ⟨ad, h, _⟩ := hr h0; cases h
    subst hy
    refine ⟨A, c, w, ?_, by simpa using hown, Below.refl _ _, World.grownBy.refl _ _, .inl rfl⟩
    rcases hown.2 with ⟨h', hn⟩ | ⟨g, cap, cur, h', _, _, hnc, _⟩
    · simp only [Value.slice.injEq] at h'
      obtain ⟨rfl, _, rfl⟩ := h'
      simp [Builtin.append_, run_underlying Try.underlying23, sizeOf, typeInfo, hi, Builtin.lenOf, Builtin.firstCells, hn]
    · simp only [Value.slice.injEq] at h'
      obtain ⟨rfl, _, rfl⟩ := h'
      simp [Builtin.append_, run_underlying Try.underlying23, sizeOf, typeInfo, hi, Builtin.lenOf, Builtin.firstCells, hnc, storeCells]
  | some ad =>
    have hnews : ∀ j u, (wcells ys)[j]? = some u → w.cell? (ad.add j) = some u := by
      intro j u hu
      obtain ⟨k, hk, hcase⟩ := wcells_at ys j u hu
      obtain ⟨ad', e', _, hc⟩ := hr (by omega)
      injection e' with e'
      subst e'
      obtain ⟨h0, h1⟩ := hc k hk
      have e3 : (⟨(ad.add (k * 2)).block, (ad.add (k * 2)).off + (0 + 1), none⟩ : Addr) = ad.add (k * 2 + (0 + 1)) := by
        rw [← add_of_add ad (k * 2) (0 + 1), add_at1]
      rcases hcase with ⟨rfl, rfl⟩ | ⟨rfl, rfl⟩
      · exact h0
      · rw [show k * 2 + 1 = k * 2 + (0 + 1) from rfl, ← e3]; exact h1
    obtain ⟨v', w', hrun, hown', hg, _, hat⟩ := run_append_own_at (P := Try.prog) w B 23 23 48 i _ 2 32 Try.underlying23 hi hz hsize hby rfl (by omega) (.slice A xs.length c) xs.length (wcells xs) hown ad ys.length c2 (wcells ys) (wcells_len ys) hnews
      (wcells_one ys) (by simp only [maxLen]; omega) (by omega) hbase
    have hform : ∃ A' c', v' = .slice A' (xs.length + ys.length) c' := by
      rcases hown'.2 with ⟨rfl, hn⟩ | ⟨g, cap, cur, rfl, _⟩
      · exact ⟨none, 0, by rw [hn]⟩
      · exact ⟨_, _, rfl⟩
    obtain ⟨A', c', rfl⟩ := hform
    have hob' : (Value.slice A' (xs.length + ys.length) c').ownBlock = A'.map (·.block) := by cases A' <;> rfl
    rw [hob, hob'] at hat
    rw [hob] at hg
    have h1 : Fw w' B A' c' (xs ++ ys) := by
      unfold Fw
      rw [List.length_append, wcells_append]
      exact hown'
    exact ⟨A', c', w', hrun, h1, (Below.refl _ _).grown hg hbase hAb, hg, hat⟩
set_option maxRecDepth 100000 in
theorem wpList_append_ws (w : World) {ops : Array Oper} {rest : List Oper} {o : Oper} {a : Act} {Q : Exit → Act → World → Prop} (hgd : o.guard = none) (s x : Operand)
    (ho : o.op = .call { callee := .builtin .append, args := #[s, x], argTypes := #[23, 23] }) (hty : o.type = 23)
    {B c n m : Nat} {A : Option Addr} {xs : List Fm} (hs : a.eval s = .slice A n c) (hn : n = xs.length) (hown : Fw w B A c xs)
    (A2 : Option Addr) (c2 : Nat) (ys : List Fm) (hx : a.eval x = .slice A2 m c2) (hm : m = ys.length) (hr : RdW w A2 ys) (hmax : n + m ≤ 1000) (hbase : B ≤ w.heap.size)
    (h : ∀ A' c' w', Fw w' B A' c' (xs ++ ys) → Below B w w' → w.grownBy w' (A.map (·.block)) → (A'.map (·.block) = A.map (·.block) ∨ A'.map (·.block) = some w.heap.size) → wpList Try.prog ops Q rest (a.put o.dst (.slice A' (n + m) c')) w') : wpList Try.prog ops Q (o :: rest) a w := by
  subst hn hm
  obtain ⟨A', c', w', hrun, h1, h3, h4, h5⟩ := run_append_ws w hown A2 c2 ys hr hmax hbase
  refine wpList_plain hgd fun K hK => ?_
  unfold Oper.wp execOp
  simp only [ho, hty, resolve, invoke, builtin, Sem.run_bind, Sem.run_pure, Result.andThen_ok, List.map_toArray, List.map_cons, List.map_nil, hs, hx, hrun]
  exact hK _ _ (h A' c' w' h1 h3 h4 h5)
set_option maxRecDepth 100000 in
theorem step_append_ws (w : World) {ops : Array Oper} {o : Oper} {a : Act} {K : Act → World → Prop} {Q : Exit → Act → World → Prop} {X : Prop} (hw : Region.wanted o (yielded ops a.tmps) = true) (s x : Operand)
    (ho : o.op = .call { callee := .builtin .append, args := #[s, x], argTypes := #[23, 23] }) (hty : o.type = 23)
    {B c n m : Nat} {A : Option Addr} {xs : List Fm} (hs : a.eval s = .slice A n c) (hn : n = xs.length) (hown : Fw w B A c xs)
    (A2 : Option Addr) (c2 : Nat) (ys : List Fm) (hx : a.eval x = .slice A2 m c2) (hm : m = ys.length) (hr : RdW w A2 ys) (hmax : n + m ≤ 1000) (hbase : B ≤ w.heap.size)
    (h : ∀ A' c' w', Fw w' B A' c' (xs ++ ys) → Below B w w' → w.grownBy w' (A.map (·.block)) → (A'.map (·.block) = A.map (·.block) ∨ A'.map (·.block) = some w.heap.size) → K (a.put o.dst (.slice A' (n + m) c')) w') :
    if Region.wanted o (yielded ops a.tmps) = true then Oper.wp Try.prog o a w K Q else X := by
  rw [if_pos hw]
  subst hn hm
  obtain ⟨A', c', w', hrun, h1, h3, h4, h5⟩ := run_append_ws w hown A2 c2 ys hr hmax hbase
  unfold Oper.wp execOp
  simp only [ho, hty, resolve, invoke, builtin, Sem.run_bind, Sem.run_pure, Result.andThen_ok, List.map_toArray, List.map_cons, List.map_nil, hs, hx, hrun]
  exact h A' c' w' h1 h3 h4 h5
set_option maxRecDepth 100000 in
theorem step_append_frg (w : World) {ops : Array Oper} {o : Oper} {a : Act} {K : Act → World → Prop} {Q : Exit → Act → World → Prop} {X : Prop} (hw : Region.wanted o (yielded ops a.tmps) = true) (s x : Operand)
    (ho : o.op = .call { callee := .builtin .append, args := #[s, x], argTypes := #[29, 29] }) (hty : o.type = 29)
    {B c n m : Nat} {A : Option Addr} {xs : List Fx} (hs : a.eval s = .slice A n c) (hn : n = xs.length) (hown : Fr w B A c xs)
    (A2 : Option Addr) (c2 : Nat) (ys : List Fx) (hx : a.eval x = .slice A2 m c2) (hm : m = ys.length) (hr : RdF w A2 ys) (hmax : n + m ≤ 1000) (hbase : B ≤ w.heap.size)
    (h : ∀ A' c' w', Fr w' B A' c' (xs ++ ys) → Below B w w' → w.grownBy w' (A.map (·.block)) → (A'.map (·.block) = A.map (·.block) ∨ A'.map (·.block) = some w.heap.size) → K (a.put o.dst (.slice A' (n + m) c')) w') :
    if Region.wanted o (yielded ops a.tmps) = true then Oper.wp Try.prog o a w K Q else X := by
  rw [if_pos hw]
  subst hn hm
  obtain ⟨A', c', w', hrun, h1, h3, h4, h5⟩ := run_append_frac w hown A2 c2 ys hr hmax hbase
  unfold Oper.wp execOp
  simp only [ho, hty, resolve, invoke, builtin, Sem.run_bind, Sem.run_pure, Result.andThen_ok, List.map_toArray, List.map_cons, List.map_nil, hs, hx, hrun]
  exact h A' c' w' h1 h3 h4 h5
set_option maxRecDepth 100000 in
theorem step_append_ivg {P : Program} (w : World) {α : Type} {mk : α → Value} (hone : ∀ x, (mk x).oneCell' = true) {ops : Array Oper} {o : Oper} {a : Act} {K : Act → World → Prop} {Q : Exit → Act → World → Prop} {X : Prop} (hw : Region.wanted o (yielded ops a.tmps) = true) (s x : Operand) (t : TypeId)
    (ho : o.op = .call { callee := .builtin .append, args := #[s, x], argTypes := #[t, t] })
    (e : TypeId) (i : TypeInfo) (z : Value) (bytes : Nat) (ht : P.underlying t = some (.slice e)) (hi : P.info? e = some i) (hz : i.zero = some z)
    (hsize : i.size = 1) (hby : i.bytes = bytes) (hzs : z.cells.size = 1) {B c n : Nat} {A : Option Addr} {xs : List α} (hs : a.eval s = .slice A n c) (hn : n = xs.length) (hown : Gr mk e w B A c xs)
    (A2 : Option Addr) (m c2 : Nat) (ys : List α) (hx : a.eval x = .slice A2 m c2) (hm : m = ys.length) (hr : Rd mk w A2 ys) (hmax : n + m ≤ maxLen) (hbytes : (n + m) * bytes ≤ 140737488355328) (hbase : B ≤ w.heap.size)
    (h : ∀ A' c' w', Gr mk e w' B A' c' (xs ++ ys) → w.grownBy w' (A.map (·.block)) → Below B w w' → (A'.map (·.block) = A.map (·.block) ∨ A'.map (·.block) = some w.heap.size) →
      K (a.put o.dst (.slice A' (n + m) c')) w') :
    if Region.wanted o (yielded ops a.tmps) = true then Oper.wp P o a w K Q else X := by
  rw [if_pos hw]
  subst hn hm
  obtain ⟨A', c', w', hrun, h1, h2, h3, h4⟩ := run_append_rd (P := P) w hone t o.type e i z bytes ht hi hz hsize hby hzs hown A2 c2 ys hr hmax hbytes hbase
  unfold Oper.wp execOp
  simp only [ho, resolve, invoke, builtin, Sem.run_bind, Sem.run_pure, Result.andThen_ok, List.map_toArray, List.map_cons, List.map_nil, hs, hx, hrun]
  exact h A' c' w' h1 h2 h3 h4
set_option maxRecDepth 100000 in
theorem wpList_append_frg (w : World) {ops : Array Oper} {rest : List Oper} {o : Oper} {a : Act} {Q : Exit → Act → World → Prop} (hw : Region.wanted o (yielded ops a.tmps) = true) (s x : Operand)
    (ho : o.op = .call { callee := .builtin .append, args := #[s, x], argTypes := #[29, 29] }) (hty : o.type = 29)
    {B c n m : Nat} {A : Option Addr} {xs : List Fx} (hs : a.eval s = .slice A n c) (hn : n = xs.length) (hown : Fr w B A c xs)
    (A2 : Option Addr) (c2 : Nat) (ys : List Fx) (hx : a.eval x = .slice A2 m c2) (hm : m = ys.length) (hr : RdF w A2 ys) (hmax : n + m ≤ 1000) (hbase : B ≤ w.heap.size)
    (h : ∀ A' c' w', Fr w' B A' c' (xs ++ ys) → Below B w w' → wpList Try.prog ops Q rest (a.put o.dst (.slice A' (n + m) c')) w') : wpList Try.prog ops Q (o :: rest) a w :=
  wpList_step fun _ hK => step_append_frg w hw s x ho hty hs hn hown A2 c2 ys hx hm hr hmax hbase (fun A' c' w' h1 h2 _ _ => hK _ _ (h A' c' w' h1 h2))
set_option maxRecDepth 100000 in
theorem wpList_append_ivg {P : Program} (w : World) {α : Type} {mk : α → Value} (hone : ∀ x, (mk x).oneCell' = true) {ops : Array Oper} {rest : List Oper} {o : Oper} {a : Act} {Q : Exit → Act → World → Prop} (hw : Region.wanted o (yielded ops a.tmps) = true) (s x : Operand) (t : TypeId)
    (ho : o.op = .call { callee := .builtin .append, args := #[s, x], argTypes := #[t, t] })
    (e : TypeId) (i : TypeInfo) (z : Value) (bytes : Nat) (ht : P.underlying t = some (.slice e)) (hi : P.info? e = some i) (hz : i.zero = some z)
    (hsize : i.size = 1) (hby : i.bytes = bytes) (hzs : z.cells.size = 1) {B c n : Nat} {A : Option Addr} {xs : List α} (hs : a.eval s = .slice A n c) (hn : n = xs.length) (hown : Gr mk e w B A c xs)
    (A2 : Option Addr) (m c2 : Nat) (ys : List α) (hx : a.eval x = .slice A2 m c2) (hm : m = ys.length) (hr : Rd mk w A2 ys) (hmax : n + m ≤ maxLen) (hbytes : (n + m) * bytes ≤ 140737488355328) (hbase : B ≤ w.heap.size)
    (h : ∀ A' c' w', Gr mk e w' B A' c' (xs ++ ys) → Below B w w' → wpList P ops Q rest (a.put o.dst (.slice A' (n + m) c')) w') : wpList P ops Q (o :: rest) a w :=
  wpList_step fun _ hK => step_append_ivg w hone hw s x t ho e i z bytes ht hi hz hsize hby hzs hs hn hown A2 m c2 ys hx hm hr hmax hbytes hbase (fun A' c' w' h1 _ h3 _ => hK _ _ (h A' c' w' h1 h3))
set_option maxRecDepth 100000 in
theorem RdW.take {w : World} {A : Option Addr} {vs : List Fm} (h : RdW w A vs) (k : Nat) : RdW w A (vs.take k) := fun hn => by
  obtain ⟨ad, e, hl, hc⟩ := h (by simp at hn; omega)
  refine ⟨ad, e, hl, fun i hi => ?_⟩
  simp at hi
  rw [List.getElem_take]
  exact hc i (by omega)
set_option maxRecDepth 100000 in
theorem RdW.drop {w : World} {ad : Addr} {vs : List Fm} (h : RdW w (some ad) vs) (k : Nat) : RdW w (some (ad.add (k * 2))) (vs.drop k) := fun hn => by
  have hk : k < vs.length := by simp at hn; omega
  obtain ⟨ad', e, hl, hc⟩ := h (by omega)
  injection e with e
  subst e
  refine ⟨_, rfl, by rw [block_of_add]; exact hl, fun i hi => ?_⟩
  have hki : k + i < vs.length := by simp at hi; omega
  have h1 := hc (k + i) hki
  rw [List.getElem_drop, add_of_add, ← Nat.add_mul]
  exact h1
set_option maxRecDepth 100000 in
/-- the flows of a row that is new are as they were -/
theorem Fw.old {w w' : World} {B c : Nat} {A : Option Addr} {vs : List Fm} (h : Fw w' B A c vs) (hB : B = w.heap.size) (hb : Below B w w') (ho : ∀ x ∈ vs, x.ok w) : Ws w' A c vs := h.ws (fun x hx => (ho x hx).below (by rw [← hB]; exact hb))
end Go.Proofs.Ythdfflbhogfejaa
