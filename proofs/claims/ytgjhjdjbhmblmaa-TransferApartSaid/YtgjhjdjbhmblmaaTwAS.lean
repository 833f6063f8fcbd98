/- Appending transfers and whole numbers onto rows of the call's own: whatever their number, inside regions that draw. -/
import Derived.Test.YtgjhjdjbhmblmaaTrY
import Derived.Test.YtgjhjdjbhmblmaaTrF
namespace Go.Proofs.Ytgjhjdjbhmblmaa
open Go.RowKit

theorem run_append_ts (w : World) {B c : Nat} {A : Option Addr} {xs : List Tm} (hown : Tw w B A c xs) (A2 : Option Addr) (c2 : Nat) (ys : List Tm) (hr : RdT w A2 ys) (hmax : xs.length + ys.length ≤ 1000) (hbase : B ≤ w.heap.size) :
    ∃ A' c' w', (Builtin.append_ #[23, 23] 23 #[.slice A xs.length c, .slice A2 ys.length c2]).run Try.prog w = .ok (.slice A' (xs.length + ys.length) c') w' ∧ Tw w' B A' c' (xs ++ ys) ∧ Below B w w' ∧ w.grownBy w' (A.map (·.block)) ∧ (A'.map (·.block) = A.map (·.block) ∨ A'.map (·.block) = some w.heap.size) := by
  obtain ⟨i, hi, hz, hsize, hby⟩ := info_parts tran_info
  have hAb : ∀ k, A.map (·.block) = some k → B ≤ k := by
    intro k hk
    cases A with
    | none => cases hk
    | some ad => simp at hk; subst hk; exact (hown.form.2.2 ad rfl).1
  have hob : (Value.slice A xs.length c).ownBlock = A.map (·.block) := by cases A <;> rfl
  cases A2 with
  | none =>
    have hy : ys = [] := by
      rcases Nat.eq_zero_or_pos ys.length with h0 | h0
      · exact List.eq_nil_of_length_eq_zero h0
      · obtain ⟨ad, h, _⟩ := hr h0; cases h
    subst hy
    refine ⟨A, c, w, ?_, by simpa using hown, Below.refl _ _, World.grownBy.refl _ _, .inl rfl⟩
    rcases hown.2 with ⟨h', hn⟩ | ⟨g, cap, cur, h', _, _, hnc, _⟩
    · simp only [Value.slice.injEq] at h'
      obtain ⟨rfl, _, rfl⟩ := h'
      simp [Builtin.append_, run_underlying Try.underlying23, sizeOf, typeInfo, hi, Builtin.lenOf, Builtin.firstCells, hn]
    · simp only [Value.slice.injEq] at h'
      obtain ⟨rfl, _, rfl⟩ := h'
      simp [Builtin.append_, run_underlying Try.underlying23, sizeOf, typeInfo, hi, Builtin.lenOf, Builtin.firstCells, hnc, storeCells]
  | some ad =>
    have hnews : ∀ j u, (tcells ys)[j]? = some u → w.cell? (ad.add j) = some u := by
      intro j u hu
      obtain ⟨k, hk, hcase⟩ := tcells_at ys j u hu
      obtain ⟨ad', e', _, hc⟩ := hr (by omega)
      injection e' with e'
      subst e'
      obtain ⟨h0, h1, h2⟩ := hc k hk
      have e3 : ∀ q, (⟨(ad.add (k * 3)).block, (ad.add (k * 3)).off + (q + 1), none⟩ : Addr) = ad.add (k * 3 + (q + 1)) := fun q => by
        rw [← add_of_add ad (k * 3) (q + 1), add_at1]
      rcases hcase with ⟨rfl, rfl⟩ | ⟨rfl, rfl⟩ | ⟨rfl, rfl⟩
      · exact h0
      · rw [← e3 0]; exact h1
      · rw [← e3 1]; exact h2
    obtain ⟨v', w', hrun, hown', hg, _, hat⟩ := run_append_own_at (P := Try.prog) w B 23 23 26 i _ 3 40 Try.underlying23 hi hz hsize hby rfl (by omega) (.slice A xs.length c) xs.length (tcells xs) hown ad ys.length c2 (tcells ys) (tcells_len ys) hnews
      (tcells_one ys) (by simp only [maxLen]; omega) (by omega) hbase
    have hform : ∃ A' c', v' = .slice A' (xs.length + ys.length) c' := by
      rcases hown'.2 with ⟨rfl, hn⟩ | ⟨g, cap, cur, rfl, _⟩
      · exact ⟨none, 0, by rw [hn]⟩
      · exact ⟨_, _, rfl⟩
    obtain ⟨A', c', rfl⟩ := hform
    have hob' : (Value.slice A' (xs.length + ys.length) c').ownBlock = A'.map (·.block) := by cases A' <;> rfl
    rw [hob, hob'] at hat
    rw [hob] at hg
    have h1 : Tw w' B A' c' (xs ++ ys) := by
      unfold Tw
      rw [List.length_append, tcells_append]
      exact hown'
    exact ⟨A', c', w', hrun, h1, (Below.refl _ _).grown hg hbase hAb, hg, hat⟩
theorem wpList_append_ts (w : World) {ops : Array Oper} {rest : List Oper} {o : Oper} {a : Act} {Q : Exit → Act → World → Prop} (hgd : o.guard = none) (s x : Operand)
    (ho : o.op = .call { callee := .builtin .append, args := #[s, x], argTypes := #[23, 23] }) (hty : o.type = 23)
    {B c n m : Nat} {A : Option Addr} {xs : List Tm} (hs : a.eval s = .slice A n c) (hn : n = xs.length) (hown : Tw w B A c xs)
    (A2 : Option Addr) (c2 : Nat) (ys : List Tm) (hx : a.eval x = .slice A2 m c2) (hm : m = ys.length) (hr : RdT w A2 ys) (hmax : n + m ≤ 1000) (hbase : B ≤ w.heap.size)
    (h : ∀ A' c' w', Tw w' B A' c' (xs ++ ys) → Below B w w' → w.grownBy w' (A.map (·.block)) → (A'.map (·.block) = A.map (·.block) ∨ A'.map (·.block) = some w.heap.size) → wpList Try.prog ops Q rest (a.put o.dst (.slice A' (n + m) c')) w') : wpList Try.prog ops Q (o :: rest) a w := by
  subst hn hm
  obtain ⟨A', c', w', hrun, h1, h3, h4, h5⟩ := run_append_ts w hown A2 c2 ys hr hmax hbase
  refine wpList_plain hgd fun K hK => ?_
  unfold Oper.wp execOp
  simp only [ho, hty, resolve, invoke, builtin, Sem.run_bind, Sem.run_pure, Result.andThen_ok, List.map_toArray, List.map_cons, List.map_nil, hs, hx, hrun]
  exact hK _ _ (h A' c' w' h1 h3 h4 h5)
theorem step_append_iv {P : Program} (w : World) {α : Type} {mk : α → Value} (hone : ∀ x, (mk x).oneCell' = true) {ops : Array Oper} {o : Oper} {a : Act} {K : Act → World → Prop} {Q : Exit → Act → World → Prop} {X : Prop} (hgd : o.guard = none) (s x : Operand) (t : TypeId)
    (ho : o.op = .call { callee := .builtin .append, args := #[s, x], argTypes := #[t, t] })
    (e : TypeId) (i : TypeInfo) (z : Value) (bytes : Nat) (ht : P.underlying t = some (.slice e)) (hi : P.info? e = some i) (hz : i.zero = some z)
    (hsize : i.size = 1) (hby : i.bytes = bytes) (hzs : z.cells.size = 1) {B c n : Nat} {A : Option Addr} {xs : List α} (hs : a.eval s = .slice A n c) (hn : n = xs.length) (hown : Gr mk e w B A c xs)
    (A2 : Option Addr) (m c2 : Nat) (ys : List α) (hx : a.eval x = .slice A2 m c2) (hm : m = ys.length) (hr : Rd mk w A2 ys) (hmax : n + m ≤ maxLen) (hbytes : (n + m) * bytes ≤ 140737488355328) (hbase : B ≤ w.heap.size)
    (h : ∀ A' c' w', Gr mk e w' B A' c' (xs ++ ys) → w.grownBy w' (A.map (·.block)) → Below B w w' → (A'.map (·.block) = A.map (·.block) ∨ A'.map (·.block) = some w.heap.size) →
      K (a.put o.dst (.slice A' (n + m) c')) w') :
    if Region.wanted o (yielded ops a.tmps) = true then Oper.wp P o a w K Q else X := by
  have hw : Region.wanted o (yielded ops a.tmps) = true := by simp [Region.wanted, hgd]
  rw [if_pos hw]
  subst hn hm
  obtain ⟨A', c', w', hrun, h1, h2, h3, h4⟩ := run_append_rd (P := P) w hone t o.type e i z bytes ht hi hz hsize hby hzs hown A2 c2 ys hr hmax hbytes hbase
  unfold Oper.wp execOp
  simp only [ho, resolve, invoke, builtin, Sem.run_bind, Sem.run_pure, Result.andThen_ok, List.map_toArray, List.map_cons, List.map_nil, hs, hx, hrun]
  exact h A' c' w' h1 h2 h3 h4
theorem below_al {w v : World} (h : Below w.heap.size w v) (o : Obj) : Below w.heap.size w (v.alloc o) := h.alloc h.size o
theorem rdi_at {v : World} {g : Nat} (x : Int) (e : TypeId) (hg : g = v.heap.size) : Rd iv (v.alloc (.cells #[.int .i64 x] e)) (some ⟨g, 0, none⟩) [x] := by subst hg; exact Rd.one v e x
theorem rdi_drew {v : World} {A : Option Addr} {xs : List Int} (h : Rd iv v A xs) : Rd iv v.drew A xs := h
/-- the links do not lie in the row's block -/
def SepT (A : Option Addr) (vs : List Tm) : Prop := ∀ x ∈ vs, Sep x.A x.ls A
theorem ap_round {X wz : World} {A' A2 : Option Addr} {vs : List Tm} {x : Tm} (hok : ∀ y ∈ vs, y.ok X) (hsep : SepT A' vs) (hxok : x.ok X) (hxs : Sep x.A x.ls A') (hg : X.grownBy wz (A'.map (·.block)))
    (hat : A2.map (·.block) = A'.map (·.block) ∨ A2.map (·.block) = some X.heap.size) : (∀ y ∈ vs ++ [x], y.ok wz) ∧ SepT A2 (vs ++ [x]) := by
  have key : ∀ y : Tm, y.ok X → Sep y.A y.ls A' → y.ok wz ∧ Sep y.A y.ls A2 := fun y h1 h2 => ⟨⟨h1.is.grown hg h2.row, h1.wb, h1.ws⟩, h2.append h1.is.rd hat⟩
  refine ⟨fun y hy => ?_, fun y hy => ?_⟩
  · rcases List.mem_append.1 hy with h | h
    · exact (key y (hok y h) (hsep y h)).1
    · rw [List.mem_singleton] at h; subst h; exact (key y hxok hxs).1
  · rcases List.mem_append.1 hy with h | h
    · exact (key y (hok y h) (hsep y h)).2
    · rw [List.mem_singleton] at h; subst h; exact (key y hxok hxs).2
theorem sepT_start {w : World} {A : Option Addr} {vs : List Tm} (hok : ∀ y ∈ vs, y.ok w) (hA : ∀ a, A = some a → w.heap.size ≤ a.block) : SepT A vs := fun x hx h0 a o e1 e2 => by
  obtain ⟨ad, e, hl, _⟩ := (hok x hx).is.rd h0
  rw [e1] at e
  injection e with e
  subst e
  have := hA o e2
  omega
end Go.Proofs.Ytgjhjdjbhmblmaa
