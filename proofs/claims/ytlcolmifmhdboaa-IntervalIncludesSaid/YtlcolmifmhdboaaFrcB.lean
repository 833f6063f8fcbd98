/- Appending fractions whose limbs the call has made itself: the row holds no limb. -/
import Derived.Test.YtlcolmifmhdboaaFrcA
import Derived.Test.YtlcolmifmhdboaaIvB
namespace Go.Proofs.Ytlcolmifmhdboaa
open Go.RowKit

/-- the row's block holds no limb -/
def NoI (w : World) (A : Option Addr) : Prop := ∀ g, A.map (·.block) = some g → ∃ cur t, w.heap[g]? = some (.cells cur t (0, 0)) ∧ noInt cur
set_option maxRecDepth 100000 in
theorem NoI.nil (w : World) : NoI w none := fun g h => by cases h
set_option maxRecDepth 100000 in
theorem noi_alloc (w : World) (arr : Array Value) (t : TypeId) (h : noInt arr) : NoI (w.alloc (.cells arr t)) (some ⟨w.heap.size, 0, none⟩) := fun g hg => by
  simp at hg
  subst hg
  exact ⟨arr, t, heap_alloc_new w _, h⟩
set_option maxRecDepth 100000 in
theorem NoI.below {w w' : World} {A : Option Addr} (h : NoI w A) (hb : Below w.heap.size w w') : NoI w' A := fun g hg => by
  obtain ⟨cur, t, e, hn⟩ := h g hg
  have hl : g < w.heap.size := (Array.getElem?_eq_some_iff.1 e).1
  exact ⟨cur, t, (hb.block g hl).trans e, hn⟩
set_option maxRecDepth 100000 in
theorem NoI.sep {w : World} {A D : Option Addr} {c : Nat} {xs : List Nat} (h : NoI w A) (k : Nt w D c xs) (hx : 0 < xs.length) : ∀ ad, D = some ad → some ad.block ≠ A.map (·.block) := fun ad e he => by
  obtain ⟨cur, t, hc, hn⟩ := h ad.block he.symm
  exact k.sepB ⟨t, hc⟩ hn hx ad e rfl
set_option maxRecDepth 100000 in
theorem noInt_fcells (vs : List Fx) : ∀ u ∈ fcells vs, isInt u = false := by
  induction vs with
  | nil => intro u hu; cases hu
  | cons v vs ih =>
    intro u hu
    rw [fcells] at hu
    simp only [List.mem_cons] at hu
    rcases hu with rfl | rfl | rfl | hu
    · rfl
    · rfl
    · rfl
    · exact ih u hu
set_option maxRecDepth 100000 in
theorem frac_info2 : ∃ i z, Try.prog.info? 25 = some i ∧ i.zero = some z ∧ i.size = 3 ∧ z.cells.size = 3 ∧ i.bytes ≤ 1000 ∧ noInt z.cells := by
  have h : (Try.prog.info? 25).any (fun i => i.zero.any (fun z => decide (z.cells.size = 3) && z.cells.toList.all (fun v => !isInt v)) && decide (i.size = 3) && decide (i.bytes ≤ 1000)) = true := by kernel_rfl
  cases hi : Try.prog.info? 25 with
  | none => rw [hi] at h; cases h
  | some i =>
    rw [hi] at h
    cases hz : i.zero with
    | none => simp [hz] at h
    | some z =>
      simp only [hz, Option.any_some, Bool.and_eq_true, decide_eq_true_eq, List.all_eq_true, Bool.not_eq_true'] at h
      exact ⟨i, z, rfl, hz, h.1.2, h.1.1.1, h.2, h.1.1.2⟩
set_option maxRecDepth 100000 in
theorem mem_zeroCells {z : Array Value} {n : Nat} {u : Value} (h : u ∈ (Builtin.zeroCells z n).toList) : u ∈ z.toList := by
  rw [Builtin.zeroCells, Array.toList_map, List.mem_map] at h
  obtain ⟨a, ha, rfl⟩ := h
  have h1 : a < n * z.size := by simpa using ha
  have hz : 0 < z.size := by
    rcases Nat.eq_zero_or_pos z.size with e | e
    · rw [e] at h1; omega
    · exact e
  rw [getElem!_pos z (a % z.size) (Nat.mod_lt _ hz)]
  exact Array.mem_toList_iff.2 (Array.getElem_mem _)
set_option maxRecDepth 100000 in
theorem append_noint (w : World) {B c : Nat} {A : Option Addr} {xs : List Fx} (hown : Fr w B A c xs) (hno : NoI w A) (ad : Addr) (c2 : Nat) (ys : List Fx) (hr : RdF w (some ad) ys) (hy : 0 < ys.length) (hmax : xs.length + ys.length ≤ 1000)
    {v' : Value} {w' : World} (hrun : (Builtin.append_ #[62, 62] 62 #[.slice A xs.length c, .slice (some ad) ys.length c2]).run Try.prog w = .ok v' w') :
    ∀ g, v'.ownBlock = some g → ∃ cur t, w'.heap[g]? = some (.cells cur t (0, 0)) ∧ noInt cur := by
  obtain ⟨i, z, hi, hz, hsize, hzs, hby, hzn⟩ := frac_info2
  have hnews : ∀ j u, (fcells ys)[j]? = some u → w.cell? (ad.add j) = some u := by
    intro j u hu
    obtain ⟨k, hk, hcase⟩ := fcells_at ys j u hu
    obtain ⟨ad', e', _, hc⟩ := hr (by omega)
    injection e' with e'
    subst e'
    obtain ⟨h0, h1, h2⟩ := hc k hk
    have hoff : (ad.add (k * 3)).off = ad.off + k * 3 := by
      unfold Addr.add
      split
      · rename_i h0; rw [h0]; rfl
      · rfl
    rcases hcase with ⟨rfl, rfl⟩ | ⟨rfl, rfl⟩ | ⟨rfl, rfl⟩
    · exact h0
    · rw [show ad.add (k * 3 + 1) = ⟨(ad.add (k * 3)).block, (ad.add (k * 3)).off + 1, none⟩ from by rw [block_of_add, hoff]; exact if_neg (by omega)]
      exact h1
    · rw [show ad.add (k * 3 + 2) = ⟨(ad.add (k * 3)).block, (ad.add (k * 3)).off + 2, none⟩ from by rw [block_of_add, hoff]; exact if_neg (by omega)]
      exact h2
  have hl : (fcells ys).length = ys.length * i.size := by rw [hsize]; exact fcells_len ys
  have hb := Nat.mul_le_mul hmax hby
  rcases hown.2 with ⟨hv, h0⟩ | ⟨g, cap, cur, hv, hbg, hg, hnc, hcm, hcs, htake⟩
  · simp only [Value.slice.injEq] at hv
    obtain ⟨rfl, _, rfl⟩ := hv
    have hx : xs = [] := List.eq_nil_of_length_eq_zero h0
    subst hx
    rw [List.length_nil, run_append_nil (P := Try.prog) w 62 62 25 i z Try.underlying62 hi hz ad ys.length c2 (fcells ys) hl hnews hy (by simp at hmax; omega) (by simp at hb; omega)] at hrun
    injection hrun with e1 e2
    subst e1 e2
    intro g hg
    simp [Value.ownBlock] at hg
    subst hg
    refine ⟨_, _, heap_alloc_new _ _, fun u hu => ?_⟩
    rw [Array.toList_append, List.mem_append] at hu
    rcases hu with h | h
    · exact noInt_fcells ys u (by simpa using h)
    · exact hzn u (mem_zeroCells h)
  · simp only [Value.slice.injEq] at hv
    obtain ⟨rfl, _, rfl⟩ := hv
    obtain ⟨cur', t', hg', hcn⟩ := hno g rfl
    rw [hg] at hg'
    obtain ⟨rfl, rfl⟩ : cur = cur' ∧ 25 = t' := by simpa using hg'
    have hxl : (fcells xs).length = xs.length * i.size := by rw [hsize]; exact fcells_len xs
    by_cases hroom : xs.length + ys.length ≤ c
    · have hfit : xs.length * i.size + (fcells ys).length ≤ cur.size := by
        rw [hl, hcs, ← Nat.add_mul, hsize]; exact Nat.mul_le_mul_right _ hroom
      rw [run_append_room (P := Try.prog) w 62 62 25 i Try.underlying62 hi g xs.length c cur hg ad ys.length c2 (fcells ys) hl hnews (fcells_one ys) hroom hfit] at hrun
      injection hrun with e1 e2
      subst e1 e2
      intro g' hg'
      simp [Value.ownBlock] at hg'
      subst hg'
      refine ⟨_, _, setRow_heap w g cur _ _ _ hg, fun u hu => ?_⟩
      rw [List.mem_append, List.mem_append] at hu
      rcases hu with (h | h) | h
      · exact hcn u (List.mem_of_mem_take h)
      · exact noInt_fcells ys u h
      · exact hcn u (List.mem_of_mem_drop h)
    · have holds : ∀ j u, (fcells xs)[j]? = some u → w.cell? ((⟨g, 0, none⟩ : Addr).add j) = some u := World.ownsRow.cells (g := g) hown rfl
      rw [run_append_grow (P := Try.prog) w 62 62 25 i z Try.underlying62 hi hz ⟨g, 0, none⟩ xs.length c (fcells xs) hxl holds ad ys.length c2 (fcells ys) hl hnews (by omega) (by omega) (growslice_fits (by omega) (by omega))] at hrun
      injection hrun with e1 e2
      subst e1 e2
      intro g' hg'
      simp [Value.ownBlock] at hg'
      subst hg'
      refine ⟨_, _, heap_alloc_new _ _, fun u hu => ?_⟩
      rw [Array.toList_append, Array.toList_append, List.mem_append, List.mem_append] at hu
      rcases hu with (h | h) | h
      · exact noInt_fcells xs u h
      · exact noInt_fcells ys u h
      · exact hzn u (mem_zeroCells h)
set_option maxRecDepth 100000 in
theorem Fx.ok.grown {w w' : World} {A : Option Addr} {x : Fx} (h : x.ok w) (hn : NoI w A) (gr : w.grownBy w' (A.map (·.block))) : x.ok w' :=
  ⟨h.num.grown gr (fun hx => hn.sep h.num hx), h.den.grown gr (fun hx => hn.sep h.den hx)⟩
set_option maxRecDepth 100000 in
theorem OkF.grown {w w' : World} {A : Option Addr} {vs : List Fx} (h : OkF w vs) (hn : NoI w A) (gr : w.grownBy w' (A.map (·.block))) : OkF w' vs := fun v hv => ⟨(h v hv).1.grown hn gr, (h v hv).2⟩
set_option maxRecDepth 100000 in
/-- append of one fraction that lies in a literal just made -/
theorem wpList_append_frac (w : World) {ops : Array Oper} {rest : List Oper} {o : Oper} {a : Act} {Q : Exit → Act → World → Prop} (hgd : o.guard = none) (s x : Operand)
    (ho : o.op = .call { callee := .builtin .append, args := #[s, x], argTypes := #[62, 62] }) (hty : o.type = 62)
    {B c n : Nat} {A : Option Addr} {xs : List Fx} (hs : a.eval s = .slice A n c) (hn : n = xs.length) (hown : Fr w B A c xs) (hno : NoI w A)
    (ad : Addr) (m c2 : Nat) (ys : List Fx) (hx : a.eval x = .slice (some ad) m c2) (hm : m = ys.length) (hr : RdF w (some ad) ys) (hy : 0 < ys.length) (hmax : n + m ≤ 1000) (hbase : B ≤ w.heap.size)
    (h : ∀ A' c' w', Fr w' B A' c' (xs ++ ys) → NoI w' A' → Below B w w' → w.grownBy w' (A.map (·.block)) → (A'.map (·.block) = A.map (·.block) ∨ A'.map (·.block) = some w.heap.size) → wpList Try.prog ops Q rest (a.put o.dst (.slice A' (n + m) c')) w') :
    wpList Try.prog ops Q (o :: rest) a w := by
  subst hn hm
  obtain ⟨A', c', w', hrun, h1, h3, h4, h5⟩ := run_append_frac w hown (some ad) c2 ys hr hmax hbase
  have h6 := append_noint w hown hno ad c2 ys hr hy hmax hrun
  have h7 : NoI w' A' := fun g hg => h6 g (by cases A' with
    | none => cases hg
    | some a' => simpa [Value.ownBlock] using hg)
  refine wpList_plain hgd fun K hK => ?_
  unfold Oper.wp execOp
  simp only [ho, hty, resolve, invoke, builtin, Sem.run_bind, Sem.run_pure, Result.andThen_ok, List.map_toArray, List.map_cons, List.map_nil, hs, hx, hrun]
  exact hK _ _ (h A' c' w' h1 h7 h3 h4 h5)
set_option maxRecDepth 100000 in
theorem Fa.grown {w w' : World} {A : Option Addr} {x : Fx} {G : Nat} (h : Fa w G x) (hn : NoI w A) (gr : w.grownBy w' (A.map (·.block))) (hne : some G ≠ A.map (·.block)) : Fa w' G x := ⟨h.bk.grown gr hne, h.ok.grown hn gr⟩
set_option maxRecDepth 100000 in
theorem Fr.caps {w : World} {B : Nat} {A : Option Addr} {c : Nat} {vs : List Fx} (h : Fr w B A c vs) : vs.length ≤ c ∧ c ≤ maxLen := by
  rcases h.2 with ⟨hv, hn⟩ | ⟨g, cap, cur, hv, _, _, hnc, hcm, _⟩
  · simp only [Value.slice.injEq] at hv
    obtain ⟨_, _, rfl⟩ := hv
    exact ⟨by omega, by simp [maxLen]⟩
  · simp only [Value.slice.injEq] at hv
    obtain ⟨_, _, rfl⟩ := hv
    exact ⟨hnc, hcm⟩
set_option maxRecDepth 100000 in
theorem fr_nil (w : World) (B : Nat) : Fr w B none 0 [] := World.ownsRow_nil _ _ _ _
end Go.Proofs.Ytlcolmifmhdboaa
