/- Arguments that came in, opened to what the walks ask -/
import Derived.Test.YtkpfbekmaafehaaGreatRows
import Derived.Test.YtkpfbekmaafehaaGreatBase
import Derived.ProofKit
import Derived.OpenShut
import Derived.ShutString
import Derived.ChangeOld
import Derived.Below
import Derived.Test.YtkpfbekmaafehaaGreatNatD
import Derived.Lib.SmallJoins
import Derived.Test.YtkpfbekmaafehaaGreatFrE
import Derived.Deep.Slices
import Derived.Deep.Fields
import Derived.Test.YtkpfbekmaafehaaGreatSrB
import Derived.SizedLaws
namespace Go.Proofs.YtkpfbekmaafehaaGreat
set_option maxRecDepth 100000
open Go.ChangeShapes Go.WideShapes Go.ChangeAt Go.RowKit
theorem own_knob : ownKnob Tryz.prog.godebug = none := by kernel_rfl
theorem laid_out : laidOutB Tryz.prog = true := by kernel_rfl
theorem lt_of_cell {w : World} {a : Addr} {v : Value} (h : w.cell? a = some v) : a.block < w.heap.size := by
 rcases Nat.lt_or_ge a.block w.heap.size with h1 | h1
 ·exact h1
 ·simp [World.cell?, Array.getElem?_eq_none h1] at h
theorem nt_of_ints {H : Type} {enc : TypeId × Value → H} {W : World} {base : Nat} {spare : Nat → Bool} {held : Bool} {t : TypeId} {a : Option Addr} {len cap : Nat} {d : DataW H} {p : List MemPlace}
 (ht : Tryz.prog.underlying t = some (.slice 58)) (h : DataW.Trod enc Tryz.prog W base spare held t (.slice a len cap) d p) : ∃ xs : List Nat, xs.length = len ∧ Nt W a cap xs := by
 obtain ⟨fuel, hf⟩ := h
 rcases open_ints ht Tryz.underlying58 (by kernel_rfl) hf with ⟨hcs, _⟩ | ⟨x, l, c, zs, hcs, _, hl, hm, hz, _, hcell, hwz⟩
 ·simp [Value.cells] at hcs
  obtain ⟨rfl, rfl, rfl⟩ := hcs
  exact ⟨[], rfl, Nt.nil _ _ _ (by omega)⟩
 ·simp [Value.cells] at hcs
  obtain ⟨rfl, rfl, rfl⟩ := hcs
  unfold maxLen at hm
  have hzl : len ≤ zs.length := by
   rw [hz]; split <;> omega
  have hnum : ∀ k (hk : k < zs.length), 0 ≤ zs[k] ∧ zs[k] < 4294967296 := by
   intro k hk
   have := hwz _ (List.getElem_mem hk)
   simp [Lit.wf, IntKind.min, IntKind.max, IntKind.signed, IntKind.bits] at this
   omega
  have hlen : ((zs.take len).map Int.toNat).length = len := by simp; omega
  refine ⟨(zs.take len).map Int.toNat, hlen, ⟨by rw [hlen]; exact hl, hm, ?_, ?_⟩⟩
  ·intro y hy
   obtain ⟨z, hz1, rfl⟩ := List.mem_map.1 hy
   obtain ⟨k, hk, rfl⟩ := List.getElem_of_mem (List.mem_of_mem_take hz1)
   have := hnum k hk
   omega
  ·intro hn
   rw [hlen] at hn
   have h0 := hcell 0 (by omega)
   refine ⟨x, rfl, ?_, fun k hk => ?_⟩
   ·have := lt_of_cell h0
    rwa [block_of_add] at this
   ·rw [hlen] at hk
    rw [hcell k (by omega)]
    have h1 := hnum k (by omega)
    simp only [List.getElem_map, List.getElem_take]
    rw [List.getD_eq_getElem?_getD, List.getElem?_eq_getElem (by omega), Option.getD_some]
    simp only [lmv]
    congr 2
    omega
set_option maxRecDepth 100000
open Go.Joins Go.ChangeShapes Go.WideShapes Go.ChangeAt Go.RowKit
theorem nat_of_trod {H : Type} {enc : TypeId × Value → H} {W : World} {base : Nat} {spare : Nat → Bool} {held : Bool} {t : TypeId} {v : Value} {n : Nat} {y : DataW H × List MemPlace}
 (ht : Tryz.prog.underlying t = some (.slice 58)) (h : DataW.trod enc Tryz.prog W base spare held n t [v] = some y) : ∃ (A : Option Addr) (c : Nat) (xs : List Nat), v = .slice A xs.length c ∧ Nt W A c xs := by
 have hcs : ∃ A len c, v = .slice A len c := by
  rcases open_ints ht Tryz.underlying58 (by kernel_rfl) h with ⟨hcs, _⟩ | ⟨x, l, c, zs, hcs, _⟩
  ·simp only [List.cons.injEq, and_true] at hcs; exact ⟨_, _, _, hcs⟩
  ·simp only [List.cons.injEq, and_true] at hcs; exact ⟨_, _, _, hcs⟩
 obtain ⟨A, len, c, rfl⟩ := hcs
 obtain ⟨y1, y2⟩ := y
 have h2 : DataW.Trod enc Tryz.prog W base spare held t (.slice A len c) y1 y2 := ⟨n, by simpa [Value.cells] using h⟩
 obtain ⟨xs, rfl, hx⟩ := nt_of_ints ht h2
 exact ⟨A, c, xs, rfl, hx⟩
set_option maxRecDepth 100000
open Go.Joins Go.ChangeShapes Go.WideShapes Go.ChangeAt Go.RowKit Go.Deep
theorem add_one_ (a : Addr) (j : Nat) : a.add (j + 1) = ⟨a.block, a.off + (j + 1), none⟩ := by unfold Addr.add; simp
set_option maxRecDepth 100000
open Go.Joins Go.ChangeShapes Go.WideShapes Go.ChangeAt Go.RowKit Go.Deep
def Wt {H : Type} (t : TypeId) (d : DataW H) : Prop := ∀ n ∈ d.weights Tryz.prog t, n ≤ 140737488355328
section
variable {H : Type} {enc : TypeId × Value → H} {W : World} {base : Nat} {spare : Nat → Bool} {held : Bool}
theorem mem_all {e : TypeId} {d : DataW H} {l : List (DataW H)} (h : d ∈ l) : ∀ n ∈ d.weights Tryz.prog e, n ∈ DataW.weightsAll Tryz.prog e l := by
 induction l with
 | nil => cases h
 | cons a l ih =>
   intro n hn
   simp only [DataW.weightsAll, List.mem_append]
   rcases List.mem_cons.1 h with rfl | h
   ·exact Or.inl hn
   ·exact Or.inr (ih h n hn)
theorem wt_slice {t e : TypeId} {l r : List (DataW H)} (hu : Tryz.prog.underlying t = some (.slice e)) (hb : 1 ≤ Tryz.prog.bytesOf e) (h : Wt t (.slice l r)) : l.length + r.length ≤ 140737488355328 ∧ ∀ d ∈ l, Wt e d := by
 have hw : (DataW.slice l r : DataW H).weights Tryz.prog t = (l.length + r.length) * Tryz.prog.bytesOf e :: (DataW.weightsAll Tryz.prog e l ++ DataW.weightsAll Tryz.prog e r) := by
  simp only [DataW.weights, hu]
 refine ⟨?_, fun d hd n hn => h n ?_⟩
 ·have := h _ (by rw [hw]; exact List.mem_cons_self ..)
  exact Nat.le_trans (Nat.le_mul_of_pos_right _ hb) this
 ·rw [hw]
  exact List.mem_cons_of_mem _ (List.mem_append_left _ (mem_all hd n hn))
theorem wt_agg {t u : TypeId} {fs : Array Field} {l : List (DataW H)} {i : Nat} {d : DataW H} (hu : Tryz.prog.underlying t = some (.struct fs)) (h : Wt t (.agg l)) (hf : (fs.toList.map (·.type))[i]? = some u) (hd : l[i]? = some d) : Wt u d := fun n hn => h n (by
 simp only [DataW.weights, hu]
 exact DataW.weights_mem_each hf hd n hn)
theorem bytes32 : 1 ≤ Tryz.prog.bytesOf 58 := by
 have : Tryz.prog.bytesOf 58 = 4 := by kernel_rfl
 omega
theorem bytesF : 1 ≤ Tryz.prog.bytesOf 29 := by
 have : Tryz.prog.bytesOf 29 = 56 := by kernel_rfl
 omega
theorem bytesS : 1 ≤ Tryz.prog.bytesOf 22 := by
 have : Tryz.prog.bytesOf 22 = 24 := by kernel_rfl
 omega
theorem nat_of_wt {t : TypeId} {v : Value} {n : Nat} {y : DataW H × List MemPlace}
 (ht : Tryz.prog.underlying t = some (.slice 58)) (h : DataW.trod enc Tryz.prog W base spare held n t [v] = some y) : ∃ (A : Option Addr) (c : Nat) (xs : List Nat), v = .slice A xs.length c ∧ Nt W A c xs ∧ (Wt t y.1 → xs.length ≤ 140737488355328) := by
 obtain ⟨A, c, xs, rfl, hx⟩ := nat_of_trod ht h
 refine ⟨A, c, xs, rfl, hx, fun hw => ?_⟩
 rcases open_ints ht Tryz.underlying58 (by kernel_rfl) h with ⟨hcs, _⟩ | ⟨x, l, c', zs, hcs, _, hl, _, hz, hd, _, _⟩
 ·simp only [List.cons.injEq, and_true, Value.slice.injEq] at hcs
  omega
 ·simp only [List.cons.injEq, and_true, Value.slice.injEq] at hcs
  rw [hd] at hw
  have := (wt_slice ht bytes32 hw).1
  simp only [lits, List.length_map, List.length_take, List.length_drop] at this
  have : l ≤ zs.length := by rw [hz]; split <;> omega
  omega
theorem fx_of_wt {c0 c1 c2 : Value} {n : Nat} {y : DataW H × List MemPlace}
 (h : DataW.trod enc Tryz.prog W base spare held n 29 [c0, c1, c2] = some y) : ∃ x : Fx, c0 = .bool x.b ∧ c1 = .slice x.A x.xs.length x.c ∧ c2 = .slice x.D x.ys.length x.d ∧ x.ok W ∧ (Wt 29 y.1 → x.xs.length ≤ 140737488355328 ∧ x.ys.length ≤ 140737488355328) := by
 obtain ⟨ys, m, _, hy, _, hlen, hg⟩ := DataW.trod_struct Tryz.underlying29 h
 have k4 : Tryz.prog.cellsOf 4 = 1 := by kernel_rfl
 have k23 : Tryz.prog.cellsOf 27 = 1 := by kernel_rfl
 have h0 : DataW.trod enc Tryz.prog W base spare held m 4 [c0] = ys[0]? := by simpa [k4] using hg 0 _ rfl
 have h1 : DataW.trod enc Tryz.prog W base spare held m 27 [c1] = ys[1]? := by simpa [k23] using hg 1 _ rfl
 have h2 : DataW.trod enc Tryz.prog W base spare held m 27 [c2] = ys[2]? := by simpa [k23] using hg 2 _ rfl
 match ys, hlen with
 | [y0, y1, y2], _ =>
   obtain ⟨b, hb, _⟩ := DataW.trod_bool Tryz.underlying4 h0
   simp only [List.cons.injEq, and_true] at hb
   subst hb
   obtain ⟨A, c, xs, rfl, hA, wA⟩ := nat_of_wt Tryz.underlying27 h1
   obtain ⟨D, e, zs, rfl, hD, wD⟩ := nat_of_wt Tryz.underlying27 h2
   refine ⟨⟨b, A, c, xs, D, e, zs⟩, rfl, rfl, rfl, ⟨hA, hD⟩, fun hw => ?_⟩
   rw [hy] at hw
   exact ⟨wA (wt_agg (i := 1) Tryz.underlying29 hw rfl rfl), wD (wt_agg (i := 2) Tryz.underlying29 hw rfl rfl)⟩
theorem add_zero_ (b : Addr) : b.add 0 = b := by unfold Addr.add; simp
theorem sl_of_wt {v : Value} {n : Nat} {y : DataW H × List MemPlace} (h : DataW.trod enc Tryz.prog W base spare held n 22 [v] = some y) : ∃ s : Sl, v = s.val ∧ s.ok W ∧ (Wt 22 y.1 → Rb s.vs) := by
 rcases open_slice Tryz.underlying22 h with ⟨hcs, _⟩ | ⟨x, l, c, m, n, D, Pl, hcs, _, hl, hm, hmm, hd, hi⟩
 ·simp only [List.cons.injEq, and_true] at hcs
  subst hcs
  exact ⟨⟨none, 0, []⟩, rfl, ⟨fun h => absurd h (Nat.not_lt_zero _), fun v hv => absurd hv List.not_mem_nil, Nat.le_refl _⟩, fun _ => ⟨Nat.zero_le _, fun v hv => absurd hv List.not_mem_nil⟩⟩
 ·simp only [List.cons.injEq, and_true] at hcs
  subst hcs
  have hC : Tryz.prog.cellsOf 29 = 3 := by kernel_rfl
  have hlm : l ≤ m := by rw [hmm]; split <;> omega
  have hex : ∀ i, ∃ x' : Fx, i < l → (W.cell? (x.add (i * 3)) = some (.bool x'.b) ∧ W.cell? ⟨(x.add (i * 3)).block, (x.add (i * 3)).off + 1, none⟩ = some (.slice x'.A x'.xs.length x'.c) ∧ W.cell? ⟨(x.add (i * 3)).block, (x.add (i * 3)).off + 2, none⟩ = some (.slice x'.D x'.ys.length x'.d)) ∧ x'.ok W ∧ (Wt 29 (D i) → x'.xs.length ≤ 140737488355328 ∧ x'.ys.length ≤ 140737488355328) := by
   intro i
   by_cases hil : i < l
   ·obtain ⟨cs', hc, ht⟩ := hi i (by omega)
    rw [hC] at hc
    obtain ⟨_, hcl, hat⟩ := World.cells?_some hc
    match cs', hcl with
    | [c0, c1, c2], _ =>
      obtain ⟨x', rfl, rfl, rfl, hok, hw⟩ := fx_of_wt ht
      refine ⟨x', fun _ => ⟨⟨?_, ?_, ?_⟩, hok, hw⟩⟩
      ·have h0 := hat 0 (by omega)
       rw [add_zero_] at h0
       exact h0
      ·have h1 := hat 1 (by omega)
       rw [add_one_ _ 0] at h1
       exact h1
      ·have h2 := hat 2 (by omega)
       rw [add_one_ _ 1] at h2
       exact h2
   ·exact ⟨Fx.nil, fun h => absurd h hil⟩
  obtain ⟨F, hF⟩ := Classical.axiomOfChoice hex
  refine ⟨⟨some x, c, (List.range l).map F⟩, by show _ = Value.slice _ ((List.range l).map F).length c; rw [List.length_map, List.length_range], ⟨?_, ?_, by simpa using hl⟩, fun hw => ?_⟩
  ·intro hn
   have hn' : 0 < l := by simpa using hn
   have hb := lt_of_cell (hF 0 hn').1.1
   rw [block_of_add] at hb
   refine ⟨x, rfl, hb, fun k hk => ?_⟩
   have hk' : k < l := by simpa using hk
   have hs := (hF k hk').1
   simp only [List.getElem_map, List.getElem_range]
   exact hs
  ·intro v hv
   obtain ⟨i, hi', rfl⟩ := List.mem_map.1 hv
   exact (hF i (List.mem_range.1 hi')).2.1
  ·rw [hd] at hw
   obtain ⟨w1, w2⟩ := wt_slice Tryz.underlying22 bytesF hw
   refine ⟨by simp at w1 ⊢; omega, fun v hv => ?_⟩
   obtain ⟨i, hi', rfl⟩ := List.mem_map.1 hv
   exact (hF i (List.mem_range.1 hi')).2.2 (w2 _ (List.mem_map.2 ⟨i, hi', rfl⟩))
theorem sls_of_wt {v : Value} {n : Nat} {y : DataW H × List MemPlace} (h : DataW.trod enc Tryz.prog W base spare held n 23 [v] = some y) : ∃ (A : Option Addr) (c : Nat) (ls : List Sl), v = .slice A ls.length c ∧ Rd Sl.val W A ls ∧ (∀ s ∈ ls, s.ok W) ∧ ls.length ≤ c ∧ (Wt 23 y.1 → ls.length ≤ 140737488355328 ∧ ∀ s ∈ ls, Rb s.vs) := by
 rcases open_slice Tryz.underlying23 h with ⟨hcs, _⟩ | ⟨x, l, c, m, n, D, Pl, hcs, _, hl, hm, hmm, hd, hi⟩
 ·simp only [List.cons.injEq, and_true] at hcs
  subst hcs
  exact ⟨none, 0, [], rfl, fun h => absurd h (Nat.not_lt_zero _), fun v hv => absurd hv List.not_mem_nil, Nat.le_refl _, fun _ => ⟨Nat.zero_le _, fun v hv => absurd hv List.not_mem_nil⟩⟩
 ·simp only [List.cons.injEq, and_true] at hcs
  subst hcs
  have hC : Tryz.prog.cellsOf 22 = 1 := by kernel_rfl
  have hlm : l ≤ m := by rw [hmm]; split <;> omega
  have hex : ∀ i, ∃ s : Sl, i < l → W.cell? (x.add i) = some s.val ∧ s.ok W ∧ (Wt 22 (D i) → Rb s.vs) := by
   intro i
   by_cases hil : i < l
   ·obtain ⟨cs', hc, ht⟩ := hi i (by omega)
    rw [hC, Nat.mul_one] at hc
    obtain ⟨_, hcl, hat⟩ := World.cells?_some hc
    match cs', hcl with
    | [c0], _ =>
      obtain ⟨s, rfl, hok, hw⟩ := sl_of_wt ht
      refine ⟨s, fun _ => ⟨?_, hok, hw⟩⟩
      have h0 := hat 0 (by omega)
      rw [add_zero_] at h0
      exact h0
   ·exact ⟨⟨none, 0, []⟩, fun h => absurd h hil⟩
  obtain ⟨F, hF⟩ := Classical.axiomOfChoice hex
  refine ⟨some x, c, (List.range l).map F, by simp, ?_, ?_, by simpa using hl, fun hw => ?_⟩
  ·intro hn
   have hn' : 0 < l := by simpa using hn
   have hb := lt_of_cell (hF 0 hn').1
   rw [block_of_add] at hb
   refine ⟨x, rfl, hb, fun k hk => ?_⟩
   have hk' : k < l := by simpa using hk
   simp only [List.getElem_map, List.getElem_range]
   exact (hF k hk').1
  ·intro v hv
   obtain ⟨i, hi', rfl⟩ := List.mem_map.1 hv
   exact (hF i (List.mem_range.1 hi')).2.1
  ·rw [hd] at hw
   obtain ⟨w1, w2⟩ := wt_slice Tryz.underlying23 bytesS hw
   refine ⟨by simp at w1 ⊢; omega, fun v hv => ?_⟩
   obtain ⟨i, hi', rfl⟩ := List.mem_map.1 hv
   exact (hF i (List.mem_range.1 hi')).2.2 (w2 _ (List.mem_map.2 ⟨i, hi', rfl⟩))
theorem pg_of_arg {b0 : Nat} {r : Reach} {v : Value} {d : DataW H} {p : List MemPlace} (hv : Value.okWide Tryz.prog W r b0 25 v) (h : DataW.Trod enc Tryz.prog W base spare held 25 v d p) :
 ∃ q : Pg, v = q.val ∧ q.ok W ∧ (Wt 25 d → q.rb) := by
 obtain ⟨c0, c1, c2, y0, y1, y2, m, rfl, rfl, rfl, hy0, hy1, hy2⟩ := open_agg3 Tryz.underlying25 (by kernel_rfl) (by kernel_rfl) hv h
 obtain ⟨s0, rfl, ok0, w0⟩ := sl_of_wt hy0
 obtain ⟨A, c, ls, rfl, rd, oks, hc, w1⟩ := sls_of_wt hy1
 obtain ⟨s2, rfl, ok2, w2⟩ := sl_of_wt hy2
 refine ⟨⟨s0, A, c, ls, s2⟩, rfl, ⟨ok0, ok2, rd, oks, hc⟩, fun hw => ?_⟩
 have k0 := w0 (wt_agg (i := 0) Tryz.underlying25 hw rfl rfl)
 have k1 := w1 (wt_agg (i := 1) Tryz.underlying25 hw rfl rfl)
 have k2 := w2 (wt_agg (i := 2) Tryz.underlying25 hw rfl rfl)
 exact ⟨k0, k2, k1.2, k1.1⟩
end
end Go.Proofs.YtkpfbekmaafehaaGreat
