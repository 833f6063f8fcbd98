/- The walk of Flows. The flows that the laws make may be. Arguments that came in, opened to what the walks ask. Whole numbers and transfers that came in as arguments, opened to what the walks ask. -/
import Derived.Test.YthdfflbhogfejaaGfA
import Derived.Test.YthdfflbhogfejaaGfC
import Derived.Test.YthdfflbhogfejaaRows
import Derived.Test.YthdfflbhogfejaaBase
import Derived.ProofKit
import Derived.OpenShut
import Derived.ShutString
import Derived.ChangeOld
import Derived.Below
import Derived.Lib.SmallJoins
import Derived.Deep.Slices
import Derived.Deep.Fields
namespace Go.Proofs.Ythdfflbhogfejaa
open Go.RowKit

/-- the links of a mask -/
def linksM (m : Nat) (n : Nat) : List Int := ((List.range n).filter fun k => decide (m / 2 ^ k % 2 = 1)).map fun k : Nat => (k : Int)
set_option maxRecDepth 100000 in
theorem linksM_succ (m n : Nat) : linksM m (n + 1) = linksM m n ++ if m / 2 ^ n % 2 = 1 then [(n : Int)] else [] := by
  rw [linksM, linksM, List.range_succ, List.filter_append, List.map_append]
  congr 1
  by_cases h : m / 2 ^ n % 2 = 1 <;> simp [h]
set_option maxRecDepth 100000 in
theorem linksM_len (m n : Nat) : (linksM m n).length ≤ n := by
  rw [linksM, List.length_map]
  exact Nat.le_trans (List.length_filter_le _ _) (by simp)
set_option maxRecDepth 100000 in
theorem linksM_mem {m n : Nat} {e : Int} (h : e ∈ linksM m n) : 0 ≤ e ∧ e < n := by
  obtain ⟨k, hk, rfl⟩ := List.mem_map.1 h
  have := List.mem_range.1 (List.mem_filter.1 hk).1
  omega
set_option maxRecDepth 100000 in
theorem and_one : ∀ a : Nat, a < 64 → bits .and .i64 (a : Int) 1 = ((a % 2 : Nat) : Int) := by decide +kernel
set_option maxRecDepth 100000 in
theorem mask_bit (m k : Nat) (hm : m < 64) : bits .and .i64 ((m : Int) / 2 ^ k) 1 = ((m / 2 ^ k % 2 : Nat) : Int) := by
  have e : ((m : Int) / 2 ^ k) = ((m / 2 ^ k : Nat) : Int) := by rw [Int.natCast_ediv, Int.natCast_pow]; rfl
  rw [e]
  exact and_one _ (Nat.lt_of_le_of_lt (Nat.div_le_self _ _) hm)
set_option maxRecDepth 100000 in
theorem offB_grown {w w' : World} {A : Option Addr} {c : Nat} {xs : List Int} {row : Option Nat} (h : Is w A c xs) (hg : w.grownBy w' row) (hne : ∀ a, A = some a → some a.block ≠ row) : Is w' A c xs := h.grown hg (fun _ => hne)
/-- one of the flows that a law makes -/
def flowM (l : List Int) (n : Nat) (j : Nat) : Fl := (linksM (withinM (l.getD (2 * j) 0) 64).toNat n, withinM (l.getD (2 * j + 1) 0) 24)
/-- how many flows a law makes -/
def cntF (l : List Int) : Nat := min 7 (l.length / 2)
def flowsM (l : List Int) (n : Nat) : List Fl := (List.range (cntF l)).map (flowM l n)
/-- the links of the flows do not lie in the row's block -/
def apartW (A : Option Addr) (fs : List Fm) : Prop := ∀ x ∈ fs, apart2 x.A A
set_option maxRecDepth 100000 in
set_option maxHeartbeats 4000000 in
theorem flowsL_walk (w : World) (A : Option Addr) (n c : Nat) (xs : List Int) (L : Nat) (hA : Is w A c xs) (hn : n = xs.length) (hL : L ≤ 20) :
    Calls Try.prog 23 #[.slice A n c, .int .i64 L] w fun e w' => ∃ A' c' fs, e = .returned (.slice A' fs.length c') ∧ fs.map Fm.fl = flowsM xs L ∧ Ws w' A' c' fs ∧ Below w.heap.size w w' := by
  have HA := Lib.hid hA; clear hA
  subst hn
  obtain ⟨i1, hi, hi0, hi1, hi2⟩ := info_parts int_info
  have hla := HA.out.len
  have hla2 := HA.out.cap
  have hla3 := HA.out.max
  go_enter Try.func23, Try.ntmps23
  go_wp2_with fail
  go_loopw [5, 6] (fun s i wr => ∃ (j i2 : Nat) (A' : Option Addr) (c' : Nat) (fs : List Fm), j ≤ cntF xs ∧ i2 = 2 * j ∧ i = .int .i64 (i2 : Int) ∧ s = .slice A' fs.length c' ∧ fs.length = j ∧ fs.map Fm.fl = (List.range j).map (flowM xs L) ∧ Fw wr w.heap.size A' c' fs ∧ (∀ x ∈ fs, x.ok wr) ∧ apartW A' fs ∧ (∀ x ∈ fs, ∀ b, x.A = some b → b.block < wr.heap.size) ∧ Below w.heap.size w wr) (fun _ i _ => xs.length + 2 - (intOf i).toNat)
  case atStart => exact ⟨0, 0, none, 0, [], by omega, rfl, rfl, rfl, rfl, rfl, ⟨rfl, .inl ⟨rfl, rfl⟩⟩, by simp, (by intro x hx; cases hx), (by intro x hx; cases hx), Below.refl _ _⟩
  case round =>
    obtain ⟨j, i2, A', c', fs, hj, hi2', rfl, rfl, hfl, hfm, hF, hO, hap, hblt, bw⟩ := hrel
    have HF := Lib.hid hF
    have HO := Lib.hid hO
    have HAP := Lib.hid hap
    have HBLT := Lib.hid hblt
    have HFM := Lib.hid hfm
    have HFL := Lib.hid hfl
    have hj7 : j ≤ 7 := by unfold cntF at hj; omega
    have hfl7 : fs.length ≤ 7 := by omega
    clear hF hO hap hfm hfl hblt
    have HI2 := Lib.hid hi2'
    by_cases hlt : i2 + 1 < xs.length
    · by_cases h14 : i2 < 14
      · have hj7' : j < 7 := by omega
        clear hi2'
        obtain ⟨ad, rfl, _, hc0⟩ := (HA.out.below bw).at i2 (by omega)
        obtain ⟨ad2, had, _, hc1⟩ := (HA.out.below bw).at (i2 + 1) hlt
        injection had with had
        subst had
        rw [add_at1] at hc1
        have wf0 := Lib.hid (HA.out.wf _ (List.getElem_mem (show i2 < xs.length by omega)))
        have wf1 := Lib.hid (HA.out.wf _ (List.getElem_mem hlt))
        have HFM1 : Hid (flowM xs L j = (linksM (withinM xs[i2] 64).toNat L, withinM xs[i2 + 1] 24)) := Lib.hid (by
          rw [flowM, ← HI2.out, getD_lt _ _ _ hlt, getD_lt _ _ _ (show i2 < xs.length by omega)])
        go_wp2_with fail
        refine (within_any wr _ _ wf1.out (by omega)).mono ?_
        rintro e wn ⟨rfl, rfl⟩
        go_upto_region 6 with fail
        obtain ⟨lm, hlm⟩ : ∃ lm, withinM xs[i2 + 1] 24 = lm := ⟨_, rfl⟩
        rw [hlm] at HFM1 ⊢
        obtain ⟨bk, bb, zb⟩ := bk2_alloc wr (.slice none 0 0) (.int .i64 lm) 48
        have hc0' := (bb.cell (p := ad.add i2) (World.block_lt_of_cell? wr _ hc0)).trans hc0
        have hBB := Lib.hid bb
        have hlmb := withinM_bd xs[i2 + 1] (show (1 : Int) ≤ 24 by omega)
        rw [hlm] at hlmb
        have HLB := Lib.hid hlmb
        clear hc0 hc1 hlm hlmb bb
        generalize (wr.alloc (.cells #[.slice none 0 0, .int .i64 lm] 48)) = w0 at bk hBB hc0' zb ⊢
        obtain ⟨gF, hgF⟩ : ∃ gF, wr.heap.size = gF := ⟨_, rfl⟩
        have HGF := Lib.hid hgF
        rw [hgF] at bk zb ⊢
        clear hgF
        go_wp2_with fail
        refine (within_any w0 _ _ wf0.out (by omega)).mono ?_
        rintro e wn ⟨rfl, rfl⟩
        have hmb := withinM_bd xs[i2] (show (1 : Int) ≤ 64 by omega)
        obtain ⟨m, hm⟩ : ∃ m : Nat, withinM xs[i2] 64 = (m : Int) := ⟨(withinM xs[i2] 64).toNat, by omega⟩
        rw [hm] at HFM1 hmb ⊢
        rw [Int.toNat_natCast] at HFM1
        have hm64 : m < 64 := by omega
        have hbF : Below gF wr w0 := by rw [← HGF.out]; exact hBB.out
        have G0 : Gr iv 3 w0 (gF + 1) none 0 (linksM m 0) := Gr.nil _ _
        clear hmb hm hc0'
        go_wp2_with fail
        go_loopw [9] (fun kv wz => ∃ (k : Nat) (AK : Option Addr) (cK : Nat), k ≤ L ∧ kv = .int .i64 k ∧ Bk2 wz gF (.slice AK (linksM m k).length cK) (.int .i64 lm) ∧ Gr iv 3 wz (gF + 1) AK cK (linksM m k) ∧ Below gF wr w0 ∧ Below gF w0 wz ∧ gF + 1 ≤ wz.heap.size) (fun kv _ => L - (intOf kv).toNat)
        case atStart => exact ⟨0, none, 0, by omega, rfl, bk, G0, hbF, Below.refl _ _, by omega⟩
        case round =>
          obtain ⟨k, AK, cK, hk, rfl, bk, hK, hb1, hb2, hsz⟩ := hrel
          have HK := Lib.hid hK
          have hkl := linksM_len m k
          have b0 := bk.c0
          have f0 := bk.f0
          by_cases hkL : k < L
          · have hmb := mask_bit m k hm64
            have hks := linksM_succ m k
            by_cases hbit : m / 2 ^ k % 2 = 1
            · have hb' : (bits .and .i64 ((m : Int) / 2 ^ k) 1 == 1) = true := by rw [hmb, hbit]; rfl
              rw [if_pos hbit] at hks
              have HKS := Lib.hid hks
              have bl := (Below.refl wr.heap.size wr).alloc (Nat.le_refl _) (.cells #[.int .i64 (k : Int)] 3)
              have zl := size_alloc wr (.cells #[.int .i64 (k : Int)] 3)
              have hgl := HK.out.below bl
              have hrow := int_one wr (k : Int) 3
              have bkl := bk.below bl
              have hoff : ∀ a, AK = some a → gF + 1 ≤ a.block := fun a e => (HK.out.form.2.2 a e).1
              have HOF : Hid (some gF ≠ AK.map (·.block)) := Lib.hid (by
                cases AK with
                | none => simp
                | some a => have := hoff a rfl; simp; omega)
              clear hmb hks hbit
              go_upto_region 9 with (at_builtin; refine wpList_append_rd _ (mk := iv) (fun _ => rfl) rfl _ _ 22 rfl 3 i1 (iv 0) 8 Try.underlying22 hi hi0 hi1 hi2 rfl (B := gF + 1) rfl rfl hgl (some ⟨wr.heap.size, 0, none⟩) 1 1 [(k : Int)] rfl rfl hrow (by simp only [maxLen]; omega) (by omega) (by omega) ?_; intro AK2 cK2 wq hgq hgrq hbq hatq; have bkq := bkl.grown hgrq HOF.out; have q0 := bkq.c0; have qf := bkq.f0)
              have HN : Hid (Bk2 (wq.setCell ⟨gF, 0, none⟩ (.slice AK2 ((linksM m k).length + 1) cK2)) gF (.slice AK2 (linksM m (k + 1)).length cK2) (.int .i64 lm) ∧ Gr iv 3 (wq.setCell ⟨gF, 0, none⟩ (.slice AK2 ((linksM m k).length + 1) cK2)) (gF + 1) AK2 cK2 (linksM m (k + 1)) ∧ Below gF w0 (wq.setCell ⟨gF, 0, none⟩ (.slice AK2 ((linksM m k).length + 1) cK2)) ∧ gF + 1 ≤ (wq.setCell ⟨gF, 0, none⟩ (.slice AK2 ((linksM m k).length + 1) cK2)).heap.size) := Lib.hid (by
                rw [HKS.out, List.length_append]
                refine ⟨bkq.put0 _, hgq.far (fun a e => by have := (hgq.form.2.2 a e).1; show a.block ≠ gF; omega) _, ?_, ?_⟩
                · exact ((below_on hb2 bl (by omega)).trans (hbq.mono (by omega))).setCell (p := ⟨gF, 0, none⟩) (Nat.le_refl _) _
                · have := hbq.size
                  simp only [World.setCell] at *
                  simp; omega)
              clear hgl hrow bkl bl zl hgq hgrq hbq hatq bkq q0 qf bk b0 f0 HK
              go_wp2_with fail
              go_roundw
              case rel => exact ⟨k + 1, AK2, cK2, by omega, by go_num, HN.out.1, HN.out.2.1, hb1, HN.out.2.2.1, HN.out.2.2.2⟩
              case measure => simp [intOf]; omega
            · have hb' : (bits .and .i64 ((m : Int) / 2 ^ k) 1 == 1) = false := by
                rw [hmb]; exact beq_eq_false_iff_ne.2 (by omega)
              rw [if_neg hbit, List.append_nil] at hks
              have HKS := Lib.hid hks
              clear hmb hks hbit
              go_wp2_with fail
              go_roundw
              case rel => exact ⟨k + 1, AK, cK, by omega, by go_num, by rw [HKS.out]; exact bk, by rw [HKS.out]; exact HK.out, hb1, hb2, hsz⟩
              case measure => simp [intOf]; omega
          · obtain rfl : k = L := by omega
            obtain ⟨x, hx⟩ : ∃ x : Fm, x = ⟨AK, cK, linksM m k, lm⟩ := ⟨_, rfl⟩
            have hbr : Below gF _ wr := hb1.trans hb2
            rw [← HGF.out] at hbr
            have bl := (Below.refl wr.heap.size wr).alloc (Nat.le_refl _) (.cells #[.slice AK (linksM m k).length cK, .int .i64 lm] 48)
            have zl := size_alloc wr (.cells #[.slice AK (linksM m k).length cK, .int .i64 lm] 48)
            have hrow := rdw_one wr ⟨AK, cK, linksM m k, lm⟩
            have hf2 := (HF.out.below hbr).below bl
            have bw2 := below_on (below_on bw hbr bw.size) bl (Nat.le_trans bw.size hbr.size)
            have k0 := bk.c0
            have k1 := bk.c1
            have hA' : ∀ a, A' = some a → a.block < gF := fun a e => by rw [← HGF.out]; exact (HF.out.form.2.2 a e).2
            have hAK : ∀ a, AK = some a → gF + 1 ≤ a.block ∧ a.block < wr.heap.size := fun a e => HK.out.form.2.2 a e
            clear b0 f0
            go_wp2_with (at_builtin; refine wpList_append_w2 _ rfl _ _ rfl rfl (B := w.heap.size) (xs := fs) rfl rfl hf2 ⟨wr.heap.size, 0, none⟩ _ ⟨AK, cK, linksM m k, lm⟩ rfl hrow (by omega) bw2.size ?_; intro A2 c2 wz hfz hbz hgz hatz)
            go_roundw
            case rel =>
              refine ⟨j + 1, i2 + 2, A2, c2, fs ++ [⟨AK, cK, linksM m k, lm⟩], ?_, by have := HI2.out; omega, by go_num, by simp, by simp [HFL.out], ?_, hfz, ?_, ?_, ?_, bw2.trans hbz⟩
              · have := HI2.out; unfold cntF; omega
              · rw [List.map_append, HFM.out, List.range_succ, List.map_append]
                simp only [List.map_cons, List.map_nil]
                rw [HFM1.out]
              · intro y hy
                rcases List.mem_append.1 hy with hy | hy
                · have ho := ((HO.out y hy).below hbr).below bl
                  exact ⟨ho.is.grown hgz (fun _ => (HAP.out y hy).row), ho.wf⟩
                · rw [List.mem_singleton] at hy
                  subst hy
                  refine ⟨((HK.out.below bl).is (fun v hv => by have := linksM_mem hv; omega)).grown hgz (fun _ a e => ?_), by have := HLB.out; show (-9223372036854775808 : Int) ≤ lm ∧ lm ≤ _; omega⟩
                  cases hA2 : A' with
                  | none => simp
                  | some b =>
                    have h1 := hA' b hA2
                    have h2 := (hAK a e).1
                    simp; omega
              · intro y hy
                rcases List.mem_append.1 hy with hy | hy
                · exact ((HAP.out y hy).symm.app (fun b e => by have := HBLT.out y hy b e; have := hbr.size; rw [zl]; omega) hatz).symm
                · rw [List.mem_singleton] at hy
                  subst hy
                  have hp : apart2 A' AK := fun a b e1 e2 => by
                    have h1 := hA' a e1
                    have h2 := (hAK b e2).1
                    omega
                  exact (hp.app (fun b e => by have := (hAK b e).2; rw [zl]; omega) hatz).symm
              · intro y hy b e
                have hsz := hgz.size
                rcases List.mem_append.1 hy with hy | hy
                · have := HBLT.out y hy b e; have := hbr.size; rw [zl] at hsz; omega
                · rw [List.mem_singleton] at hy
                  subst hy
                  have := (hAK b e).2; rw [zl] at hsz; omega
            case measure => simp [intOf]; omega
      · have t2 : decide ((i2 : Int) < 14) = false := decide_eq_false (by omega)
        have HE : Hid (j = cntF xs) := Lib.hid (by unfold cntF; omega)
        clear hi2'
        go_wp2_with fail
        go_ret
        exact ⟨A', c', fs, rfl, by rw [HFM.out, HE.out]; rfl, HF.out.ws HO.out, bw⟩
    · have HE : Hid (j = cntF xs) := Lib.hid (by unfold cntF at *; omega)
      have hib : i2 ≤ 14 := by omega
      have t1 : decide ((i2 : Int) + 1 < (xs.length : Int)) = false := decide_eq_false (by omega)
      clear hi2'
      go_wp2_with fail
      go_ret
      exact ⟨A', c', fs, rfl, by rw [HFM.out, HE.out]; rfl, HF.out.ws HO.out, bw⟩
end Go.Proofs.Ythdfflbhogfejaa
namespace Go.Proofs.Ythdfflbhogfejaa
open Go.RowKit

set_option maxRecDepth 100000 in
theorem linksM_ok (m n : Nat) : LinksOk n (linksM m n) := by
  have hp : (linksM m n).Pairwise (· < ·) := by
    unfold linksM
    rw [List.pairwise_map]
    exact ((List.pairwise_lt_range).filter _).imp (fun h => by omega)
  rw [List.pairwise_iff_getElem] at hp
  intro i hi
  have := linksM_mem (List.getElem_mem hi)
  exact ⟨this.1, this.2, fun h0 => hp (i - 1) i (by omega) hi (by omega)⟩
set_option maxRecDepth 100000 in
theorem flowsM_len (xs : List Int) (n : Nat) : (flowsM xs n).length ≤ 7 := by simp [flowsM, cntF]; omega
set_option maxRecDepth 100000 in
theorem flowsM_valid (cs xs : List Int) : validFl (capsM cs) (flowsM xs (capsM cs).length) := by
  have hc := capsM_len cs
  have hl := flowsM_len xs (capsM cs).length
  refine ⟨by omega, by omega, fun c hc => by have := capsM_bd cs c hc; omega, fun f hf => ?_⟩
  obtain ⟨j, _, rfl⟩ := List.mem_map.1 hf
  have h1 := withinM_bd (xs.getD (2 * j + 1) 0) (show (1 : Int) ≤ 24 by omega)
  refine ⟨h1.1, ?_, linksM_ok _ _⟩
  show (flowM xs (capsM cs).length j).2 ≤ 4096
  simp only [flowM]; omega
end Go.Proofs.Ythdfflbhogfejaa
namespace Go.Proofs.Ythdfflbhogfejaa
open Go.ChangeShapes Go.WideShapes Go.ChangeAt Go.RowKit

set_option maxRecDepth 100000 in
theorem own_knob : ownKnob Try.prog.godebug = none := by kernel_rfl
set_option maxRecDepth 100000 in
theorem laid_out : laidOutB Try.prog = true := by kernel_rfl
set_option maxRecDepth 100000 in
theorem lt_of_cell {w : World} {a : Addr} {v : Value} (h : w.cell? a = some v) : a.block < w.heap.size := by
  rcases Nat.lt_or_ge a.block w.heap.size with h1 | h1
  · exact h1
  · simp [World.cell?, Array.getElem?_eq_none h1] at h
set_option maxRecDepth 100000 in
/-- a slice of 32-bit numbers that came in reads as limbs -/
theorem nt_of_ints {H : Type} {enc : TypeId × Value → H} {W : World} {base : Nat} {spare : Nat → Bool} {held : Bool} {t : TypeId} {a : Option Addr} {len cap : Nat} {d : DataW H} {p : List MemPlace}
    (ht : Try.prog.underlying t = some (.slice 77)) (h : DataW.Trod enc Try.prog W base spare held t (.slice a len cap) d p) : ∃ xs : List Nat, xs.length = len ∧ Nt W a cap xs := by
  obtain ⟨fuel, hf⟩ := h
  rcases open_ints ht Try.underlying77 (by kernel_rfl) hf with ⟨hcs, _⟩ | ⟨x, l, c, zs, hcs, _, hl, hm, hz, _, hcell, hwz⟩
  · simp [Value.cells] at hcs
    obtain ⟨rfl, rfl, rfl⟩ := hcs
    exact ⟨[], rfl, Nt.nil _ _ _ (by omega)⟩
  · simp [Value.cells] at hcs
    obtain ⟨rfl, rfl, rfl⟩ := hcs
    unfold maxLen at hm
    have hzl : len ≤ zs.length := by
      rw [hz]; split <;> omega
    have hnum : ∀ k (hk : k < zs.length), 0 ≤ zs[k] ∧ zs[k] < 4294967296 := by
      intro k hk
      have := hwz _ (List.getElem_mem hk)
      simp [Lit.wf, IntKind.min, IntKind.max, IntKind.signed, IntKind.bits] at this
      omega
    have hlen : ((zs.take len).map Int.toNat).length = len := by simp; omega
    refine ⟨(zs.take len).map Int.toNat, hlen, ⟨by rw [hlen]; exact hl, hm, ?_, ?_⟩⟩
    · intro y hy
      obtain ⟨z, hz1, rfl⟩ := List.mem_map.1 hy
      obtain ⟨k, hk, rfl⟩ := List.getElem_of_mem (List.mem_of_mem_take hz1)
      have := hnum k hk
      omega
    · intro hn
      rw [hlen] at hn
      have h0 := hcell 0 (by omega)
      refine ⟨x, rfl, ?_, fun k hk => ?_⟩
      · have := lt_of_cell h0
        rwa [block_of_add] at this
      · rw [hlen] at hk
        rw [hcell k (by omega)]
        have h1 := hnum k (by omega)
        simp only [List.getElem_map, List.getElem_take]
        rw [List.getD_eq_getElem?_getD, List.getElem?_eq_getElem (by omega), Option.getD_some]
        simp only [lmv]
        congr 2
        omega
end Go.Proofs.Ythdfflbhogfejaa
namespace Go.Proofs.Ythdfflbhogfejaa
open Go.Joins Go.ChangeShapes Go.WideShapes Go.ChangeAt Go.RowKit Go.Deep

set_option maxRecDepth 100000 in
theorem wf_i64 {z : Int} (h : (Lit.int .i64 z).wf = true) : -9223372036854775808 ≤ z ∧ z ≤ 9223372036854775807 := by
  simp [Lit.wf, IntKind.min, IntKind.max, IntKind.signed, IntKind.bits] at h
  omega
set_option maxRecDepth 100000 in
/-- a slice of whole numbers that came in -/
theorem is_of_ints {H : Type} {enc : TypeId × Value → H} {W : World} {base : Nat} {spare : Nat → Bool} {held : Bool} {t : TypeId} {a : Option Addr} {len cap : Nat} {d : DataW H} {p : List MemPlace}
    (ht : Try.prog.underlying t = some (.slice 3)) (h : DataW.Trod enc Try.prog W base spare held t (.slice a len cap) d p) : ∃ xs : List Int, xs.length = len ∧ Is W a cap xs := by
  obtain ⟨fuel, hf⟩ := h
  rcases open_ints ht Try.underlying3 (by kernel_rfl) hf with ⟨hcs, _⟩ | ⟨x, l, c, zs, hcs, _, hl, hm, hz, _, hcell, hwz⟩
  · simp [Value.cells] at hcs
    obtain ⟨rfl, rfl, rfl⟩ := hcs
    exact ⟨[], rfl, Is.nil _ _ _ (by omega)⟩
  · simp [Value.cells] at hcs
    obtain ⟨rfl, rfl, rfl⟩ := hcs
    unfold maxLen at hm
    have hzl : len ≤ zs.length := by
      rw [hz]; split <;> omega
    have hlen : (zs.take len).length = len := by simp; omega
    refine ⟨zs.take len, hlen, ⟨by rw [hlen]; exact hl, hm, ?_, ?_⟩⟩
    · intro hn
      rw [hlen] at hn
      have h0 := hcell 0 (by omega)
      refine ⟨x, rfl, ?_, fun k hk => ?_⟩
      · have := lt_of_cell h0
        rwa [block_of_add] at this
      · rw [hlen] at hk
        rw [hcell k (by omega)]
        simp only [List.getElem_take]
        rw [List.getD_eq_getElem?_getD, List.getElem?_eq_getElem (by omega), Option.getD_some]
    · intro y hy
      exact wf_i64 (hwz _ (List.mem_of_mem_take hy))
set_option maxRecDepth 100000 in
theorem is_of_trod {H : Type} {enc : TypeId × Value → H} {W : World} {base : Nat} {spare : Nat → Bool} {held : Bool} {t : TypeId} {v : Value} {n : Nat} {y : DataW H × List MemPlace}
    (ht : Try.prog.underlying t = some (.slice 3)) (h : DataW.trod enc Try.prog W base spare held n t [v] = some y) : ∃ (A : Option Addr) (c : Nat) (xs : List Int), v = .slice A xs.length c ∧ Is W A c xs := by
  have hcs : ∃ A len c, v = .slice A len c := by
    rcases open_ints ht Try.underlying3 (by kernel_rfl) h with ⟨hcs, _⟩ | ⟨x, l, c, zs, hcs, _⟩
    · simp only [List.cons.injEq, and_true] at hcs; exact ⟨_, _, _, hcs⟩
    · simp only [List.cons.injEq, and_true] at hcs; exact ⟨_, _, _, hcs⟩
  obtain ⟨A, len, c, rfl⟩ := hcs
  obtain ⟨y1, y2⟩ := y
  have h2 : DataW.Trod enc Try.prog W base spare held t (.slice A len c) y1 y2 := ⟨n, by simpa [Value.cells] using h⟩
  obtain ⟨xs, rfl, hx⟩ := is_of_ints ht h2
  exact ⟨A, c, xs, rfl, hx⟩
abbrev Tm.nil : Tm := ⟨none, 0, [], 0, 0⟩
end Go.Proofs.Ythdfflbhogfejaa
