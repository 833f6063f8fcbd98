/- The walk of the reference's next: the least level at which somebody stops. -/
import Derived.Test.YthdfflbhogfejaaFhM
import Derived.Test.YthdfflbhogfejaaRaR
import Derived.Test.YthdfflbhogfejaaRfC
import Derived.Test.YthdfflbhogfejaaRfF
namespace Go.Proofs.Ythdfflbhogfejaa
set_option maxRecDepth 100000
open Go.RowKit

theorem lowG_skip {l : List Fl} {s : Rt} {i : Nat} (h : s.a.getD i false = false) : lowG l s (i + 1) = lowG l s i := by rw [lowG, if_neg (by rw [h]; simp)]
theorem lowG_first {l : List Fl} {s : Rt} {i : Nat} (h : s.a.getD i false = true) (h2 : lowG l s i = none) : lowG l s (i + 1) = some (lmA l i : Rat) := by rw [lowG, if_pos h, h2]; rfl
theorem lowG_less {l : List Fl} {s : Rt} {i : Nat} {y : Rat} (h : s.a.getD i false = true) (h2 : lowG l s i = some y) (h3 : (lmA l i : Rat) < y) : lowG l s (i + 1) = some (lmA l i : Rat) := by rw [lowG, if_pos h, h2]; exact if_pos h3
theorem lowG_keep {l : List Fl} {s : Rt} {i : Nat} {y : Rat} (h : s.a.getD i false = true) (h2 : lowG l s i = some y) (h3 : ¬ (lmA l i : Rat) < y) : lowG l s (i + 1) = some y := by rw [lowG, if_pos h, h2]; exact if_neg h3
theorem lowH_none {cp : Int → Int} {l : List Fl} {s : Rt} {j : Nat} (h : lev cp l s (j : Int) = none) : lowH cp l s (j + 1) = lowH cp l s j := by rw [lowH, h]
theorem lowH_less {cp : Int → Int} {l : List Fl} {s : Rt} {j : Nat} {q y : Rat} (h : lev cp l s (j : Int) = some q) (h2 : lowH cp l s j = some y) (h3 : q < y) : lowH cp l s (j + 1) = some q := by rw [lowH, h, h2]; exact if_pos h3
theorem lowH_keep {cp : Int → Int} {l : List Fl} {s : Rt} {j : Nat} {q y : Rat} (h : lev cp l s (j : Int) = some q) (h2 : lowH cp l s j = some y) (h3 : ¬ q < y) : lowH cp l s (j + 1) = some y := by rw [lowH, h, h2]; exact if_neg h3
/-- a limit was found exactly if somebody rises, and the links change nothing about that -/
theorem lowH_isSome {cp : Int → Int} {l : List Fl} {s : Rt} : ∀ n, (lowH cp l s n).isSome = (lowG l s l.length).isSome := by
 intro n
 induction n with
 | zero => rfl
 | succ n ih =>
   cases hl : lev cp l s (n : Int) with
   | none => rw [lowH_none hl, ih]
   | some x =>
     obtain ⟨y, hy⟩ := lowG_of_lev hl
     obtain ⟨z, hz, _⟩ := lowH_k (cp := cp) n y hy
     by_cases h : x < z
     ·rw [lowH_less hl hz h, hy]; rfl
     ·rw [lowH_keep hl hz h, hy]; rfl
theorem rsub_nm (w : World) (x y : Fx) (p q : Rat) (hx : Nm w x p) (hy : Nm w y q) (hz : Sz (p - q) 128 128) :
 Calls Try.prog 71 #[x.val, y.val] w fun e w' => ∃ z : Fx, e = .returned (.tuple #[z.val, .int .i64 0]) ∧ Nm w' z (p - q) ∧ Below w.heap.size w w' := by
 refine (rfsub_any w x y _ hx.ok hy.ok hx.l hx.m hy.l hy.m (subF_ok hx.v hy.v hx.q hy.q hz)).mono ?_
 rintro e w' ⟨z, rfl, hs, ok, bb⟩
 exact ⟨z, rfl, Nm.of ok (Rp.of hs) hz, bb⟩
theorem rquo_nm (w : World) (x y : Fx) (p q : Rat) (hx : Nm w x p) (hy : Nm w y q) (hr : Rp y q) (hq : q ≠ 0) (hz : Sz (p / q) 128 128) :
 Calls Try.prog 72 #[x.val, y.val] w fun e w' => ∃ z : Fx, e = .returned (.tuple #[z.val, .int .i64 0]) ∧ Rp z (p / q) ∧ Nm w' z (p / q) ∧ Below w.heap.size w w' := by
 refine (rfquo_any w x y _ hx.ok hy.ok hx.l hx.m hy.l hy.m (quoF_ok hx.v hr hx.q hy.v hq hz)).mono ?_
 rintro e w' ⟨z, rfl, hs, ok, bb⟩
 exact ⟨z, rfl, Rp.of hs, Nm.of ok (Rp.of hs) hz, bb⟩
theorem Nv.farQ {w : World} {g H i j k : Nat} {x : Fx} {q : Rat} {v0 v1 v2 : Value} (h : Nv w H x q) (bk : NI w g) (hne : g ≠ H) : Nv (((w.setCell ⟨g, i, none⟩ v0).setCell ⟨g, j, none⟩ v1).setCell ⟨g, k, none⟩ v2) H x q :=
 ⟨h.fa.farQ bk hne, h.v, h.q, h.l, h.m⟩
theorem SmR.fixed {cp : Int → Int} {l : List Fl} {s : Rt} {D : Nat} (h : SmR cp l s D) (hl : l.length ≤ 14) (k : Int) (m : Nat) (hm : m ≤ l.length) : ¬ bigQ (sumTo (Proofs.Ythdfflbhogfejaa.tkS l s k) m) :=
 not_big (h.sz (B := 14 * 4096) ((Qd.sum (n := m) (B := 4096) (fun i hi => h.tkS k i (by omega))).mono (Nat.mul_le_mul_right _ (by omega))) (by omega))
/-- what next keeps through its loops: the result's variable, the best level -/
structure NxW (w wr : World) (g : Nat) (x : Fx) (q : Rat) : Prop where
 v : Nv wr g x q
 k : Bk3 wr w.heap.size (.bool false) (.slice none 0 0) (.slice none 0 0)
 b : Below w.heap.size w wr
 g : w.heap.size + 1 ≤ g
 r : Rp x q
theorem NxW.below {w wr wn : World} {g : Nat} {x : Fx} {q : Rat} (h : NxW w wr g x q) (bb : Below wr.heap.size wr wn) : NxW w wn g x q := ⟨h.v.below bb, h.k.below bb, below_on h.b bb h.b.size, h.g, h.r⟩
theorem NxW.put {w wr : World} {g : Nat} {x y : Fx} {q p : Rat} (h : NxW w wr g x q) (hy : Nm wr y p) (hr : Rp y p) : NxW w (((wr.setCell ⟨g, 0, none⟩ (.bool y.b)).setCell ⟨g, 1, none⟩ (.slice y.A y.xs.length y.c)).setCell ⟨g, 2, none⟩ (.slice y.D y.ys.length y.d)) g y p :=
 have := h.g
 ⟨Nv.mk' (h.v.fa.put hy.ok) hy, h.k.far (H := g) (by omega), set3g h.b (by omega), h.g, hr⟩
theorem NxW.far {w wr : World} {g G : Nat} {x y : Fx} {q p : Rat} (h : NxW w wr g x q) (hG : Nv wr G y p) (hne : g < G) {v0 v1 v2 : Value} : NxW w (((wr.setCell ⟨G, 0, none⟩ v0).setCell ⟨G, 1, none⟩ v1).setCell ⟨G, 2, none⟩ v2) g x q :=
 have := h.g
 ⟨h.v.farQ hG.fa.blk (by omega), h.k.far (H := G) (by omega), set3g h.b (by omega), h.g, h.r⟩
set_option maxHeartbeats 6400000 in
theorem rnext_any (w : World) (C : Option Addr) (nC cC : Nat) (caps : List Int) (D : Option Addr) (m d : Nat) (fs : List Fm) (A : Option Addr) (n c : Nat) (vs : List Fx) (E : Option Addr) (ne ce : Nat) (bs : List Bool) (cp : Int → Int) (l : List Fl) (s : Rt) (N : Nat)
 (hC : Is w C cC caps) (hD : Ws w D d fs) (hA : RdF w A vs) (hok : OkF w vs) (hv : ∀ v ∈ vs, v.v) (hE : Rd Value.bool w E bs) (hnC : nC = caps.length) (hm : m = fs.length) (hn : n = vs.length) (hne : ne = bs.length) (hvl : vs.length = fs.length) (hbl : bs.length = fs.length) (hle : fs.length ≤ 14)
 (hcp : cpF caps = cp) (hl : fs.map Fm.fl = l) (hs : SmR cp l s N) (hat : ∀ i (h : i < vs.length), vs[i].q = s.r.getD i 0) (hst : ∀ i (h : i < bs.length), s.a.getD i false = !bs[i])
 (hcb : ∀ k : Nat, k < caps.length → 0 ≤ cp (k : Int) ∧ cp (k : Int) ≤ 4096) (hlm : ∀ i, i < l.length → 0 ≤ lmA l i ∧ lmA l i ≤ 4096) :
 Calls Try.prog 48 #[.slice C nC cC, .slice D m d, .slice A n c, .slice E ne ce] w fun e w' => ∃ x : Fx, e = .returned (.tuple #[x.val, .bool (lowH cp l s caps.length).isSome]) ∧ Rp x ((lowH cp l s caps.length).getD 0) ∧ Nm w' x ((lowH cp l s caps.length).getD 0) ∧ Below w.heap.size w w' := by
 have HC := Lib.hid hC
 have HD := Lib.hid hD
 have HA := Lib.hid hA
 have HOK := Lib.hid hok
 have HV := Lib.hid hv
 have HE := Lib.hid hE
 have HVL := Lib.hid hvl
 have HBL := Lib.hid hbl
 have HL := Lib.hid hl
 have HLL : Hid (l.length = fs.length) := Lib.hid (by rw [← hl]; simp)
 have HCP := Lib.hid hcp
 have HS := Lib.hid hs
 have HAT := Lib.hid hat
 have HST := Lib.hid hst
 have HCB := Lib.hid hcb
 have HLM := Lib.hid hlm
 have HGL : Hid (∀ k (h : k < fs.length), lkA l k = fs[k].ls ∧ lmA l k = fs[k].m) := Lib.hid (fun k h => by rw [← hl]; exact fl_get h)
 have hccap := hC.cap
 have hclen := hC.len
 have hdcap := hD.cap
 have hdmax := hD.max
 clear hC hD hA hok hv hE hvl hbl hl hcp hs hat hst hcb hlm
 subst hm hn hne hnC
 go_enter Try.func48, Try.ntmps48
 go_upto_region 1 with fail
 have bw := (Below.refl w.heap.size w).alloc (Nat.le_refl _) (.cells #[.bool false, .slice none 0 0, .slice none 0 0] 41)
 have bk := bk3_new w
 generalize (w.alloc (.cells #[.bool false, .slice none 0 0, .slice none 0 0] 41)) = wm at bw bk ⊢
 have HBK := Lib.hid bk
 have hB : w.heap.size + 1 ≤ wm.heap.size := bk.lt
 clear bk
 go_wp2_with fail
 refine (rwhole_any wm 0 (by omega) (by omega)).mono ?_
 rintro e wn ⟨x1, rfl, r1, n1, bb⟩
 have HBK1 := Lib.hid (HBK.out.below bb)
 replace bw := below_on bw bb bw.size
 have hB1 : w.heap.size + 1 ≤ wn.heap.size := Nat.le_trans hB bb.size
 clear HBK bb hB
 go_upto_region 2 with fail
 have v1 := (nv_alloc n1).1
 have bb := (nv_alloc n1).2
 clear n1
 generalize (wn.alloc (.cells #[.bool x1.b, .slice x1.A x1.xs.length x1.c, .slice x1.D x1.ys.length x1.d] 41)) = wm at v1 bb ⊢
 replace bw := below_on bw bb bw.size
 have bk := HBK1.out.below bb
 clear HBK1 bb
 generalize wn.heap.size = g10 at v1 hB1 ⊢
 have n0 : NxW w wm g10 x1 0 := ⟨v1, bk, bw, hB1, r1⟩
 clear v1 bk bw hB1 r1
 go_wp2_with fail
 go_loopw [11, 12] (fun sv i wr => ∃ (k : Nat) (x : Fx), k ≤ fs.length ∧ i = .int .i64 k ∧ sv = .bool (lowG l s k).isSome ∧ NxW w wr g10 x ((lowG l s k).getD 0)) (fun _ i _ => fs.length - (intOf i).toNat)
 case atStart => exact ⟨0, x1, by omega, rfl, rfl, n0⟩
 case round =>
  clear n0
  obtain ⟨k, x1, hk, rfl, rfl, nx⟩ := hrel
  by_cases hkf : k < fs.length
  ·--D{
   have hkb : k < bs.length := by rw [HBL.out]; exact hkf
   have bw := nx.b
   obtain ⟨ae, rfl, _, hce⟩ := (HE.out.below bw rfl) (by omega)
   have hbk := hce k hkb
   have hba := HST.out k hkb
   obtain ⟨b1, hb1⟩ : ∃ b1, bs[k] = b1 := ⟨_, rfl⟩
   rw [hb1] at hbk hba
   have HBA := Lib.hid hba
   clear hce hb1 hba
   obtain ⟨ad, rfl, hadl, hcc⟩ := (HD.out.below bw).rd (by omega)
   have hc1 := (hcc k hkf).2
   have hgl := (HGL.out k hkf).2
   obtain ⟨x, hx⟩ : ∃ x, fs[k] = x := ⟨_, rfl⟩
   rw [hx] at hc1 hgl
   have HXM : Hid (0 ≤ x.m ∧ x.m ≤ 4096) := Lib.hid (by
    have := HLM.out k (by rw [HLL.out]; exact hkf)
    rw [hgl] at this; exact this)
   have HLMK := Lib.hid hgl
   have HC1 : Hid (∀ w', Below wr.heap.size wr w' → w'.cell? ⟨(ad.add (k * 2)).block, (ad.add (k * 2)).off + 1, none⟩ = some (.int .i64 x.m)) := Lib.hid (fun w' hb =>
    (hb.cell (p := ⟨(ad.add (k * 2)).block, (ad.add (k * 2)).off + 1, none⟩) (World.block_lt_of_cell? wr _ hc1)).trans hc1)
   have HCE : Hid (∀ w', Below wr.heap.size wr w' → w'.cell? (ae.add k) = some (.bool b1)) := Lib.hid (fun w' hb =>
    (hb.cell (p := ae.add k) (World.block_lt_of_cell? wr _ hbk)).trans hbk)
   have HNX := Lib.hid nx
   clear hcc hx hgl hadl nx bw hc1 hbk
   obtain ⟨G, hG⟩ : ∃ G, lowG l s k = G := ⟨_, rfl⟩
   have HG := Lib.hid hG
   rw [hG] at HNX ⊢
   clear hG
   go_upto_region 5 with fail
   go_cut [44] (fun s44 w2 => s44 = .bool (decide (b1 = false ∧ (G = none ∨ (x.m : Rat) < G.getD 0))) ∧ Below wr.heap.size wr w2)
   case first =>
    cases b1 with
    | true =>
      have HP : Hid (Value.bool false = .bool (decide (true = false ∧ (G = none ∨ (x.m : Rat) < G.getD 0)))) := Lib.hid (by rw [decide_eq_false (fun h => by cases h.1)])
      refine wp_region_held_drew (S := fun w' => w'.cell? (ae.add k) = some (.bool true) ∧ w'.cell? ⟨(ad.add (k * 2)).block, (ad.add (k * 2)).off + 1, none⟩ = some (.int .i64 x.m) ∧ w'.cell? ⟨g10, 0, none⟩ = some (.bool x1.b) ∧ w'.cell? ⟨g10, 1, none⟩ = some (.slice x1.A x1.xs.length x1.c) ∧ w'.cell? ⟨g10, 2, none⟩ = some (.slice x1.D x1.ys.length x1.d)) (by kernel_rfl) ⟨HCE.out _ ((Below.refl wr.heap.size wr).drew), HC1.out _ ((Below.refl wr.heap.size wr).drew), (HNX.out.v.below ((Below.refl wr.heap.size wr).drew)).c0, (HNX.out.v.below ((Below.refl wr.heap.size wr).drew)).c1, (HNX.out.v.below ((Below.refl wr.heap.size wr).drew)).c2⟩ (fun hHeld => ?_)
      have bz := (Below.refl wr.heap.size wr).drew
      generalize wr.drew = wd at *
      refine tkw 0 (.slice (some ae) bs.length ce) rfl (by kernel_rfl) (by kernel_rfl) (by kernel_rfl) (fun _ _ _ h => h) ⟨by rfl, ?_⟩ (by assumption) ?_
      ·intro w hSw; go_simp; (try with_reducible rfl)
      try simp only [Act.put, tzA, tzB, tzD, tzE, tzF]
      refine tkw 1 (.int .i64 (k : Int)) rfl (by kernel_rfl) (by kernel_rfl) (by kernel_rfl) (fun _ _ _ h => h) ⟨by rfl, ?_⟩ (by assumption) ?_
      ·intro w hSw; go_simp; (try with_reducible rfl)
      try simp only [Act.put, tzA, tzB, tzC, tzD, tzE, tzF]
      refine tkw 2 (.pointer (some (ae.add k))) rfl (by kernel_rfl) (by kernel_rfl) (by kernel_rfl) (fun _ _ _ h => h) ⟨by rfl, ?_⟩ (by assumption) ?_
      ·intro w hSw; go_simp; (try with_reducible rfl)
      try simp only [Act.put, tzA, tzB, tzC, tzD, tzE, tzF]
      refine tkw 3 (.bool true) rfl (by kernel_rfl) (by kernel_rfl) (by kernel_rfl) (fun _ _ _ h => h) ⟨by rfl, ?_⟩ (by assumption) ?_
      ·intro w hSw; (try dsimp only at hSw); obtain ⟨s0, _⟩ := hSw; go_simp; (try with_reducible rfl)
      try simp only [Act.put, tzA, tzB, tzC, tzD, tzE, tzF]
      refine tkw 4 (.bool false) rfl (by kernel_rfl) (by kernel_rfl) (by kernel_rfl) (fun _ _ _ h => h) ⟨by rfl, ?_⟩ (by assumption) ?_
      ·intro w hSw; go_simp; (try simp)
      try simp only [Act.put, tzA, tzB, tzC, tzD, tzE, tzF]
      refine tkw 5 (.bool false) rfl (by kernel_rfl) (by kernel_rfl) (by kernel_rfl) (fun _ _ _ h => h) ⟨by rfl, ?_⟩ (by assumption) ?_
      ·intro w hSw; go_simp; (try with_reducible rfl)
      try simp only [Act.put, tzA, tzB, tzC, tzD, tzE, tzF]
      refine tku 6 rfl (by kernel_rfl) (by kernel_rfl) (by kernel_rfl) (fun _ _ _ h => h) (by kernel_rfl) (by assumption) ?_
      try simp only [Act.put, tzA, tzB, tzC, tzD, tzE, tzF]
      refine tku 7 rfl (by kernel_rfl) (by kernel_rfl) (by kernel_rfl) (fun _ _ _ h => h) (by kernel_rfl) (by assumption) ?_
      try simp only [Act.put, tzA, tzB, tzC, tzD, tzE, tzF]
      refine tku 8 rfl (by kernel_rfl) (by kernel_rfl) (by kernel_rfl) (fun _ _ _ h => h) (by kernel_rfl) (by assumption) ?_
      try simp only [Act.put, tzA, tzB, tzC, tzD, tzE, tzF]
      refine tku 9 rfl (by kernel_rfl) (by kernel_rfl) (by kernel_rfl) (fun _ _ _ h => h) (by kernel_rfl) (by assumption) ?_
      try simp only [Act.put, tzA, tzB, tzC, tzD, tzE, tzF]
      refine tku 10 rfl (by kernel_rfl) (by kernel_rfl) (by kernel_rfl) (fun _ _ _ h => h) (by kernel_rfl) (by assumption) ?_
      try simp only [Act.put, tzA, tzB, tzC, tzD, tzE, tzF]
      refine tku 11 rfl (by kernel_rfl) (by kernel_rfl) (by kernel_rfl) (fun _ _ _ h => h) (by kernel_rfl) (by assumption) ?_
      try simp only [Act.put, tzA, tzB, tzC, tzD, tzE, tzF]
      refine tku 12 rfl (by kernel_rfl) (by kernel_rfl) (by kernel_rfl) (fun _ _ _ h => h) (by kernel_rfl) (by assumption) ?_
      try simp only [Act.put, tzA, tzB, tzC, tzD, tzE, tzF]
      refine tku 13 rfl (by kernel_rfl) (by kernel_rfl) (by kernel_rfl) (fun _ _ _ h => h) (by kernel_rfl) (by assumption) ?_
      try simp only [Act.put, tzA, tzB, tzC, tzD, tzE, tzF]
      refine tku 14 rfl (by kernel_rfl) (by kernel_rfl) (by kernel_rfl) (fun _ _ _ h => h) (by kernel_rfl) (by assumption) ?_
      try simp only [Act.put, tzA, tzB, tzC, tzD, tzE, tzF]
      refine tku 15 rfl (by kernel_rfl) (by kernel_rfl) (by kernel_rfl) (fun _ _ _ h => h) (by kernel_rfl) (by assumption) ?_
      try simp only [Act.put, tzA, tzB, tzC, tzD, tzE, tzF]
      refine tku 16 rfl (by kernel_rfl) (by kernel_rfl) (by kernel_rfl) (fun _ _ _ h => h) (by kernel_rfl) (by assumption) ?_
      try simp only [Act.put, tzA, tzB, tzC, tzD, tzE, tzF]
      refine tku 17 rfl (by kernel_rfl) (by kernel_rfl) (by kernel_rfl) (fun _ _ _ h => h) (by kernel_rfl) (by assumption) ?_
      try simp only [Act.put, tzA, tzB, tzC, tzD, tzE, tzF]
      refine tkw 18 (.bool false) rfl (by kernel_rfl) (by kernel_rfl) (by kernel_rfl) (fun _ _ _ h => h) ⟨by rfl, ?_⟩ (by assumption) ?_
      ·intro w hSw; go_simp; (try with_reducible rfl)
      try simp only [Act.put, tzA, tzB, tzC, tzD, tzE, tzF]
      refine wpAnyH_done (by kernel_rfl) ?_ _
      go_wp2_with fail
      go_meet
      case rel => exact ⟨HP.out, bz⟩
    | false =>
      cases G with
      | none =>
        have HP : Hid (Value.bool true = .bool (decide (false = false ∧ ((none : Option Rat) = none ∨ (x.m : Rat) < (none : Option Rat).getD 0)))) := Lib.hid (by rw [decide_eq_true ⟨rfl, .inl rfl⟩])
        refine wp_region_held_drew (S := fun w' => w'.cell? (ae.add k) = some (.bool false) ∧ w'.cell? ⟨(ad.add (k * 2)).block, (ad.add (k * 2)).off + 1, none⟩ = some (.int .i64 x.m) ∧ w'.cell? ⟨g10, 0, none⟩ = some (.bool x1.b) ∧ w'.cell? ⟨g10, 1, none⟩ = some (.slice x1.A x1.xs.length x1.c) ∧ w'.cell? ⟨g10, 2, none⟩ = some (.slice x1.D x1.ys.length x1.d)) (by kernel_rfl) ⟨HCE.out _ ((Below.refl wr.heap.size wr).drew), HC1.out _ ((Below.refl wr.heap.size wr).drew), (HNX.out.v.below ((Below.refl wr.heap.size wr).drew)).c0, (HNX.out.v.below ((Below.refl wr.heap.size wr).drew)).c1, (HNX.out.v.below ((Below.refl wr.heap.size wr).drew)).c2⟩ (fun hHeld => ?_)
        have bz := (Below.refl wr.heap.size wr).drew
        generalize wr.drew = wd at *
        refine tkw 0 (.slice (some ae) bs.length ce) rfl (by kernel_rfl) (by kernel_rfl) (by kernel_rfl) (fun _ _ _ h => h) ⟨by rfl, ?_⟩ (by assumption) ?_
        ·intro w hSw; go_simp; (try with_reducible rfl)
        try simp only [Act.put, tzA, tzB, tzD, tzE, tzF]
        refine tkw 1 (.int .i64 (k : Int)) rfl (by kernel_rfl) (by kernel_rfl) (by kernel_rfl) (fun _ _ _ h => h) ⟨by rfl, ?_⟩ (by assumption) ?_
        ·intro w hSw; go_simp; (try with_reducible rfl)
        try simp only [Act.put, tzA, tzB, tzC, tzD, tzE, tzF]
        refine tkw 2 (.pointer (some (ae.add k))) rfl (by kernel_rfl) (by kernel_rfl) (by kernel_rfl) (fun _ _ _ h => h) ⟨by rfl, ?_⟩ (by assumption) ?_
        ·intro w hSw; go_simp; (try with_reducible rfl)
        try simp only [Act.put, tzA, tzB, tzC, tzD, tzE, tzF]
        refine tkw 3 (.bool false) rfl (by kernel_rfl) (by kernel_rfl) (by kernel_rfl) (fun _ _ _ h => h) ⟨by rfl, ?_⟩ (by assumption) ?_
        ·intro w hSw; (try dsimp only at hSw); obtain ⟨s0, _⟩ := hSw; go_simp; (try with_reducible rfl)
        try simp only [Act.put, tzA, tzB, tzC, tzD, tzE, tzF]
        refine tkw 4 (.bool true) rfl (by kernel_rfl) (by kernel_rfl) (by kernel_rfl) (fun _ _ _ h => h) ⟨by rfl, ?_⟩ (by assumption) ?_
        ·intro w hSw; go_simp; (try simp)
        try simp only [Act.put, tzA, tzB, tzC, tzD, tzE, tzF]
        refine tkw 5 (.bool true) rfl (by kernel_rfl) (by kernel_rfl) (by kernel_rfl) (fun _ _ _ h => h) ⟨by rfl, ?_⟩ (by assumption) ?_
        ·intro w hSw; go_simp; (try with_reducible rfl)
        try simp only [Act.put, tzA, tzB, tzC, tzD, tzE, tzF]
        refine tkw 6 (.bool false) rfl (by kernel_rfl) (by kernel_rfl) (by kernel_rfl) (fun _ _ _ h => h) ⟨by kernel_rfl, ?_⟩ (by assumption) ?_
        ·intro w hSw; go_simp; (try with_reducible rfl)
        try simp only [Act.put, tzA, tzB, tzC, tzD, tzE, tzF]
        refine tkw 7 (.bool true) rfl (by kernel_rfl) (by kernel_rfl) (by kernel_rfl) (fun _ _ _ h => h) ⟨by kernel_rfl, ?_⟩ (by assumption) ?_
        ·intro w hSw; go_simp; (try with_reducible rfl)
        try simp only [Act.put, tzA, tzB, tzC, tzD, tzE, tzF]
        refine tkw 8 (.bool true) rfl (by kernel_rfl) (by kernel_rfl) (by kernel_rfl) (fun _ _ _ h => h) ⟨by kernel_rfl, ?_⟩ (by assumption) ?_
        ·intro w hSw; go_simp; (try with_reducible rfl)
        try simp only [Act.put, tzA, tzB, tzC, tzD, tzE, tzF]
        refine tku 9 rfl (by kernel_rfl) (by kernel_rfl) (by kernel_rfl) (fun _ _ _ h => h) (by kernel_rfl) (by assumption) ?_
        try simp only [Act.put, tzA, tzB, tzC, tzD, tzE, tzF]
        refine tku 10 rfl (by kernel_rfl) (by kernel_rfl) (by kernel_rfl) (fun _ _ _ h => h) (by kernel_rfl) (by assumption) ?_
        try simp only [Act.put, tzA, tzB, tzC, tzD, tzE, tzF]
        refine tku 11 rfl (by kernel_rfl) (by kernel_rfl) (by kernel_rfl) (fun _ _ _ h => h) (by kernel_rfl) (by assumption) ?_
        try simp only [Act.put, tzA, tzB, tzC, tzD, tzE, tzF]
        refine tku 12 rfl (by kernel_rfl) (by kernel_rfl) (by kernel_rfl) (fun _ _ _ h => h) (by kernel_rfl) (by assumption) ?_
        try simp only [Act.put, tzA, tzB, tzC, tzD, tzE, tzF]
        refine tku 13 rfl (by kernel_rfl) (by kernel_rfl) (by kernel_rfl) (fun _ _ _ h => h) (by kernel_rfl) (by assumption) ?_
        try simp only [Act.put, tzA, tzB, tzC, tzD, tzE, tzF]
        refine tku 14 rfl (by kernel_rfl) (by kernel_rfl) (by kernel_rfl) (fun _ _ _ h => h) (by kernel_rfl) (by assumption) ?_
        try simp only [Act.put, tzA, tzB, tzC, tzD, tzE, tzF]
        refine tku 15 rfl (by kernel_rfl) (by kernel_rfl) (by kernel_rfl) (fun _ _ _ h => h) (by kernel_rfl) (by assumption) ?_
        try simp only [Act.put, tzA, tzB, tzC, tzD, tzE, tzF]
        refine tku 16 rfl (by kernel_rfl) (by kernel_rfl) (by kernel_rfl) (fun _ _ _ h => h) (by kernel_rfl) (by assumption) ?_
        try simp only [Act.put, tzA, tzB, tzC, tzD, tzE, tzF]
        refine tkw 17 (.bool true) rfl (by kernel_rfl) (by kernel_rfl) (by kernel_rfl) (fun _ _ _ h => h) ⟨by kernel_rfl, ?_⟩ (by assumption) ?_
        ·intro w hSw; go_simp; (try with_reducible rfl)
        try simp only [Act.put, tzA, tzB, tzC, tzD, tzE, tzF]
        refine tkw 18 (.bool true) rfl (by kernel_rfl) (by kernel_rfl) (by kernel_rfl) (fun _ _ _ h => h) ⟨by rfl, ?_⟩ (by assumption) ?_
        ·intro w hSw; go_simp; (try with_reducible rfl)
        try simp only [Act.put, tzA, tzB, tzC, tzD, tzE, tzF]
        refine wpAnyH_done (by kernel_rfl) ?_ _
        go_wp2_with fail
        go_meet
        case rel => exact ⟨HP.out, bz⟩
      | some y =>
        obtain ⟨u, hu⟩ : ∃ u, decide ((x.m : Rat) < y) = u := ⟨_, rfl⟩
        have HU := Lib.hid hu
        have HP : Hid (Value.bool u = .bool (decide (false = false ∧ (some y = none ∨ (x.m : Rat) < (some y).getD 0)))) := Lib.hid (by
         rw [← hu]
         congr 1
         rw [decide_eq_decide]
         exact ⟨fun h => ⟨rfl, .inr h⟩, fun h => by
          rcases h.2 with h1 | h1
          ·cases h1
          ·exact h1⟩)
        have HV10 : Hid (Nv wr g10 x1 y) := Lib.hid HNX.out.v
        clear hu
        refine wp_region_held_drew (S := fun w' => w'.cell? (ae.add k) = some (.bool false) ∧ w'.cell? ⟨(ad.add (k * 2)).block, (ad.add (k * 2)).off + 1, none⟩ = some (.int .i64 x.m) ∧ w'.cell? ⟨g10, 0, none⟩ = some (.bool x1.b) ∧ w'.cell? ⟨g10, 1, none⟩ = some (.slice x1.A x1.xs.length x1.c) ∧ w'.cell? ⟨g10, 2, none⟩ = some (.slice x1.D x1.ys.length x1.d)) (by kernel_rfl) ⟨HCE.out _ ((Below.refl wr.heap.size wr).drew), HC1.out _ ((Below.refl wr.heap.size wr).drew), (HNX.out.v.below ((Below.refl wr.heap.size wr).drew)).c0, (HNX.out.v.below ((Below.refl wr.heap.size wr).drew)).c1, (HNX.out.v.below ((Below.refl wr.heap.size wr).drew)).c2⟩ (fun hHeld => ?_)
        have bz := (Below.refl wr.heap.size wr).drew
        generalize wr.drew = wd at *
        refine tkw 0 (.slice (some ae) bs.length ce) rfl (by kernel_rfl) (by kernel_rfl) (by kernel_rfl) (fun _ _ _ h => h) ⟨by rfl, ?_⟩ (by assumption) ?_
        ·intro w hSw; go_simp; (try with_reducible rfl)
        try simp only [Act.put, tzA, tzB, tzD, tzE, tzF]
        refine tkw 1 (.int .i64 (k : Int)) rfl (by kernel_rfl) (by kernel_rfl) (by kernel_rfl) (fun _ _ _ h => h) ⟨by rfl, ?_⟩ (by assumption) ?_
        ·intro w hSw; go_simp; (try with_reducible rfl)
        try simp only [Act.put, tzA, tzB, tzC, tzD, tzE, tzF]
        refine tkw 2 (.pointer (some (ae.add k))) rfl (by kernel_rfl) (by kernel_rfl) (by kernel_rfl) (fun _ _ _ h => h) ⟨by rfl, ?_⟩ (by assumption) ?_
        ·intro w hSw; go_simp; (try with_reducible rfl)
        try simp only [Act.put, tzA, tzB, tzC, tzD, tzE, tzF]
        refine tkw 3 (.bool false) rfl (by kernel_rfl) (by kernel_rfl) (by kernel_rfl) (fun _ _ _ h => h) ⟨by rfl, ?_⟩ (by assumption) ?_
        ·intro w hSw; (try dsimp only at hSw); obtain ⟨s0, _⟩ := hSw; go_simp; (try with_reducible rfl)
        try simp only [Act.put, tzA, tzB, tzC, tzD, tzE, tzF]
        refine tkw 4 (.bool true) rfl (by kernel_rfl) (by kernel_rfl) (by kernel_rfl) (fun _ _ _ h => h) ⟨by rfl, ?_⟩ (by assumption) ?_
        ·intro w hSw; go_simp; (try simp)
        try simp only [Act.put, tzA, tzB, tzC, tzD, tzE, tzF]
        refine tkw 5 (.bool true) rfl (by kernel_rfl) (by kernel_rfl) (by kernel_rfl) (fun _ _ _ h => h) ⟨by rfl, ?_⟩ (by assumption) ?_
        ·intro w hSw; go_simp; (try with_reducible rfl)
        try simp only [Act.put, tzA, tzB, tzC, tzD, tzE, tzF]
        refine tkw 6 (.bool true) rfl (by kernel_rfl) (by kernel_rfl) (by kernel_rfl) (fun _ _ _ h => h) ⟨by kernel_rfl, ?_⟩ (by assumption) ?_
        ·intro w hSw; go_simp; (try with_reducible rfl)
        try simp only [Act.put, tzA, tzB, tzC, tzD, tzE, tzF]
        refine tkw 7 (.bool false) rfl (by kernel_rfl) (by kernel_rfl) (by kernel_rfl) (fun _ _ _ h => h) ⟨by kernel_rfl, ?_⟩ (by assumption) ?_
        ·intro w hSw; go_simp; (try with_reducible rfl)
        try simp only [Act.put, tzA, tzB, tzC, tzD, tzE, tzF]
        refine tkw 8 (.bool false) rfl (by kernel_rfl) (by kernel_rfl) (by kernel_rfl) (fun _ _ _ h => h) ⟨by kernel_rfl, ?_⟩ (by assumption) ?_
        ·intro w hSw; go_simp; (try with_reducible rfl)
        try simp only [Act.put, tzA, tzB, tzC, tzD, tzE, tzF]
        refine tkw 9 (.slice (some ad) fs.length d) rfl (by kernel_rfl) (by kernel_rfl) (by kernel_rfl) (fun _ _ _ h => h) ⟨by kernel_rfl, ?_⟩ (by assumption) ?_
        ·intro w hSw; go_simp; (try with_reducible rfl)
        try simp only [Act.put, tzA, tzB, tzC, tzD, tzE, tzF]
        refine tkw 10 (.int .i64 (k : Int)) rfl (by kernel_rfl) (by kernel_rfl) (by kernel_rfl) (fun _ _ _ h => h) ⟨by kernel_rfl, ?_⟩ (by assumption) ?_
        ·intro w hSw; go_simp; (try with_reducible rfl)
        try simp only [Act.put, tzA, tzB, tzC, tzD, tzE, tzF]
        refine tkw 11 (.pointer (some (ad.add (k * 2)))) rfl (by kernel_rfl) (by kernel_rfl) (by kernel_rfl) (fun _ _ _ h => h) ⟨by kernel_rfl, ?_⟩ (by assumption) ?_
        ·intro w hSw; go_simp; (try with_reducible rfl)
        try simp only [Act.put, tzA, tzB, tzC, tzD, tzE, tzF]
        refine tkw 12 (.pointer (some ⟨(ad.add (k * 2)).block, (ad.add (k * 2)).off + 1, none⟩)) rfl (by kernel_rfl) (by kernel_rfl) (by kernel_rfl) (fun _ _ _ h => h) ⟨by kernel_rfl, ?_⟩ (by assumption) ?_
        ·intro w hSw; go_simp; (try with_reducible rfl)
        try simp only [Act.put, tzA, tzB, tzC, tzD, tzE, tzF]
        refine tkw 13 (.int .i64 x.m) rfl (by kernel_rfl) (by kernel_rfl) (by kernel_rfl) (fun _ _ _ h => h) ⟨by kernel_rfl, ?_⟩ (by assumption) ?_
        ·intro w hSw; (try dsimp only at hSw); obtain ⟨_, s0, _⟩ := hSw; go_simp; (try with_reducible rfl)
        try simp only [Act.put, tzA, tzB, tzC, tzD, tzE, tzF]
        refine tkw 15 (x1.val) rfl (by kernel_rfl) (by kernel_rfl) (by kernel_rfl) (fun _ _ _ h => h) ⟨by kernel_rfl, ?_⟩ (by assumption) ?_
        ·intro w hSw; (try dsimp only at hSw); obtain ⟨_, _, s0, s1, s2⟩ := hSw; go_simp; (try with_reducible rfl)
        try simp only [Act.put, tzA, tzB, tzC, tzD, tzE, tzF]
        refine wpAnyH_ready (rs := [14]) (by kernel_rfl) (by simp) ?_
        refine AllReadyH.cons rfl (fun K hK => ?_) ?_
        ·go_simp
         go_at_call 34
         refine (rwhole_any wd x.m (by have := HXM.out; omega) (by have := HXM.out; omega)).mono ?_
         rintro e wd ⟨y2, rfl, _, n5, bb⟩
         try replace n5 := n5.below bb
         replace bz := below_on bz bb bz.size
         clear bb
         refine hK.out _ _ ⟨HCE.out _ bz, HC1.out _ bz, (HNX.out.v.below bz).c0, (HNX.out.v.below bz).c1, (HNX.out.v.below bz).c2⟩ (fun hHeld => ?_)
         clear hK K
         try simp only [Act.put]
         try simp only [tzD, tzE, tzF]
         refine wpAnyH_ready (rs := [16]) (by kernel_rfl) (by simp) ?_
         refine AllReadyH.cons rfl (fun K hK => ?_) ?_
         ·go_simp
          go_at_call 33
          refine (rless_any wd y2 x1 (x.m : Rat) y u n5 (HV10.out.below bz).nm HU.out).mono ?_
          rintro e wd ⟨rfl, bb⟩
          clear n5
          try replace n5 := n5.below bb
          replace bz := below_on bz bb bz.size
          clear bb
          refine hK.out _ _ ⟨HCE.out _ bz, HC1.out _ bz, (HNX.out.v.below bz).c0, (HNX.out.v.below bz).c1, (HNX.out.v.below bz).c2⟩ (fun hHeld => ?_)
          clear hK K
          try simp only [Act.put]
          try simp only [tzD, tzE, tzF]
          refine tkw 17 (.bool u) rfl (by kernel_rfl) (by kernel_rfl) (by kernel_rfl) (fun _ _ _ h => h) ⟨by kernel_rfl, ?_⟩ (by assumption) ?_
          ·intro w hSw; go_simp; (try with_reducible rfl)
          try simp only [Act.put, tzA, tzB, tzC, tzD, tzE, tzF]
          refine tkw 18 (.bool u) rfl (by kernel_rfl) (by kernel_rfl) (by kernel_rfl) (fun _ _ _ h => h) ⟨by rfl, ?_⟩ (by assumption) ?_
          ·intro w hSw; go_simp; (try with_reducible rfl)
          try simp only [Act.put, tzA, tzB, tzC, tzD, tzE, tzF]
          refine wpAnyH_done (by kernel_rfl) ?_ _
          go_wp2_with fail
          go_meet
          case rel => exact ⟨HP.out, bz⟩
         exact AllReadyH.nil
        exact AllReadyH.nil
   case rest =>
    obtain ⟨rfl, bb⟩ := hcut
    have nx := HNX.out.below bb
    have hc1 := HC1.out _ bb
    clear bb
    by_cases hp : b1 = false ∧ (G = none ∨ (x.m : Rat) < G.getD 0)
    ·have HNG : Hid (lowG l s (k + 1) = some (x.m : Rat)) := Lib.hid (by
      have ha : s.a.getD k false = true := by rw [HBA.out, hp.1]; rfl
      cases hG : G with
      | none => rw [lowG_first ha (by rw [HG.out, hG]), HLMK.out]
      | some y =>
        rw [lowG_less ha (by rw [HG.out, hG]) (by
         rcases hp.2 with h | h
         ·rw [hG] at h; cases h
         ·rw [hG] at h; rw [HLMK.out]; exact h), HLMK.out])
     rw [decide_eq_true hp]
     clear hp
     go_wp2_with fail
     refine (rwhole_any _ x.m (by have := HXM.out; omega) (by have := HXM.out; omega)).mono ?_
     rintro e wn ⟨y1, rfl, r1, n1, bb⟩
     replace nx := nx.below bb
     clear bb hc1
     have t := nx.v.fa.bk
     obtain ⟨k0, k1, k2, kf0, kf1, kf2, _, _⟩ := t
     go_wp2_with fail
     clear k0 k1 k2 kf0 kf1 kf2
     replace nx := nx.put n1 r1
     generalize (((wn.setCell ⟨g10, 0, none⟩ (.bool y1.b)).setCell ⟨g10, 1, none⟩ (.slice y1.A y1.xs.length y1.c)).setCell ⟨g10, 2, none⟩ (.slice y1.D y1.ys.length y1.d)) = we at nx ⊢
     go_roundw
     case rel => exact ⟨k + 1, y1, by omega, by go_num, by rw [HNG.out]; rfl, by rw [HNG.out]; exact nx⟩
     case measure => simp [intOf]; omega
    ·have HNG : Hid (lowG l s (k + 1) = G) := Lib.hid (by
      cases hb : b1 with
      | true => rw [lowG_skip (by rw [HBA.out, hb]; rfl), HG.out]
      | false =>
        have ha : s.a.getD k false = true := by rw [HBA.out, hb]; rfl
        cases hG : G with
        | none => exact absurd ⟨hb, .inl hG⟩ hp
        | some y =>
          rw [lowG_keep ha (by rw [HG.out, hG]) (fun h => hp ⟨hb, .inr (by rw [hG, ← HLMK.out]; exact h)⟩)])
     rw [decide_eq_false hp]
     clear hp hc1
     go_wp2_with fail
     go_roundw
     case rel => exact ⟨k + 1, x1, by omega, by go_num, by rw [HNG.out], by rw [HNG.out]; exact nx⟩
     case measure => simp [intOf]; omega
--D}
  ·obtain rfl : k = fs.length := by omega
   have HLG : Hid (lowG l s fs.length = lowH cp l s 0) := Lib.hid (by rw [lowH, HLL.out])
   have HSM : Hid (∀ j, (lowH cp l s j).isSome = (lowG l s fs.length).isSome) := Lib.hid (fun j => by rw [lowH_isSome, HLL.out])
   obtain ⟨S, hS⟩ : ∃ S, (lowG l s fs.length).isSome = S := ⟨_, rfl⟩
   rw [hS] at HSM ⊢
   rw [HLG.out] at nx
   clear hS HLG
   go_wp2_with fail
   go_loopw [13] (fun i wr => ∃ (k : Nat) (x : Fx), k ≤ caps.length ∧ i = .int .i64 k ∧ NxW w wr g10 x ((lowH cp l s k).getD 0)) (fun i _ => caps.length - (intOf i).toNat)
   case atStart => exact ⟨0, x1, by omega, rfl, nx⟩
   case round =>
    clear nx
    obtain ⟨k, x1, hk, rfl, nx⟩ := hrel
    by_cases hkc : k < caps.length
    ·obtain ⟨P, hP⟩ : ∃ P, (lowH cp l s k).getD 0 = P := ⟨_, rfl⟩
     rw [hP] at nx
     have HP := Lib.hid hP
     clear hP
     go_wp2_with fail
     refine (rwhole_any wr 0 (by omega) (by omega)).mono ?_
     rintro e wn ⟨y1, rfl, _, n1, bb⟩
     replace nx := nx.below bb
     clear bb
     go_upto_region 11 with fail
     have v1 := (nv_alloc n1).1
     have bb := (nv_alloc n1).2
     have hG14 := nx.v.lt
     replace nx := nx.below bb
     clear n1 bb
     generalize (wn.alloc (.cells #[.bool y1.b, .slice y1.A y1.xs.length y1.c, .slice y1.D y1.ys.length y1.d] 41)) = wm at v1 nx ⊢
     generalize wn.heap.size = g14 at v1 hG14 ⊢
     go_wp2_with fail
     go_loopw [15, 16] (fun nv i wr => ∃ (j : Nat) (y : Fx), j ≤ fs.length ∧ i = .int .i64 j ∧ nv = .int .i64 (cnt l s k j : Nat) ∧ Nv wr g14 y (sumTo (tkS l s k) j) ∧ NxW w wr g10 x1 P) (fun _ i _ => fs.length - (intOf i).toNat)
     case atStart => exact ⟨0, y1, by omega, rfl, rfl, v1, nx⟩
     case round =>
      clear nx v1
      obtain ⟨j, y1, hj, rfl, rfl, v1, nx⟩ := hrel
      have hcn := cnt_le l s k j
      by_cases hjf : j < fs.length
      ·--D{
       obtain ⟨nj, hnj⟩ : ∃ nj, cnt l s k j = nj := ⟨_, rfl⟩
       have HNJ := Lib.hid hnj
       rw [hnj] at hcn ⊢
       clear hnj
       have hW := HD.out.below nx.b
       obtain ⟨ad, rfl, _, hcc⟩ := hW.rd (by omega)
       obtain ⟨hc0, hc1⟩ := hcc j hjf
       have hox := hW.ok _ (List.getElem_mem hjf)
       have hgl := (HGL.out j hjf).1
       obtain ⟨x, hx⟩ : ∃ x, fs[j] = x := ⟨_, rfl⟩
       rw [hx] at hc0 hc1 hox hgl
       obtain ⟨u, hu⟩ : ∃ u, decide ((k : Int) ∈ x.ls) = u := ⟨_, rfl⟩
       have HU := Lib.hid hu
       have HMG := Lib.hid hgl
       clear hcc hx hW hgl hu
       go_wp2_with fail
       refine (ruses_any wr x k u hox HU.out).mono ?_
       rintro e wx ⟨rfl, bb⟩
       replace nx := nx.below bb
       replace v1 := v1.below bb
       clear hox hc0 hc1 bb
       cases u with
       | false =>
         have hm : ¬ (k : Int) ∈ lkA l j := by rw [HMG.out]; exact of_decide_eq_false HU.out
         have HNN : Hid (cnt l s k (j + 1) = nj) := Lib.hid (by rw [cnt, if_neg (fun h => hm h.1), HNJ.out, Nat.add_zero])
         have HNT : Hid (sumTo (tkS l s k) (j + 1) = sumTo (tkS l s k) j) := Lib.hid (by
          have : tkS l s k j = 0 := by rw [tkS, if_neg (fun h => hm h.1)]
          rw [sumTo, this]; grind)
         clear hm
         go_wp2_with fail
         go_roundw
         case rel => exact ⟨j + 1, y1, by omega, by go_num, by rw [HNN.out], by rw [HNT.out]; exact v1, nx⟩
         case measure => simp [intOf]; omega
       | true =>
         have hm : (k : Int) ∈ lkA l j := by rw [HMG.out]; exact of_decide_eq_true HU.out
         have hkb : j < bs.length := by rw [HBL.out]; exact hjf
         obtain ⟨ae, rfl, _, hce⟩ := (HE.out.below nx.b rfl) (by omega)
         have hbk := hce j hkb
         have hba := HST.out j hkb
         obtain ⟨b1, hb1⟩ : ∃ b1, bs[j] = b1 := ⟨_, rfl⟩
         rw [hb1] at hbk hba
         clear hce hb1
         cases b1 with
         | false =>
           have HNN : Hid (cnt l s k (j + 1) = nj + 1) := Lib.hid (by rw [cnt, if_pos ⟨hm, hba⟩, HNJ.out])
           have HNT : Hid (sumTo (tkS l s k) (j + 1) = sumTo (tkS l s k) j) := Lib.hid (by
            have : tkS l s k j = 0 := by rw [tkS, if_neg (fun h => by rw [hba] at h; exact absurd h.2 (by simp))]
            rw [sumTo, this]; grind)
           clear hm hba
           go_wp2_with fail
           go_roundw
           case rel => exact ⟨j + 1, y1, by omega, by go_num, by rw [HNN.out]; go_num, by rw [HNT.out]; exact v1, nx⟩
           case measure => simp [intOf]; omega
         | true =>
           have HNN : Hid (cnt l s k (j + 1) = nj) := Lib.hid (by rw [cnt, if_neg (fun h => by rw [hba] at h; exact absurd h.2 (by simp)), HNJ.out, Nat.add_zero])
           have hkv : j < vs.length := by rw [HVL.out]; exact hjf
           have hnt : sumTo (tkS l s k) (j + 1) = sumTo (tkS l s k) j + vs[j].q := by
            have : tkS l s k j = s.r.getD j 0 := by rw [tkS, if_pos ⟨hm, hba⟩]
            rw [sumTo, this, HAT.out j hkv]
           have hnb := HS.out.fixed (by rw [HLL.out]; exact hle) k (j + 1) (by rw [HLL.out]; omega)
           rw [hnt] at hnb
           obtain ⟨ad2, rfl, el⟩ := HA.out.at j hkv
           have n2 := (okf_nm HOK.out HV.out hkv).below nx.b
           obtain ⟨x2, hx2⟩ : ∃ x2, vs[j] = x2 := ⟨_, rfl⟩
           rw [hx2] at el n2 hnb hnt
           have HEL : Hid (∀ w', Below w.heap.size w w' → w'.cell? (ad2.add (j * 3)) = some (.bool x2.b) ∧ w'.cell? ⟨(ad2.add (j * 3)).block, (ad2.add (j * 3)).off + 1, none⟩ = some (.slice x2.A x2.xs.length x2.c) ∧ w'.cell? ⟨(ad2.add (j * 3)).block, (ad2.add (j * 3)).off + 2, none⟩ = some (.slice x2.D x2.ys.length x2.d)) := Lib.hid (fun w' hb => ⟨(el.below hb).c0, (el.below hb).c1, (el.below hb).c2⟩)
           have H2 := Lib.hid n2
           have HNT := Lib.hid hnt
           have HNB : Hid (¬ bigQ (sumTo (tkS l s k) j + x2.q)) := hnb
           have H14 := Lib.hid v1
           have HNX := Lib.hid nx
           have HBW := Lib.hid nx.b
           clear hnt hx2 el n2 hnb hm hba
           go_upto_region 16 with fail
           clear v1 nx hbk
           refine wp_region_held_drew (S := fun w' => w'.cell? (ad2.add (j * 3)) = some (.bool x2.b) ∧ w'.cell? ⟨(ad2.add (j * 3)).block, (ad2.add (j * 3)).off + 1, none⟩ = some (.slice x2.A x2.xs.length x2.c) ∧ w'.cell? ⟨(ad2.add (j * 3)).block, (ad2.add (j * 3)).off + 2, none⟩ = some (.slice x2.D x2.ys.length x2.d)) (by kernel_rfl) (HEL.out _ (below_on HBW.out ((Below.refl wx.heap.size wx).drew) HBW.out.size)) (fun hHeld => ?_)
           have bz := (Below.refl wx.heap.size wx).drew
           generalize wx.drew = wd at *
           refine tkw 1 (.slice (some ad2) vs.length c) rfl (by kernel_rfl) (by kernel_rfl) (by kernel_rfl) (fun _ _ _ h => h) ⟨by rfl, ?_⟩ (by assumption) ?_
           ·intro w hSw; go_simp; (try with_reducible rfl)
           try simp only [Act.put, tzA, tzB, tzC, tzD, tzE, tzF]
           refine tkw 2 (.int .i64 (j : Int)) rfl (by kernel_rfl) (by kernel_rfl) (by kernel_rfl) (fun _ _ _ h => h) ⟨by rfl, ?_⟩ (by assumption) ?_
           ·intro w hSw; go_simp; (try with_reducible rfl)
           try simp only [Act.put, tzA, tzB, tzC, tzD, tzE, tzF]
           refine tkw 3 (.pointer (some (ad2.add (j * 3)))) rfl (by kernel_rfl) (by kernel_rfl) (by kernel_rfl) (fun _ _ _ h => h) ⟨by rfl, ?_⟩ (by assumption) ?_
           ·intro w hSw; go_simp; (try with_reducible rfl)
           try simp only [Act.put, tzA, tzB, tzC, tzD, tzE, tzF]
           refine tkw 4 (x2.val) rfl (by kernel_rfl) (by kernel_rfl) (by kernel_rfl) (fun _ _ _ h => h) ⟨by rfl, ?_⟩ (by assumption) ?_
           ·intro w hSw; (try dsimp only at hSw); obtain ⟨s0, s1, s2⟩ := hSw; go_simp; (try with_reducible rfl)
           try simp only [Act.put, tzA, tzB, tzC, tzD, tzE, tzF]
           refine wpAnyH_ready (rs := [0]) (by kernel_rfl) (by simp) ?_
           refine AllReadyH.cons rfl (fun K hK => ?_) ?_
           ·have vd := H14.out.below bz
            have k0 := vd.c0
            have k1 := vd.c1
            have k2 := vd.c2
            go_simp
            clear vd k0 k1 k2
            refine hK.out _ _ (HEL.out _ (by first | exact b5 | exact below_on HBW.out bz HBW.out.size)) (fun hHeld => ?_)
            clear hK K
            try simp only [Act.put]
            try simp only [tzD, tzE, tzF]
            refine wpAnyH_ready (rs := [5]) (by kernel_rfl) (by simp) ?_
            refine AllReadyH.cons rfl (fun K hK => ?_) ?_
            ·go_simp
             go_at_call 70
             refine (radd_nm wd y1 x2 _ _ (H14.out.below bz).nm (H2.out.below bz) HNB.out).mono ?_
             rintro e wd ⟨x3, rfl, n3, bb⟩
             try replace n3 := n3.below bb
             replace bz := below_on bz bb bz.size
             clear bb
             refine hK.out _ _ (HEL.out _ (by first | exact b5 | exact below_on HBW.out bz HBW.out.size)) (fun hHeld => ?_)
             clear hK K
             try simp only [Act.put]
             try simp only [tzD, tzE, tzF]
             refine tkw 6 (.tuple #[x3.val, .int .i64 0]) rfl (by kernel_rfl) (by kernel_rfl) (by kernel_rfl) (fun _ _ _ h => h) ⟨by rfl, ?_⟩ (by assumption) ?_
             ·intro w hSw; go_simp; (try with_reducible rfl)
             try simp only [Act.put, tzA, tzB, tzC, tzD, tzE, tzF]
             refine tkw 7 (x3.val) rfl (by kernel_rfl) (by kernel_rfl) (by kernel_rfl) (fun _ _ _ h => h) ⟨by rfl, ?_⟩ (by assumption) ?_
             ·intro w hSw; go_simp; (try with_reducible rfl)
             try simp only [Act.put, tzA, tzB, tzC, tzD, tzE, tzF]
             refine tkw 8 (.int .i64 0) rfl (by kernel_rfl) (by kernel_rfl) (by kernel_rfl) (fun _ _ _ h => h) ⟨by rfl, ?_⟩ (by assumption) ?_
             ·intro w hSw; go_simp; (try with_reducible rfl)
             try simp only [Act.put, tzA, tzB, tzC, tzD, tzE, tzF]
             refine wpAnyH_ready (rs := [9]) (by kernel_rfl) (by simp) ?_
             refine AllReadyH.cons rfl (fun K hK => ?_) ?_
             ·have vd := H14.out.below bz
              have nd := HNX.out.below bz
              have t := vd.fa.bk
              obtain ⟨k0, k1, k2, kf0, kf1, kf2, _, _⟩ := t
              go_simp
              clear k0 k1 k2 kf0 kf1 kf2
              have a3 := Nv.mk' (vd.fa.put n3.ok) n3
              have n4 := nd.far (v0 := .bool x3.b) (v1 := .slice x3.A x3.xs.length x3.c) (v2 := .slice x3.D x3.ys.length x3.d) vd hG14
              have b5 := n4.b
              clear vd nd bz n3 hHeld
              generalize (((wd.setCell ⟨g14, 0, none⟩ (.bool x3.b)).setCell ⟨g14, 1, none⟩ (.slice x3.A x3.xs.length x3.c)).setCell ⟨g14, 2, none⟩ (.slice x3.D x3.ys.length x3.d)) = we at *
              generalize we = wd at *
              refine hK.out _ _ (HEL.out _ (by first | exact b5 | exact below_on HBW.out bz HBW.out.size)) (fun hHeld => ?_)
              clear hK K
              try simp only [Act.put]
              try simp only [tzD, tzE, tzF]
              refine wpAnyH_done (by kernel_rfl) ?_ _
              go_wp2_with fail
              go_roundw
              case rel => exact ⟨j + 1, x3, by omega, by go_num, by rw [HNN.out], by rw [HNT.out]; exact a3, n4⟩
              case measure => simp [intOf]; omega
             exact AllReadyH.nil
            exact AllReadyH.nil
           exact AllReadyH.nil
--D}
      ·obtain rfl : j = fs.length := by omega
       obtain ⟨nk, hnk⟩ : ∃ nk, cnt l s k fs.length = nk := ⟨_, rfl⟩
       rw [hnk] at hcn ⊢
       have HNK : Hid (cnt l s k l.length = nk) := Lib.hid (by rw [HLL.out]; exact hnk)
       clear hnk
       by_cases hz : nk = 0
       ·have HLV : Hid (lowH cp l s (k + 1) = lowH cp l s k) := Lib.hid (lowH_none (by rw [lev, if_pos (by rw [HNK.out, hz])]))
        subst hz
        go_wp2_with fail
        go_roundw
        case rel => exact ⟨k + 1, x1, by omega, by go_num, by rw [HLV.out, HP.out]; exact nx⟩
        case measure => simp [intOf]; omega
       ·have hpos : 0 < nk := by omega
        have HNZ : Hid (((nk : Int) : Rat) ≠ 0) := Lib.hid (by rw [Rat.intCast_natCast]; simpa using hz)
        obtain ⟨ac, rfl, hcc⟩ := cp_cell HC.out hkc
        rw [HCP.out] at hcc
        have hcb := HCB.out k hkc
        have hlv : lev cp l s k = some (((cp k : Rat) - sumTo (tkS l s k) fs.length) / ((nk : Int) : Rat)) := by
         rw [lev, if_neg (by rw [HNK.out]; exact hz), HNK.out, Rat.intCast_natCast, HLL.out]
        have hlvs := HS.out.lvs (by rw [HLL.out]; exact hle) k hcb
        have hsz1 := hlvs.sz fs.length (by rw [HLL.out]; exact Nat.le_refl _)
        have hsz2 := hlvs.lev _ hlv
        obtain ⟨cl, hcl⟩ : ∃ cl, cp k = cl := ⟨_, rfl⟩
        rw [hcl] at hcc hcb hlv hsz1 hsz2
        have HCLB := Lib.hid hcb
        have HLV := Lib.hid hlv
        have HSZ1 := Lib.hid hsz1
        have HSZ2 := Lib.hid hsz2
        have HPP : Hid (lowH cp l s k = some P) := Lib.hid (by
         obtain ⟨y, hy⟩ := lowG_of_lev hlv
         obtain ⟨z, hz, _⟩ := lowH_k (cp := cp) k y hy
         have := HP.out
         rw [hz] at this
         rw [hz]; exact congrArg some this)
        have hbw := nx.b
        have HCC : Hid (∀ w', Below wr.heap.size wr w' → w'.cell? (ac.add k) = some (.int .i64 cl)) := Lib.hid (fun w' hb => hcc w' (below_on hbw hb hbw.size))
        have H14 := Lib.hid v1
        have HNX := Lib.hid nx
        clear hcl hcb hlv hsz1 hsz2 hlvs hz hcc hbw
        go_upto_region 19 with fail
        clear v1 nx
        go_cut [17, 18] (fun s17 s18 wy => ∃ (G : Nat) (x3 : Fx), s17 = .pointer (some ⟨G, 0, none⟩) ∧ s18 = .int .i64 0 ∧ Nv wy G x3 ((cl : Rat) - sumTo (tkS l s k) fs.length) ∧ wr.heap.size ≤ G ∧ Below wr.heap.size wr wy)
        case first =>
         refine wp_region_held_drew (S := fun w' => w'.cell? (ac.add k) = some (.int .i64 cl) ∧ w'.cell? ⟨g14, 0, none⟩ = some (.bool y1.b) ∧ w'.cell? ⟨g14, 1, none⟩ = some (.slice y1.A y1.xs.length y1.c) ∧ w'.cell? ⟨g14, 2, none⟩ = some (.slice y1.D y1.ys.length y1.d)) (by kernel_rfl) ⟨HCC.out _ ((Below.refl wr.heap.size wr).drew), (H14.out.below ((Below.refl wr.heap.size wr).drew)).c0, (H14.out.below ((Below.refl wr.heap.size wr).drew)).c1, (H14.out.below ((Below.refl wr.heap.size wr).drew)).c2⟩ (fun hHeld => ?_)
         have bz := (Below.refl wr.heap.size wr).drew
         generalize wr.drew = wd at *
         refine tkw 0 (.slice (some ac) caps.length cC) rfl (by kernel_rfl) (by kernel_rfl) (by kernel_rfl) (fun _ _ _ h => h) ⟨by rfl, ?_⟩ (by assumption) ?_
         ·intro w hSw; go_simp; (try with_reducible rfl)
         try simp only [Act.put, tzA, tzB, tzD, tzE, tzF]
         refine tkw 1 (.int .i64 (k : Int)) rfl (by kernel_rfl) (by kernel_rfl) (by kernel_rfl) (fun _ _ _ h => h) ⟨by rfl, ?_⟩ (by assumption) ?_
         ·intro w hSw; go_simp; (try with_reducible rfl)
         try simp only [Act.put, tzA, tzB, tzC, tzD, tzE, tzF]
         refine tkw 2 (.pointer (some (ac.add k))) rfl (by kernel_rfl) (by kernel_rfl) (by kernel_rfl) (fun _ _ _ h => h) ⟨by rfl, ?_⟩ (by assumption) ?_
         ·intro w hSw; go_simp; (try with_reducible rfl)
         try simp only [Act.put, tzA, tzB, tzC, tzD, tzE, tzF]
         refine tkw 3 (.int .i64 cl) rfl (by kernel_rfl) (by kernel_rfl) (by kernel_rfl) (fun _ _ _ h => h) ⟨by rfl, ?_⟩ (by assumption) ?_
         ·intro w hSw; (try dsimp only at hSw); obtain ⟨s0, _⟩ := hSw; go_simp; (try with_reducible rfl)
         try simp only [Act.put, tzA, tzB, tzC, tzD, tzE, tzF]
         refine tkw 5 (y1.val) rfl (by kernel_rfl) (by kernel_rfl) (by kernel_rfl) (fun _ _ _ h => h) ⟨by rfl, ?_⟩ (by assumption) ?_
         ·intro w hSw; (try dsimp only at hSw); obtain ⟨_, s0, s1, s2⟩ := hSw; go_simp; (try with_reducible rfl)
         try simp only [Act.put, tzA, tzB, tzC, tzD, tzE, tzF]
         refine wpAnyH_ready (rs := [4, 10]) (by kernel_rfl) (by simp) ?_
         refine AllReadyH.cons rfl (fun K hK => ?_) ?_
         ·go_simp
          go_at_call 34
          refine (rwhole_any wd cl (by have := HCLB.out; omega) (by have := HCLB.out; omega)).mono ?_
          rintro e wd ⟨y2, rfl, _, n4, bb⟩
          try replace k17 := k17.below bb
          try replace ok3 := ok3.below bb
          try replace n4 := n4.below bb
          replace bz := below_on bz bb bz.size
          clear bb
          refine hK.out _ _ ⟨HCC.out _ bz, (H14.out.below bz).c0, (H14.out.below bz).c1, (H14.out.below bz).c2⟩ (fun hHeld => ?_)
          clear hK K
          try simp only [Act.put]
          try simp only [tzD, tzE, tzF]
          refine wpAnyH_ready (rs := [6, 10]) (by kernel_rfl) (by simp) ?_
          refine AllReadyH.cons rfl (fun K hK => ?_) ?_
          ·go_simp
           go_at_call 71
           refine (rsub_nm wd y2 y1 _ _ n4 (H14.out.below bz).nm HSZ1.out).mono ?_
           rintro e wd ⟨x3, rfl, ok3, bb⟩
           clear n4
           try replace k17 := k17.below bb
           try replace ok3 := ok3.below bb
           try replace n4 := n4.below bb
           replace bz := below_on bz bb bz.size
           clear bb
           refine hK.out _ _ ⟨HCC.out _ bz, (H14.out.below bz).c0, (H14.out.below bz).c1, (H14.out.below bz).c2⟩ (fun hHeld => ?_)
           clear hK K
           try simp only [Act.put]
           try simp only [tzD, tzE, tzF]
           refine tkw 7 (.tuple #[x3.val, .int .i64 0]) rfl (by kernel_rfl) (by kernel_rfl) (by kernel_rfl) (fun _ _ _ h => h) ⟨by rfl, ?_⟩ (by assumption) ?_
           ·intro w hSw; go_simp; (try with_reducible rfl)
           try simp only [Act.put, tzA, tzB, tzC, tzD, tzE, tzF]
           refine tkw 8 (x3.val) rfl (by kernel_rfl) (by kernel_rfl) (by kernel_rfl) (fun _ _ _ h => h) ⟨by rfl, ?_⟩ (by assumption) ?_
           ·intro w hSw; go_simp; (try with_reducible rfl)
           try simp only [Act.put, tzA, tzB, tzC, tzD, tzE, tzF]
           refine tkw 9 (.int .i64 0) rfl (by kernel_rfl) (by kernel_rfl) (by kernel_rfl) (fun _ _ _ h => h) ⟨by rfl, ?_⟩ (by assumption) ?_
           ·intro w hSw; go_simp; (try with_reducible rfl)
           try simp only [Act.put, tzA, tzB, tzC, tzD, tzE, tzF]
           refine wpAnyH_ready (rs := [10]) (by kernel_rfl) (by simp) ?_
           refine AllReadyH.cons rfl (fun K hK => ?_) ?_
           ·go_simp
            have k17 := bk3_new wd
            have bb := (Below.refl wd.heap.size wd).alloc (Nat.le_refl _) (.cells #[.bool false, .slice none 0 0, .slice none 0 0] 41)
            have s17 := bz.size
            generalize h17 : wd.heap.size = g17 at k17 s17 ⊢
            try replace k17 := k17.below bb
            try replace ok3 := ok3.below bb
            try replace n4 := n4.below bb
            replace bz := below_on bz bb bz.size
            clear bb
            generalize (wd.alloc (.cells #[.bool false, .slice none 0 0, .slice none 0 0] 41)) = we at *
            clear h17
            generalize we = wd at *
            refine hK.out _ _ ⟨HCC.out _ bz, (H14.out.below bz).c0, (H14.out.below bz).c1, (H14.out.below bz).c2⟩ (fun hHeld => ?_)
            clear hK K
            try simp only [Act.put]
            try simp only [tzD, tzE, tzF]
            refine wpAnyH_ready (rs := [11]) (by kernel_rfl) (by simp) ?_
            refine AllReadyH.cons rfl (fun K hK => ?_) ?_
            ·have t := k17
             obtain ⟨k0, k1, k2, kf0, kf1, kf2, _, _⟩ := t
             go_simp
             clear k0 k1 k2 kf0 kf1 kf2
             have hk : Fa wd g17 Fx.nil := ⟨k17, Fx.nil_ok _⟩
             have a3 := Nv.mk' (hk.put ok3.ok) ok3
             have b5 := set3g (G := g17) (a := (.bool x3.b)) (b := (.slice x3.A x3.xs.length x3.c)) (c := (.slice x3.D x3.ys.length x3.d)) bz s17
             clear bz hk k17 ok3 hHeld
             generalize (((wd.setCell ⟨g17, 0, none⟩ (.bool x3.b)).setCell ⟨g17, 1, none⟩ (.slice x3.A x3.xs.length x3.c)).setCell ⟨g17, 2, none⟩ (.slice x3.D x3.ys.length x3.d)) = we at *
             have bz := b5
             clear b5
             generalize we = wd at *
             refine hK.out _ _ ⟨HCC.out _ bz, (H14.out.below bz).c0, (H14.out.below bz).c1, (H14.out.below bz).c2⟩ (fun hHeld => ?_)
             clear hK K
             try simp only [Act.put]
             try simp only [tzD, tzE, tzF]
             refine wpAnyH_ready (rs := [12]) (by kernel_rfl) (by simp) ?_
             refine AllReadyH.cons rfl (fun K hK => ?_) ?_
             ·go_simp
              refine hK.out _ _ ⟨HCC.out _ bz, (H14.out.below bz).c0, (H14.out.below bz).c1, (H14.out.below bz).c2⟩ (fun hHeld => ?_)
              clear hK K
              try simp only [Act.put]
              try simp only [tzD, tzE, tzF]
              refine wpAnyH_done (by kernel_rfl) ?_ _
              go_wp2_with fail
              go_meet
              case rel => exact ⟨g17, x3, rfl, rfl, a3, s17, bz⟩
             exact AllReadyH.nil
            exact AllReadyH.nil
           exact AllReadyH.nil
          refine AllReadyH.cons rfl (fun K hK => ?_) ?_
          ·go_simp
           have k17 := bk3_new wd
           have bb := (Below.refl wd.heap.size wd).alloc (Nat.le_refl _) (.cells #[.bool false, .slice none 0 0, .slice none 0 0] 41)
           have s17 := bz.size
           generalize h17 : wd.heap.size = g17 at k17 s17 ⊢
           try replace k17 := k17.below bb
           try replace ok3 := ok3.below bb
           try replace n4 := n4.below bb
           replace bz := below_on bz bb bz.size
           clear bb
           generalize (wd.alloc (.cells #[.bool false, .slice none 0 0, .slice none 0 0] 41)) = we at *
           clear h17
           generalize we = wd at *
           refine hK.out _ _ ⟨HCC.out _ bz, (H14.out.below bz).c0, (H14.out.below bz).c1, (H14.out.below bz).c2⟩ (fun hHeld => ?_)
           clear hK K
           try simp only [Act.put]
           try simp only [tzD, tzE, tzF]
           refine wpAnyH_ready (rs := [6]) (by kernel_rfl) (by simp) ?_
           refine AllReadyH.cons rfl (fun K hK => ?_) ?_
           ·go_simp
            go_at_call 71
            refine (rsub_nm wd y2 y1 _ _ n4 (H14.out.below bz).nm HSZ1.out).mono ?_
            rintro e wd ⟨x3, rfl, ok3, bb⟩
            clear n4
            try replace k17 := k17.below bb
            try replace ok3 := ok3.below bb
            try replace n4 := n4.below bb
            replace bz := below_on bz bb bz.size
            clear bb
            refine hK.out _ _ ⟨HCC.out _ bz, (H14.out.below bz).c0, (H14.out.below bz).c1, (H14.out.below bz).c2⟩ (fun hHeld => ?_)
            clear hK K
            try simp only [Act.put]
            try simp only [tzD, tzE, tzF]
            refine tkw 7 (.tuple #[x3.val, .int .i64 0]) rfl (by kernel_rfl) (by kernel_rfl) (by kernel_rfl) (fun _ _ _ h => h) ⟨by rfl, ?_⟩ (by assumption) ?_
            ·intro w hSw; go_simp; (try with_reducible rfl)
            try simp only [Act.put, tzA, tzB, tzC, tzD, tzE, tzF]
            refine tkw 8 (x3.val) rfl (by kernel_rfl) (by kernel_rfl) (by kernel_rfl) (fun _ _ _ h => h) ⟨by rfl, ?_⟩ (by assumption) ?_
            ·intro w hSw; go_simp; (try with_reducible rfl)
            try simp only [Act.put, tzA, tzB, tzC, tzD, tzE, tzF]
            refine tkw 9 (.int .i64 0) rfl (by kernel_rfl) (by kernel_rfl) (by kernel_rfl) (fun _ _ _ h => h) ⟨by rfl, ?_⟩ (by assumption) ?_
            ·intro w hSw; go_simp; (try with_reducible rfl)
            try simp only [Act.put, tzA, tzB, tzC, tzD, tzE, tzF]
            refine wpAnyH_ready (rs := [11]) (by kernel_rfl) (by simp) ?_
            refine AllReadyH.cons rfl (fun K hK => ?_) ?_
            ·have t := k17
             obtain ⟨k0, k1, k2, kf0, kf1, kf2, _, _⟩ := t
             go_simp
             clear k0 k1 k2 kf0 kf1 kf2
             have hk : Fa wd g17 Fx.nil := ⟨k17, Fx.nil_ok _⟩
             have a3 := Nv.mk' (hk.put ok3.ok) ok3
             have b5 := set3g (G := g17) (a := (.bool x3.b)) (b := (.slice x3.A x3.xs.length x3.c)) (c := (.slice x3.D x3.ys.length x3.d)) bz s17
             clear bz hk k17 ok3 hHeld
             generalize (((wd.setCell ⟨g17, 0, none⟩ (.bool x3.b)).setCell ⟨g17, 1, none⟩ (.slice x3.A x3.xs.length x3.c)).setCell ⟨g17, 2, none⟩ (.slice x3.D x3.ys.length x3.d)) = we at *
             have bz := b5
             clear b5
             generalize we = wd at *
             refine hK.out _ _ ⟨HCC.out _ bz, (H14.out.below bz).c0, (H14.out.below bz).c1, (H14.out.below bz).c2⟩ (fun hHeld => ?_)
             clear hK K
             try simp only [Act.put]
             try simp only [tzD, tzE, tzF]
             refine wpAnyH_ready (rs := [12]) (by kernel_rfl) (by simp) ?_
             refine AllReadyH.cons rfl (fun K hK => ?_) ?_
             ·go_simp
              refine hK.out _ _ ⟨HCC.out _ bz, (H14.out.below bz).c0, (H14.out.below bz).c1, (H14.out.below bz).c2⟩ (fun hHeld => ?_)
              clear hK K
              try simp only [Act.put]
              try simp only [tzD, tzE, tzF]
              refine wpAnyH_done (by kernel_rfl) ?_ _
              go_wp2_with fail
              go_meet
              case rel => exact ⟨g17, x3, rfl, rfl, a3, s17, bz⟩
             exact AllReadyH.nil
            exact AllReadyH.nil
           exact AllReadyH.nil
          exact AllReadyH.nil
         refine AllReadyH.cons rfl (fun K hK => ?_) ?_
         ·go_simp
          have k17 := bk3_new wd
          have bb := (Below.refl wd.heap.size wd).alloc (Nat.le_refl _) (.cells #[.bool false, .slice none 0 0, .slice none 0 0] 41)
          have s17 := bz.size
          generalize h17 : wd.heap.size = g17 at k17 s17 ⊢
          try replace k17 := k17.below bb
          try replace ok3 := ok3.below bb
          try replace n4 := n4.below bb
          replace bz := below_on bz bb bz.size
          clear bb
          generalize (wd.alloc (.cells #[.bool false, .slice none 0 0, .slice none 0 0] 41)) = we at *
          clear h17
          generalize we = wd at *
          refine hK.out _ _ ⟨HCC.out _ bz, (H14.out.below bz).c0, (H14.out.below bz).c1, (H14.out.below bz).c2⟩ (fun hHeld => ?_)
          clear hK K
          try simp only [Act.put]
          try simp only [tzD, tzE, tzF]
          refine wpAnyH_ready (rs := [4]) (by kernel_rfl) (by simp) ?_
          refine AllReadyH.cons rfl (fun K hK => ?_) ?_
          ·go_simp
           go_at_call 34
           refine (rwhole_any wd cl (by have := HCLB.out; omega) (by have := HCLB.out; omega)).mono ?_
           rintro e wd ⟨y2, rfl, _, n4, bb⟩
           try replace k17 := k17.below bb
           try replace ok3 := ok3.below bb
           try replace n4 := n4.below bb
           replace bz := below_on bz bb bz.size
           clear bb
           refine hK.out _ _ ⟨HCC.out _ bz, (H14.out.below bz).c0, (H14.out.below bz).c1, (H14.out.below bz).c2⟩ (fun hHeld => ?_)
           clear hK K
           try simp only [Act.put]
           try simp only [tzD, tzE, tzF]
           refine wpAnyH_ready (rs := [6]) (by kernel_rfl) (by simp) ?_
           refine AllReadyH.cons rfl (fun K hK => ?_) ?_
           ·go_simp
            go_at_call 71
            refine (rsub_nm wd y2 y1 _ _ n4 (H14.out.below bz).nm HSZ1.out).mono ?_
            rintro e wd ⟨x3, rfl, ok3, bb⟩
            clear n4
            try replace k17 := k17.below bb
            try replace ok3 := ok3.below bb
            try replace n4 := n4.below bb
            replace bz := below_on bz bb bz.size
            clear bb
            refine hK.out _ _ ⟨HCC.out _ bz, (H14.out.below bz).c0, (H14.out.below bz).c1, (H14.out.below bz).c2⟩ (fun hHeld => ?_)
            clear hK K
            try simp only [Act.put]
            try simp only [tzD, tzE, tzF]
            refine tkw 7 (.tuple #[x3.val, .int .i64 0]) rfl (by kernel_rfl) (by kernel_rfl) (by kernel_rfl) (fun _ _ _ h => h) ⟨by rfl, ?_⟩ (by assumption) ?_
            ·intro w hSw; go_simp; (try with_reducible rfl)
            try simp only [Act.put, tzA, tzB, tzC, tzD, tzE, tzF]
            refine tkw 8 (x3.val) rfl (by kernel_rfl) (by kernel_rfl) (by kernel_rfl) (fun _ _ _ h => h) ⟨by rfl, ?_⟩ (by assumption) ?_
            ·intro w hSw; go_simp; (try with_reducible rfl)
            try simp only [Act.put, tzA, tzB, tzC, tzD, tzE, tzF]
            refine tkw 9 (.int .i64 0) rfl (by kernel_rfl) (by kernel_rfl) (by kernel_rfl) (fun _ _ _ h => h) ⟨by rfl, ?_⟩ (by assumption) ?_
            ·intro w hSw; go_simp; (try with_reducible rfl)
            try simp only [Act.put, tzA, tzB, tzC, tzD, tzE, tzF]
            refine wpAnyH_ready (rs := [11]) (by kernel_rfl) (by simp) ?_
            refine AllReadyH.cons rfl (fun K hK => ?_) ?_
            ·have t := k17
             obtain ⟨k0, k1, k2, kf0, kf1, kf2, _, _⟩ := t
             go_simp
             clear k0 k1 k2 kf0 kf1 kf2
             have hk : Fa wd g17 Fx.nil := ⟨k17, Fx.nil_ok _⟩
             have a3 := Nv.mk' (hk.put ok3.ok) ok3
             have b5 := set3g (G := g17) (a := (.bool x3.b)) (b := (.slice x3.A x3.xs.length x3.c)) (c := (.slice x3.D x3.ys.length x3.d)) bz s17
             clear bz hk k17 ok3 hHeld
             generalize (((wd.setCell ⟨g17, 0, none⟩ (.bool x3.b)).setCell ⟨g17, 1, none⟩ (.slice x3.A x3.xs.length x3.c)).setCell ⟨g17, 2, none⟩ (.slice x3.D x3.ys.length x3.d)) = we at *
             have bz := b5
             clear b5
             generalize we = wd at *
             refine hK.out _ _ ⟨HCC.out _ bz, (H14.out.below bz).c0, (H14.out.below bz).c1, (H14.out.below bz).c2⟩ (fun hHeld => ?_)
             clear hK K
             try simp only [Act.put]
             try simp only [tzD, tzE, tzF]
             refine wpAnyH_ready (rs := [12]) (by kernel_rfl) (by simp) ?_
             refine AllReadyH.cons rfl (fun K hK => ?_) ?_
             ·go_simp
              refine hK.out _ _ ⟨HCC.out _ bz, (H14.out.below bz).c0, (H14.out.below bz).c1, (H14.out.below bz).c2⟩ (fun hHeld => ?_)
              clear hK K
              try simp only [Act.put]
              try simp only [tzD, tzE, tzF]
              refine wpAnyH_done (by kernel_rfl) ?_ _
              go_wp2_with fail
              go_meet
              case rel => exact ⟨g17, x3, rfl, rfl, a3, s17, bz⟩
             exact AllReadyH.nil
            exact AllReadyH.nil
           exact AllReadyH.nil
          exact AllReadyH.nil
         exact AllReadyH.nil
        case rest =>
         obtain ⟨g17, x3, rfl, rfl, v17, hg17, bb⟩ := hcut
         have HBY : Hid (Below wr.heap.size wr wc) := Lib.hid bb
         have H17 := Lib.hid v17
         have HG17 := Lib.hid hg17
         clear bb v17 H14
         go_upto_region 20 with fail
         go_cut [] (fun wz => ∃ x5 : Fx, Nv wz g17 x5 (((cl : Rat) - sumTo (tkS l s k) fs.length) / ((nk : Int) : Rat)) ∧ Rp x5 (((cl : Rat) - sumTo (tkS l s k) fs.length) / ((nk : Int) : Rat)) ∧ Below wr.heap.size wr wz)
         case first =>
          refine wp_region_held_drew (S := fun w' => True) (by kernel_rfl) trivial (fun hHeld => ?_)
          have bz := (Below.refl wc.heap.size wc).drew
          generalize wc.drew = wd at *
          refine tkw 1 (.int .i64 (nk : Int)) rfl (by kernel_rfl) (by kernel_rfl) (by kernel_rfl) (fun _ _ _ h => h) ⟨by rfl, ?_⟩ (by assumption) ?_
          ·intro w hSw; go_simp; (try with_reducible rfl)
          try simp only [Act.put, tzA, tzB, tzC, tzD, tzE, tzF]
          refine wpAnyH_ready (rs := [0, 2]) (by kernel_rfl) (by simp) ?_
          refine AllReadyH.cons rfl (fun K hK => ?_) ?_
          ·have vd := H17.out.below bz
           have k0 := vd.c0
           have k1 := vd.c1
           have k2 := vd.c2
           go_simp
           clear vd k0 k1 k2
           refine hK.out _ _ trivial (fun hHeld => ?_)
           clear hK K
           try simp only [Act.put]
           try simp only [tzD, tzE, tzF]
           refine wpAnyH_ready (rs := [2]) (by kernel_rfl) (by simp) ?_
           refine AllReadyH.cons rfl (fun K hK => ?_) ?_
           ·go_simp
            go_at_call 34
            refine (rwhole_any wd _ (by omega) (by omega)).mono ?_
            rintro e wd ⟨y4, rfl, r4, n4, bb⟩
            try replace n4 := n4.below bb
            try replace n5 := n5.below bb
            replace bz := below_on bz bb bz.size
            clear bb
            refine hK.out _ _ trivial (fun hHeld => ?_)
            clear hK K
            try simp only [Act.put]
            try simp only [tzD, tzE, tzF]
            refine wpAnyH_ready (rs := [3]) (by kernel_rfl) (by simp) ?_
            refine AllReadyH.cons rfl (fun K hK => ?_) ?_
            ·go_simp
             go_at_call 72
             refine (rquo_nm wd x3 y4 _ _ (H17.out.below bz).nm n4 r4 HNZ.out HSZ2.out).mono ?_
             rintro e wd ⟨x5, rfl, r5, n5, bb⟩
             clear n4
             try replace n4 := n4.below bb
             try replace n5 := n5.below bb
             replace bz := below_on bz bb bz.size
             clear bb
             refine hK.out _ _ trivial (fun hHeld => ?_)
             clear hK K
             try simp only [Act.put]
             try simp only [tzD, tzE, tzF]
             refine tkw 4 (.tuple #[x5.val, .int .i64 0]) rfl (by kernel_rfl) (by kernel_rfl) (by kernel_rfl) (fun _ _ _ h => h) ⟨by rfl, ?_⟩ (by assumption) ?_
             ·intro w hSw; go_simp; (try with_reducible rfl)
             try simp only [Act.put, tzA, tzB, tzC, tzD, tzE, tzF]
             refine tkw 5 (x5.val) rfl (by kernel_rfl) (by kernel_rfl) (by kernel_rfl) (fun _ _ _ h => h) ⟨by rfl, ?_⟩ (by assumption) ?_
             ·intro w hSw; go_simp; (try with_reducible rfl)
             try simp only [Act.put, tzA, tzB, tzC, tzD, tzE, tzF]
             refine tkw 6 (.int .i64 0) rfl (by kernel_rfl) (by kernel_rfl) (by kernel_rfl) (fun _ _ _ h => h) ⟨by rfl, ?_⟩ (by assumption) ?_
             ·intro w hSw; go_simp; (try with_reducible rfl)
             try simp only [Act.put, tzA, tzB, tzC, tzD, tzE, tzF]
             refine wpAnyH_ready (rs := [7]) (by kernel_rfl) (by simp) ?_
             refine AllReadyH.cons rfl (fun K hK => ?_) ?_
             ·have vd := H17.out.below bz
              have t := vd.fa.bk
              obtain ⟨k0, k1, k2, kf0, kf1, kf2, _, _⟩ := t
              go_simp
              clear k0 k1 k2 kf0 kf1 kf2
              have a5 := Nv.mk' (vd.fa.put n5.ok) n5
              have b5 := set3g (G := g17) (a := .bool x5.b) (b := .slice x5.A x5.xs.length x5.c) (c := .slice x5.D x5.ys.length x5.d) (below_on HBY.out bz HBY.out.size) HG17.out
              clear vd bz n5 hHeld
              generalize (((wd.setCell ⟨g17, 0, none⟩ (.bool x5.b)).setCell ⟨g17, 1, none⟩ (.slice x5.A x5.xs.length x5.c)).setCell ⟨g17, 2, none⟩ (.slice x5.D x5.ys.length x5.d)) = we at *
              generalize we = wd at *
              refine hK.out _ _ trivial (fun hHeld => ?_)
              clear hK K
              try simp only [Act.put]
              try simp only [tzD, tzE, tzF]
              refine wpAnyH_done (by kernel_rfl) ?_ _
              go_wp2_with fail
              go_meet
              case rel => exact ⟨x5, a5, r5, b5⟩
             exact AllReadyH.nil
            exact AllReadyH.nil
           exact AllReadyH.nil
          refine AllReadyH.cons rfl (fun K hK => ?_) ?_
          ·go_simp
           go_at_call 34
           refine (rwhole_any wd _ (by omega) (by omega)).mono ?_
           rintro e wd ⟨y4, rfl, r4, n4, bb⟩
           try replace n4 := n4.below bb
           try replace n5 := n5.below bb
           replace bz := below_on bz bb bz.size
           clear bb
           refine hK.out _ _ trivial (fun hHeld => ?_)
           clear hK K
           try simp only [Act.put]
           try simp only [tzD, tzE, tzF]
           refine wpAnyH_ready (rs := [0]) (by kernel_rfl) (by simp) ?_
           refine AllReadyH.cons rfl (fun K hK => ?_) ?_
           ·have vd := H17.out.below bz
            have k0 := vd.c0
            have k1 := vd.c1
            have k2 := vd.c2
            go_simp
            clear vd k0 k1 k2
            refine hK.out _ _ trivial (fun hHeld => ?_)
            clear hK K
            try simp only [Act.put]
            try simp only [tzD, tzE, tzF]
            refine wpAnyH_ready (rs := [3]) (by kernel_rfl) (by simp) ?_
            refine AllReadyH.cons rfl (fun K hK => ?_) ?_
            ·go_simp
             go_at_call 72
             refine (rquo_nm wd x3 y4 _ _ (H17.out.below bz).nm n4 r4 HNZ.out HSZ2.out).mono ?_
             rintro e wd ⟨x5, rfl, r5, n5, bb⟩
             clear n4
             try replace n4 := n4.below bb
             try replace n5 := n5.below bb
             replace bz := below_on bz bb bz.size
             clear bb
             refine hK.out _ _ trivial (fun hHeld => ?_)
             clear hK K
             try simp only [Act.put]
             try simp only [tzD, tzE, tzF]
             refine tkw 4 (.tuple #[x5.val, .int .i64 0]) rfl (by kernel_rfl) (by kernel_rfl) (by kernel_rfl) (fun _ _ _ h => h) ⟨by rfl, ?_⟩ (by assumption) ?_
             ·intro w hSw; go_simp; (try with_reducible rfl)
             try simp only [Act.put, tzA, tzB, tzC, tzD, tzE, tzF]
             refine tkw 5 (x5.val) rfl (by kernel_rfl) (by kernel_rfl) (by kernel_rfl) (fun _ _ _ h => h) ⟨by rfl, ?_⟩ (by assumption) ?_
             ·intro w hSw; go_simp; (try with_reducible rfl)
             try simp only [Act.put, tzA, tzB, tzC, tzD, tzE, tzF]
             refine tkw 6 (.int .i64 0) rfl (by kernel_rfl) (by kernel_rfl) (by kernel_rfl) (fun _ _ _ h => h) ⟨by rfl, ?_⟩ (by assumption) ?_
             ·intro w hSw; go_simp; (try with_reducible rfl)
             try simp only [Act.put, tzA, tzB, tzC, tzD, tzE, tzF]
             refine wpAnyH_ready (rs := [7]) (by kernel_rfl) (by simp) ?_
             refine AllReadyH.cons rfl (fun K hK => ?_) ?_
             ·have vd := H17.out.below bz
              have t := vd.fa.bk
              obtain ⟨k0, k1, k2, kf0, kf1, kf2, _, _⟩ := t
              go_simp
              clear k0 k1 k2 kf0 kf1 kf2
              have a5 := Nv.mk' (vd.fa.put n5.ok) n5
              have b5 := set3g (G := g17) (a := .bool x5.b) (b := .slice x5.A x5.xs.length x5.c) (c := .slice x5.D x5.ys.length x5.d) (below_on HBY.out bz HBY.out.size) HG17.out
              clear vd bz n5 hHeld
              generalize (((wd.setCell ⟨g17, 0, none⟩ (.bool x5.b)).setCell ⟨g17, 1, none⟩ (.slice x5.A x5.xs.length x5.c)).setCell ⟨g17, 2, none⟩ (.slice x5.D x5.ys.length x5.d)) = we at *
              generalize we = wd at *
              refine hK.out _ _ trivial (fun hHeld => ?_)
              clear hK K
              try simp only [Act.put]
              try simp only [tzD, tzE, tzF]
              refine wpAnyH_done (by kernel_rfl) ?_ _
              go_wp2_with fail
              go_meet
              case rel => exact ⟨x5, a5, r5, b5⟩
             exact AllReadyH.nil
            exact AllReadyH.nil
           exact AllReadyH.nil
          exact AllReadyH.nil
         case rest =>
          obtain ⟨x5, v17, r17, bb⟩ := hcut
          have nx := HNX.out.below bb
          clear bb HNX HBY H17
          obtain ⟨q, hq⟩ : ∃ q, (((cl : Rat) - sumTo (tkS l s k) fs.length) / ((nk : Int) : Rat)) = q := ⟨_, rfl⟩
          rw [hq] at v17 r17 HLV
          clear hq HSZ2
          obtain ⟨u, hu⟩ : ∃ u, decide (q < P) = u := ⟨_, rfl⟩
          have HU := Lib.hid hu
          clear hu
          have c0 := v17.c0
          have c1 := v17.c1
          have c2 := v17.c2
          have d0 := nx.v.c0
          have d1 := nx.v.c1
          have d2 := nx.v.c2
          go_wp2_with fail
          refine (rless_any _ x5 x1 q P u v17.nm nx.v.nm HU.out).mono ?_
          rintro e wv ⟨rfl, bb⟩
          replace nx := nx.below bb
          replace v17 := v17.below bb
          clear bb c0 c1 c2 d0 d1 d2
          cases u with
          | true =>
            have HNH : Hid (lowH cp l s (k + 1) = some q) := Lib.hid (lowH_less HLV.out HPP.out (of_decide_eq_true HU.out))
            have t := nx.v.fa.bk
            obtain ⟨k0, k1, k2, kf0, kf1, kf2, _, _⟩ := t
            have c0 := v17.c0
            have c1 := v17.c1
            have c2 := v17.c2
            go_wp2_with fail
            clear k0 k1 k2 kf0 kf1 kf2 c0 c1 c2
            replace nx := nx.put v17.nm r17
            clear v17 r17
            generalize (((wv.setCell ⟨g10, 0, none⟩ (.bool x5.b)).setCell ⟨g10, 1, none⟩ (.slice x5.A x5.xs.length x5.c)).setCell ⟨g10, 2, none⟩ (.slice x5.D x5.ys.length x5.d)) = we at nx ⊢
            go_roundw
            case rel => exact ⟨k + 1, x5, by omega, by go_num, by rw [HNH.out]; exact nx⟩
            case measure => simp [intOf]; omega
          | false =>
            have HNH : Hid (lowH cp l s (k + 1) = some P) := Lib.hid (lowH_keep HLV.out HPP.out (of_decide_eq_false HU.out))
            go_wp2_with fail
            go_roundw
            case rel => exact ⟨k + 1, x1, by omega, by go_num, by rw [HNH.out]; exact nx⟩
            case measure => simp [intOf]; omega
    ·obtain rfl : k = caps.length := by omega
     have HSL := Lib.hid (HSM.out caps.length)
     go_upto_region 23 with fail
     have bk := nx.k
     have tk := bk
     obtain ⟨k0, k1, k2, kf0, kf1, kf2, klt, kb⟩ := tk
     clear kb
     have d0 := nx.v.c0
     have d1 := nx.v.c1
     have d2 := nx.v.c2
     go_wp2_with fail
     refine bodyPost_ret (v := .tuple #[x1.val, .bool S]) (by simp [results, Try.results48, go_sem, k0, k1, k2]) rfl ?_
     refine ⟨x1, by rw [HSL.out], nx.r, ?_, set3g nx.b (Nat.le_refl _)⟩
     have n := nx.v.nm
     exact ⟨set3_ok n.ok nx.k rfl rfl rfl, n.v, n.q, n.l, n.m⟩
end Go.Proofs.Ythdfflbhogfejaa
