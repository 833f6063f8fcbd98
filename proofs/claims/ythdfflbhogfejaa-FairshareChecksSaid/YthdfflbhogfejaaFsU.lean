/- The walks of fairshare.full and fairshare.Units. -/
import Derived.Test.YthdfflbhogfejaaFsV
import Derived.Laws.CopyOwn
import Derived.Deep.MidRow
import Derived.BigQuiet
import Derived.Deep.QuietTactic
namespace Go.Proofs.Ythdfflbhogfejaa
set_option maxRecDepth 100000
open Go.RowKit

theorem full_any (w : World) (L : List Int) (A : Option Addr) (n c : Nat) (ls : List Int) (b : Bool) (hL : L.length = 64) (hA : Is w A c ls) (hn : n = ls.length) (hr : ∀ e ∈ ls, 0 ≤ e ∧ e < 64) (hb : decide (∃ e ∈ ls, L.getD e.toNat 0 = 0) = b) :
    Calls Try.prog 37 #[.agg (L.map iv).toArray, .slice A n c] w fun e w' => e = .returned (.bool b) ∧ Below w.heap.size w w' := by
  have HB := Lib.hid hb; clear hb
  have HL := Lib.hid hL; clear hL
  have HR := Lib.hid hr; clear hr
  subst hn
  have hlen := hA.len
  go_enter Try.func37, Try.ntmps37
  go_upto_region 1 with fail
  have hg := Gr.lit (mk := iv) (e := 55) (B := w.heap.size) w L (L.map iv).toArray (by simp) (by rw [HL.out]; simp [maxLen]) (Nat.le_refl _)
  have bb := (Below.refl w.heap.size w).alloc (Nat.le_refl _) (.cells (L.map iv).toArray 55)
  have HA := Lib.hid (hA.below bb)
  clear hA
  generalize (w.alloc (.cells (L.map iv).toArray 55)) = wm at hg bb HA ⊢
  have HG := Lib.hid hg
  clear hg
  go_wp2_with fail
  go_loop [9] (fun i => ∃ k : Nat, k ≤ ls.length ∧ i = .int .i64 k ∧ ∀ e ∈ ls.take k, L.getD e.toNat 0 ≠ 0) (fun i => ls.length - (intOf i).toNat)
  case atStart => exact ⟨0, by omega, rfl, by intro e he; simp at he⟩
  case round =>
    obtain ⟨k, hk, rfl, hP⟩ := hrel
    have HP := Lib.hid hP
    clear hP
    by_cases hlt : k < ls.length
    · obtain ⟨ad, rfl, _, hc⟩ := HA.out.at k hlt
      obtain ⟨h0, h64⟩ := HR.out _ (List.getElem_mem hlt)
      obtain ⟨t, ht⟩ : ∃ t : Nat, ls[k] = (t : Int) := ⟨ls[k].toNat, by omega⟩
      have htl : t < L.length := by rw [HL.out]; omega
      have hgc := HG.out.cell t htl
      have HE : Hid (L.getD (ls[k]).toNat 0 = L[t]) := Lib.hid (by rw [ht, Int.toNat_natCast, getD_lt _ _ _ htl])
      have HM : Hid (ls[k] ∈ ls) := Lib.hid (List.getElem_mem hlt)
      rw [ht] at hc h0 h64
      have HT := Lib.hid ht
      clear ht
      by_cases hz : L[t] = 0
      · have hz' : (L[t] == 0) = true := by simp [hz]
        have HZ := Lib.hid hz
        clear hz
        go_wp2_with fail
        go_ret
        exact ⟨ret_bool (by rw [← HB.out]; symm; exact decide_eq_true ⟨ls[k], HM.out, by rw [HE.out]; exact HZ.out⟩), bb⟩
      · have hz' : (L[t] == 0) = false := by simp [hz]
        have HZ : Hid (¬ L[t] = 0) := hz
        clear hz
        go_wp2_with fail
        go_round
        case rel => exact ⟨k + 1, by omega, by go_num, by
          intro e he
          rw [List.take_succ_eq_append_getElem hlt, List.mem_append, List.mem_singleton] at he
          rcases he with he | he
          · exact HP.out e he
          · rw [he, HE.out]; exact HZ.out⟩
        case measure => simp [intOf]; omega
    · go_wp2_with fail
      go_ret
      exact ⟨ret_bool (by
        rw [← HB.out]; symm
        refine decide_eq_false (fun ⟨e, he, hz⟩ => ?_)
        exact HP.out e (by rw [List.take_of_length_le (by omega)]; exact he) hz), bb⟩

theorem gr_range {w : World} {B g c : Nat} {e : TypeId} {L : List Int} (h : Gr iv e w B (some ⟨g, 0, none⟩) c L) : w.rangeAt g 0 (L.map iv) := fun j v hv => by
  rw [List.getElem?_map] at hv
  rcases Nat.lt_or_ge j L.length with h1 | h1
  · rw [List.getElem?_eq_getElem h1] at hv
    simp only [Option.map_some, Option.some.injEq] at hv
    rw [← hv, Nat.zero_add]; exact h.cell j h1
  · rw [List.getElem?_eq_none h1] at hv; simp at hv
theorem undrew {B : Nat} {a w : World} (h : Below B a.drew w) : Below B a w := ⟨h.os, h.tape, h.output, h.size, h.block⟩
/-- the state of Units in memory; x: what is not yet taken off the links -/
structure UW (cp : Int → Int) (l : List Fl) (w wr : World) (TL : TypeId) (AL : Option Addr) (cL nL nC : Nat) (AO AF : Option Addr) (cO cF : Nat) (s : Un) (x : Int → Int) : Prop where
  lf : ∃ L : List Int, L.length = nL ∧ Gr iv TL wr w.heap.size AL cL L ∧ ∀ e : Nat, e < nC → L.getD e 0 = cp (e : Int) - ld l s.out (e : Int) + x (e : Int)
  ou : Gr iv 3 wr w.heap.size AO cO s.out
  fi : Gr Value.bool 4 wr w.heap.size AF cF s.fin
  bw : Below w.heap.size w wr
theorem UW.below {cp : Int → Int} {l : List Fl} {w wr wn : World} {TL : TypeId} {AL : Option Addr} {cL nL nC : Nat} {AO AF : Option Addr} {cO cF : Nat} {s : Un} {x : Int → Int} (h : UW cp l w wr TL AL cL nL nC AO AF cO cF s x) (hb : Below wr.heap.size wr wn) : UW cp l w wn TL AL cL nL nC AO AF cO cF s x := by
  obtain ⟨L, h1, h2, h3⟩ := h.lf
  exact ⟨⟨L, h1, h2.below hb, h3⟩, h.ou.below hb, h.fi.below hb, below_on h.bw hb h.bw.size⟩
section
variable {cp : Int → Int} {l : List Fl} {w wr : World} {TL : TypeId} {AL : Option Addr} {cL nL nC : Nat} {go gf : Nat} {cO cF : Nat} {s : Un} {x : Int → Int}
theorem UW.setFin (h : UW cp l w wr TL AL cL nL nC (some ⟨go, 0, none⟩) (some ⟨gf, 0, none⟩) cO cF s x) (i : Nat) (h1 : ∀ ad, AL = some ad → ad.block ≠ gf) (h2 : go ≠ gf) :
    UW cp l w (wr.setCell ⟨gf, i, none⟩ (.bool true)) TL AL cL nL nC (some ⟨go, 0, none⟩) (some ⟨gf, 0, none⟩) cO cF ⟨s.out, s.fin.set i true⟩ x := by
  obtain ⟨L, e1, e2, e3⟩ := h.lf
  refine ⟨⟨L, e1, e2.far h1 _, e3⟩, h.ou.far (by intro ad e; injection e with e; subst e; exact h2) _, ?_, h.bw.setCell (p := ⟨gf, i, none⟩) (h.fi.form.2.2 _ rfl).1 _⟩
  show Gr Value.bool _ _ _ _ _ _
  exact h.fi.store i true
theorem UW.setOut (h : UW cp l w wr TL AL cL nL nC (some ⟨go, 0, none⟩) (some ⟨gf, 0, none⟩) cO cF s (fun _ => 0)) (i : Nat) (hi : i < s.out.length) (h1 : ∀ ad, AL = some ad → ad.block ≠ go) (h2 : gf ≠ go) (v : Int) (hv : v = s.out.getD i 0 + 1) (ls : List Int) (hls : ls = lkA l i) :
    UW cp l w (wr.setCell ⟨go, i, none⟩ (iv v)) TL AL cL nL nC (some ⟨go, 0, none⟩) (some ⟨gf, 0, none⟩) cO cF ⟨s.out.set i (s.out.getD i 0 + 1), s.fin⟩ (fun e => ((ls.drop 0).count e : Int)) := by
  obtain ⟨L, e1, e2, e3⟩ := h.lf
  subst hv
  refine ⟨⟨L, e1, e2.far h1 _, fun e he => ?_⟩, ?_, h.fi.far (by intro ad e; injection e with e; subst e; exact h2) _, h.bw.setCell (p := ⟨go, i, none⟩) (h.ou.form.2.2 _ rfl).1 _⟩
  · rw [e3 e he, ld_set l s.out i _ _ hi, List.drop_zero, hls]
    have : s.out.getD i 0 + 1 - s.out.getD i 0 = 1 := by omega
    rw [this, Int.mul_one]; omega
  · show Gr iv _ _ _ _ _ _
    exact h.ou.store i _
theorem UW.congr {y : Int → Int} {AO AF : Option Addr} (h : UW cp l w wr TL AL cL nL nC AO AF cO cF s x) (hxy : ∀ e : Nat, e < nC → x (e : Int) = y (e : Int)) : UW cp l w wr TL AL cL nL nC AO AF cO cF s y := by
  obtain ⟨L, e1, e2, e3⟩ := h.lf
  exact ⟨⟨L, e1, e2, fun e he => by rw [← hxy e he]; exact e3 e he⟩, h.ou, h.fi, h.bw⟩
theorem UW.decr {gl : Nat} {ls : List Int} {j t : Nat} (h : UW cp l w wr TL (some ⟨gl, 0, none⟩) cL nL nC (some ⟨go, 0, none⟩) (some ⟨gf, 0, none⟩) cO cF s (fun e => ((ls.drop j).count e : Int))) (hj : j < ls.length) (ht : ls[j] = (t : Int)) (hn : t < nC) (h1 : go ≠ gl) (h2 : gf ≠ gl) (v : Int)
    (hv : ∀ L : List Int, L.length = nL → (∀ k (hk : k < L.length), wr.cell? ⟨gl, k, none⟩ = some (iv L[k])) → v = L.getD t 0 - 1) (hnL : nC ≤ nL) :
    UW cp l w (wr.setCell ⟨gl, t, none⟩ (iv v)) TL (some ⟨gl, 0, none⟩) cL nL nC (some ⟨go, 0, none⟩) (some ⟨gf, 0, none⟩) cO cF s (fun e => ((ls.drop (j + 1)).count e : Int)) := by
  obtain ⟨L, e1, e2, e3⟩ := h.lf
  have hv := hv L e1 (fun k hk => e2.cell k hk)
  subst hv
  refine ⟨⟨L.set t (L.getD t 0 - 1), by rw [List.length_set]; exact e1, ?_, fun e he => ?_⟩, h.ou.far (by intro ad e; injection e with e; subst e; exact h1) _, h.fi.far (by intro ad e; injection e with e; subst e; exact h2) _, h.bw.setCell (p := ⟨gl, t, none⟩) (e2.form.2.2 _ rfl).1 _⟩
  · exact e2.store t _
  · have e4 := e3 e he
    rw [List.drop_eq_getElem_cons hj, List.count_cons, ht] at e4
    rw [getD_set]
    by_cases hte : t = e
    · subst hte
      rw [if_pos ⟨rfl, by omega⟩]
      simp only [beq_self_eq_true, if_true] at e4
      show L.getD t 0 - 1 = cp (t : Int) - ld l s.out (t : Int) + ((ls.drop (j + 1)).count (t : Int) : Int)
      omega
    · rw [if_neg (by omega), e4]
      have : ((t : Int) == (e : Int)) = false := beq_eq_false_iff_ne.2 (by omega)
      simp [this]
end
theorem UW.is_full {cp : Int → Int} {l : List Fl} {out L : List Int} {nC : Nat} {i : Nat} (h3 : ∀ e : Nat, e < nC → L.getD e 0 = cp (e : Int) - ld l out (e : Int) + 0) (hr : ∀ e ∈ lkA l i, 0 ≤ e ∧ e < nC) : (∃ e ∈ lkA l i, L.getD e.toNat 0 = 0) ↔ fullU cp l out i := by
  unfold fullU
  constructor
  · rintro ⟨e, he, hz⟩
    refine ⟨e, he, ?_⟩
    obtain ⟨t, rfl⟩ : ∃ t : Nat, e = (t : Int) := ⟨e.toNat, by have := hr e he; omega⟩
    have := h3 t (by have := hr _ he; omega)
    rw [Int.toNat_natCast] at hz
    omega
  · rintro ⟨e, he, hz⟩
    refine ⟨e, he, ?_⟩
    obtain ⟨t, rfl⟩ : ∃ t : Nat, e = (t : Int) := ⟨e.toNat, by have := hr e he; omega⟩
    have := h3 t (by have := hr _ he; omega)
    rw [Int.toNat_natCast]
    omega
theorem splice_left (caps : List Int) (n : Nat) : splice (List.replicate n (iv 0)) 0 (caps.map iv) = (caps ++ List.replicate (n - caps.length) 0).map iv := by
  simp only [splice, List.take_zero, List.nil_append, List.drop_replicate, List.map_append, List.map_replicate, List.length_map, Nat.zero_add]
theorem gr_block {w : World} {g c n : Nat} {e : TypeId} {L : List Int} {B : Nat} (h : w.heap[g]? = some (.cells (L.map iv).toArray e (0, 0))) (hL : L.length = n) (hc : c = n) (hn : n ≤ maxLen) (hB : B ≤ g) : Gr iv e w B (some ⟨g, 0, none⟩) c L := by
  subst hL hc
  exact ⟨by simp, .inr ⟨g, _, _, rfl, hB, h, Nat.le_refl _, hn, by simp, by rw [List.take_of_length_le (by simp)]⟩⟩
set_option maxHeartbeats 1600000 in
theorem funits_ok (w : World) (A : Option Addr) (n c : Nat) (caps : List Int) (D : Option Addr) (m d : Nat) (fs : List Fm) (hA : Is w A c caps) (hD : Ws w D d fs) (hn : n = caps.length) (hm : m = fs.length) (hv : validFl caps (fs.map Fm.fl)) :
    Calls Try.prog 18 #[.slice A n c, .slice D m d] w fun e w' => ∃ A' c', e = .returned (.tuple #[.slice A' (unitsM (cpF caps) (fs.map Fm.fl)).length c', .int .i64 0]) ∧ Gr iv 3 w' w.heap.size A' c' (unitsM (cpF caps) (fs.map Fm.fl)) ∧ Below w.heap.size w w' := by
  have HA := Lib.hid hA; clear hA
  have HD := Lib.hid hD; clear hD
  have HV := Lib.hid hv; clear hv
  obtain ⟨l, hl⟩ : ∃ l, fs.map Fm.fl = l := ⟨_, rfl⟩
  obtain ⟨cp, hcp⟩ : ∃ cp, cpF caps = cp := ⟨_, rfl⟩
  have hok : okFl cp l := by rw [← hl, ← hcp]; exact HV.out.ok
  have HOK := Lib.hid hok
  have hlen : l.length = fs.length := by rw [← hl, List.length_map]
  have hfl : fs.length ≤ 48 := by have := HV.out.2.1; rwa [List.length_map] at this
  have hcl : caps.length ≤ 64 := HV.out.1
  rw [hl, hcp]
  have HL := Lib.hid hl
  have HCP := Lib.hid hcp
  have HLEN := Lib.hid hlen
  clear hl hcp hlen hok
  subst hn hm
  obtain ⟨i1, hi, hi0, hi1, hi2⟩ := info_parts int_info
  obtain ⟨i2, hj, hj0, hj1, hj2⟩ := info_parts bool_info
  go_enter Try.func18, Try.ntmps18
  go_wp2_with fail
  refine (flvalid_any w A _ c caps D _ d fs true HA.out HD.out rfl rfl (decide_eq_true HV.out)).mono ?_
  rintro e w1 ⟨rfl, bw⟩
  go_upto_region 4 with fail
  have hblk := heap_alloc_new w1 (.cells #[.int .i64 0, .int .i64 0, .int .i64 0, .int .i64 0, .int .i64 0, .int .i64 0, .int .i64 0, .int .i64 0, .int .i64 0, .int .i64 0, .int .i64 0, .int .i64 0, .int .i64 0, .int .i64 0, .int .i64 0, .int .i64 0, .int .i64 0, .int .i64 0, .int .i64 0, .int .i64 0, .int .i64 0, .int .i64 0, .int .i64 0, .int .i64 0, .int .i64 0, .int .i64 0, .int .i64 0, .int .i64 0, .int .i64 0, .int .i64 0, .int .i64 0, .int .i64 0, .int .i64 0, .int .i64 0, .int .i64 0, .int .i64 0, .int .i64 0, .int .i64 0, .int .i64 0, .int .i64 0, .int .i64 0, .int .i64 0, .int .i64 0, .int .i64 0, .int .i64 0, .int .i64 0, .int .i64 0, .int .i64 0, .int .i64 0, .int .i64 0, .int .i64 0, .int .i64 0, .int .i64 0, .int .i64 0, .int .i64 0, .int .i64 0, .int .i64 0, .int .i64 0, .int .i64 0, .int .i64 0, .int .i64 0, .int .i64 0, .int .i64 0, .int .i64 0] 55)
  have bb := (Below.refl w1.heap.size w1).alloc (Nat.le_refl _) (.cells #[.int .i64 0, .int .i64 0, .int .i64 0, .int .i64 0, .int .i64 0, .int .i64 0, .int .i64 0, .int .i64 0, .int .i64 0, .int .i64 0, .int .i64 0, .int .i64 0, .int .i64 0, .int .i64 0, .int .i64 0, .int .i64 0, .int .i64 0, .int .i64 0, .int .i64 0, .int .i64 0, .int .i64 0, .int .i64 0, .int .i64 0, .int .i64 0, .int .i64 0, .int .i64 0, .int .i64 0, .int .i64 0, .int .i64 0, .int .i64 0, .int .i64 0, .int .i64 0, .int .i64 0, .int .i64 0, .int .i64 0, .int .i64 0, .int .i64 0, .int .i64 0, .int .i64 0, .int .i64 0, .int .i64 0, .int .i64 0, .int .i64 0, .int .i64 0, .int .i64 0, .int .i64 0, .int .i64 0, .int .i64 0, .int .i64 0, .int .i64 0, .int .i64 0, .int .i64 0, .int .i64 0, .int .i64 0, .int .i64 0, .int .i64 0, .int .i64 0, .int .i64 0, .int .i64 0, .int .i64 0, .int .i64 0, .int .i64 0, .int .i64 0, .int .i64 0] 55)
  have hz2 := size_alloc w1 (.cells #[.int .i64 0, .int .i64 0, .int .i64 0, .int .i64 0, .int .i64 0, .int .i64 0, .int .i64 0, .int .i64 0, .int .i64 0, .int .i64 0, .int .i64 0, .int .i64 0, .int .i64 0, .int .i64 0, .int .i64 0, .int .i64 0, .int .i64 0, .int .i64 0, .int .i64 0, .int .i64 0, .int .i64 0, .int .i64 0, .int .i64 0, .int .i64 0, .int .i64 0, .int .i64 0, .int .i64 0, .int .i64 0, .int .i64 0, .int .i64 0, .int .i64 0, .int .i64 0, .int .i64 0, .int .i64 0, .int .i64 0, .int .i64 0, .int .i64 0, .int .i64 0, .int .i64 0, .int .i64 0, .int .i64 0, .int .i64 0, .int .i64 0, .int .i64 0, .int .i64 0, .int .i64 0, .int .i64 0, .int .i64 0, .int .i64 0, .int .i64 0, .int .i64 0, .int .i64 0, .int .i64 0, .int .i64 0, .int .i64 0, .int .i64 0, .int .i64 0, .int .i64 0, .int .i64 0, .int .i64 0, .int .i64 0, .int .i64 0, .int .i64 0, .int .i64 0] 55)
  generalize (w1.alloc (.cells #[.int .i64 0, .int .i64 0, .int .i64 0, .int .i64 0, .int .i64 0, .int .i64 0, .int .i64 0, .int .i64 0, .int .i64 0, .int .i64 0, .int .i64 0, .int .i64 0, .int .i64 0, .int .i64 0, .int .i64 0, .int .i64 0, .int .i64 0, .int .i64 0, .int .i64 0, .int .i64 0, .int .i64 0, .int .i64 0, .int .i64 0, .int .i64 0, .int .i64 0, .int .i64 0, .int .i64 0, .int .i64 0, .int .i64 0, .int .i64 0, .int .i64 0, .int .i64 0, .int .i64 0, .int .i64 0, .int .i64 0, .int .i64 0, .int .i64 0, .int .i64 0, .int .i64 0, .int .i64 0, .int .i64 0, .int .i64 0, .int .i64 0, .int .i64 0, .int .i64 0, .int .i64 0, .int .i64 0, .int .i64 0, .int .i64 0, .int .i64 0, .int .i64 0, .int .i64 0, .int .i64 0, .int .i64 0, .int .i64 0, .int .i64 0, .int .i64 0, .int .i64 0, .int .i64 0, .int .i64 0, .int .i64 0, .int .i64 0, .int .i64 0, .int .i64 0] 55)) = w2 at hblk bb hz2 ⊢
  have HBLK : Hid (w2.heap[w1.heap.size]? = some (.cells (List.replicate 64 (iv 0)).toArray 55 (0, 0))) := hblk
  have b2 := below_on bw bb bw.size
  have hw1 := bw.size
  have HSRC : Hid (0 < (caps.map iv).length → ∃ ad, A = some ad ∧ ∀ j v, (caps.map iv)[j]? = some v → w2.cell? (ad.add j) = some v) := Lib.hid (by
    intro h0
    obtain ⟨ad, e, _, hc⟩ := (HA.out.below b2).rd (by simpa using h0)
    refine ⟨ad, e, fun j v hv => ?_⟩
    rw [List.getElem?_map] at hv
    rcases Nat.lt_or_ge j caps.length with h1 | h1
    · rw [List.getElem?_eq_getElem h1] at hv
      simp only [Option.map_some, Option.some.injEq] at hv
      rw [← hv]; exact hc j h1
    · rw [List.getElem?_eq_none h1] at hv; simp at hv)
  have HMN : Hid ((caps.map iv).length = Nat.min caps.length 64) := Lib.hid (by rw [List.length_map]; exact (Nat.min_eq_left hcl).symm)
  clear hblk bw bb
  go_upto_region 5 with (refine wpList_copy_splice rfl (.tmp 18) (.tmp 19) 22 22 rfl 3 rfl (by kernel_rfl) (some ⟨w1.heap.size, 0, none⟩) A 64 64 caps.length c rfl rfl w1.heap.size 0 (List.replicate 64 (iv 0)) 55 HBLK.out (caps.map iv) HMN.out (fun h0 => ⟨rfl, HSRC.out h0⟩) (by simp; omega) (by intro v hv; obtain ⟨x, _, rfl⟩ := List.mem_map.1 hv; rfl) w1.heap.size w2 (Below.refl _ _) (Nat.le_refl _) ?_; intro w3 hg3 hb3)
  have hz3 := hb3.size
  have HB3 := Lib.hid (b2.trans (hb3.mono hw1))
  have hL64 : (caps ++ List.replicate (64 - caps.length) (0 : Int)).length = 64 := by simp; omega
  have HG3 : Hid (Gr iv 55 w3 w.heap.size (some ⟨w1.heap.size, 0, none⟩) 64 (caps ++ List.replicate (64 - caps.length) 0)) := Lib.hid (by
    refine gr_block ?_ hL64 rfl (by simp [maxLen]) hw1
    rw [← splice_left]; exact hg3.out)
  clear hg3 hb3 hL64
  go_upto_region 6 with (refine wpList_make_rd w3 (mk := iv) 0 rfl _ _ 22 rfl 3 i1 8 Try.underlying22 hi hi0 hi1 hi2 rfl .i64 .i64 _ _ (fs.length) rfl rfl (by omega) (by omega) (by omega) (by simp only [maxLen]; omega) ?_; intro w4 hg4 hb4 hs4)
  go_upto_region 7 with (refine wpList_make_rd w4 (mk := Value.bool) false rfl _ _ 56 rfl 4 i2 1 Try.underlying56 hj hj0 hj1 hj2 rfl .i64 .i64 _ _ (fs.length) rfl rfl (by omega) (by omega) (by omega) (by simp only [maxLen]; omega) ?_; intro w5 hg5 hb5 hs5)
  have l0 : l.length = fs.length := HLEN.out
  have U0 : UW cp l w w5 55 (some ⟨w1.heap.size, 0, none⟩) 64 64 caps.length (some ⟨w3.heap.size, 0, none⟩) (some ⟨w4.heap.size, 0, none⟩) fs.length fs.length (itU cp l 0) (fun _ => 0) := by
    have b3 := HB3.out
    have b5 := below_on (below_on b3 hb4 b3.size) hb5 (Nat.le_trans b3.size (Nat.le_of_lt hs4))
    refine ⟨⟨_, by simp; omega, (HG3.out.below hb4).below hb5, fun e he => ?_⟩, ?_, ?_, b5⟩
    · rw [show ld l (itU cp l 0).out (e : Int) = 0 from ld_rep _ _ _, ← HCP.out, cpF, Int.toNat_natCast]
      rw [getD_app _ _ _ _ he]; omega
    · show Gr iv _ _ _ _ _ (List.replicate l.length 0)
      rw [l0]
      exact (hg4.more (fun ad e => by injection e with e; subst e; exact b3.size)).below hb5
    · show Gr _ _ _ _ _ _ (List.replicate l.length false)
      rw [l0]
      exact hg5.more (fun ad e => by injection e with e; subst e; exact Nat.le_trans b3.size (Nat.le_of_lt hs4))
  have d1 : w1.heap.size < w3.heap.size := by omega
  have d2 : w3.heap.size < w4.heap.size := hs4
  have b1w := hw1
  clear hg4 hg5 hb4 hb5 hs4 hs5 HG3 HB3 hz3 hz2 b2 HSRC HBLK HMN
  generalize w1.heap.size = gl at *
  generalize w3.heap.size = go at *
  generalize w4.heap.size = gf at *
  go_wp2_with fail
  go_loopg [9] 4098 (fun kn mv wr => ∃ (k : Nat) (more : Bool), kn + k = 4098 ∧ mv = .bool more ∧ (more = true → k ≤ 4097) ∧ (more = false → allFin (itU cp l k)) ∧ UW cp l w wr 55 (some ⟨gl, 0, none⟩) 64 64 caps.length (some ⟨go, 0, none⟩) (some ⟨gf, 0, none⟩) fs.length fs.length (itU cp l k) (fun _ => 0))
  case atStart => exact ⟨0, true, by omega, rfl, by omega, (by first | trivial | (intro h; cases h; done) | (intro j hj; omega) | (intro _ j hj; omega)), U0⟩
  case round =>
    clear U0
    obtain ⟨k, more, hk, rfl, hm1, hm2, hU⟩ := hrel
    have HU := Lib.hid hU
    clear hU
    cases more with
    | false =>
      have HF := Lib.hid (hm2 rfl)
      clear hm1 hm2
      go_wp2_with fail
      go_ret2
      have hu := unitsM_of HOK.out HF.out
      have ho := HU.out.ou
      have hlo := (itU_len cp l k).1
      rw [hu] at ho hlo
      refine ⟨some ⟨go, 0, none⟩, fs.length, ?_, ho, HU.out.bw⟩
      rw [hlo, l0]
      rfl
    | true =>
      have hk7 := hm1 rfl
      clear hm1 hm2
      go_wp2_with fail
      go_loopw [9, 30] (fun mv i wr => ∃ (i' : Nat) (more : Bool), i' ≤ fs.length ∧ i = .int .i64 i' ∧ mv = .bool more ∧ (more = true → ¬ allFin (itU cp l k)) ∧ (more = false → ∀ j, j < i' → (partU cp l (itU cp l k) i').fin.getD j true = true) ∧ UW cp l w wr 55 (some ⟨gl, 0, none⟩) 64 64 caps.length (some ⟨go, 0, none⟩) (some ⟨gf, 0, none⟩) fs.length fs.length (partU cp l (itU cp l k) i') (fun _ => 0)) (fun _ i _ => fs.length - (intOf i).toNat)
      case atStart => exact ⟨0, false, by omega, rfl, rfl, (by first | trivial | (intro h; cases h; done) | (intro j hj; omega) | (intro _ j hj; omega)), (by first | trivial | (intro h; cases h; done) | (intro j hj; omega) | (intro _ j hj; omega)), HU.out⟩
      case round =>
        clear HU
        obtain ⟨i', more, hi', rfl, rfl, hm1, hm2, hU⟩ := hrel
        have HM1 := Lib.hid hm1
        have HM2 := Lib.hid hm2
        clear hm1 hm2
        obtain ⟨s, hs⟩ : ∃ s, partU cp l (itU cp l k) i' = s := ⟨_, rfl⟩
        have HS := Lib.hid hs
        have hI := UInv.part HOK.out.1 (UInv.it HOK.out k) i' (by rw [l0]; exact hi')
        rw [hs] at hU hI
        have HI := Lib.hid hI
        have HU := Lib.hid hU
        clear hs hU hI
        have hwr := HU.out.bw.size
        by_cases hlt : i' < fs.length
        · have hW := HD.out.below HU.out.bw
          obtain ⟨ad, rfl, _, hcc⟩ := hW.rd (by omega)
          obtain ⟨hc0, hc1⟩ := hcc i' hlt
          have hxo := hW.ok _ (List.getElem_mem hlt)
          have hxw := HD.out.ok _ (List.getElem_mem hlt)
          have HX : Hid (fs[i'].fl = (lkA l i', lmA l i')) := Lib.hid (by
            have e1 : i' < (fs.map Fm.fl).length := by rw [List.length_map]; exact hlt
            have h1 : l.getD i' ([], 0) = fs[i'].fl := by rw [← HL.out, getD_lt _ _ _ e1, List.getElem_map]
            rw [← h1]; rfl)
          have HLK : Hid (flOk caps.length fs[i'].fl) := Lib.hid (HV.out.2.2.2 _ (List.mem_map_of_mem (List.getElem_mem hlt)))
          obtain ⟨x, hx⟩ : ∃ x, fs[i'] = x := ⟨_, rfl⟩
          rw [hx] at hc0 hc1 hxo HX HLK hxw
          have HXW := Lib.hid hxw
          clear hcc hx hW hxw
          go_upto_region 13 with fail
          have fb := (fb_alloc wr x 48).1
          have bb := (fb_alloc wr x 48).2
          have hz9 := size_alloc wr (.cells #[.slice x.A x.ls.length x.c, .int .i64 x.m] 48)
          have HXO := Lib.hid (hxo.below bb)
          have HU2 := Lib.hid (HU.out.below bb)
          have dF : gf < wr.heap.size := (HU.out.fi.form.2.2 _ rfl).2
          clear hxo hc0 hc1 HU
          generalize (wr.alloc (.cells #[.slice x.A x.ls.length x.c, .int .i64 x.m] 48)) = wm at fb bb HXO HU2 hz9 ⊢
          clear bb
          generalize wr.heap.size = gF at *
          have fc0 := fb.c0
          have fc1 := fb.c1
          have hil : i' < s.fin.length := by rw [HI.out.lf, l0]; exact hlt
          have hol : i' < s.out.length := by rw [HI.out.lo, l0]; exact hlt
          have hfc := HU2.out.fi.cell i' hil
          have hff := HU2.out.fi.free i'
          by_cases hfin : s.fin[i'] = true
          · rw [hfin] at hfc
            have HFIN := Lib.hid hfin
            clear hfin
            have HNX : Hid (partU cp l (itU cp l k) (i' + 1) = s) := Lib.hid (by rw [partU, HS.out, stepU_done (by rw [getD_lt _ _ _ hil]; exact HFIN.out)])
            go_wp2_with fail
            go_roundw
            case rel =>
              refine ⟨i' + 1, more, by omega, by go_num, rfl, HM1.out, fun hm j hj => ?_, by rw [HNX.out]; exact HU2.out⟩
              rw [HNX.out]
              rcases Nat.lt_or_ge j i' with h1 | h1
              · rw [← HS.out]; exact HM2.out hm j h1
              · obtain rfl : j = i' := by omega
                rw [getD_lt _ _ _ hil]; exact HFIN.out
            case measure => simp [intOf]; omega
          · have hfin' : s.fin[i'] = false := by simpa using hfin
            rw [hfin'] at hfc
            have HFIN := Lib.hid hfin'
            have HNF : Hid (¬ s.fin.getD i' true = true) := Lib.hid (by rw [getD_lt _ _ _ hil]; exact hfin)
            clear hfin hfin'
            have hxm : x.m = lmA l i' := congrArg Prod.snd HX.out
            have hxl : x.ls = lkA l i' := congrArg Prod.fst HX.out
            have hoc := HU2.out.ou.cell i' hol
            have hof := HU2.out.ou.free i'
            have HXM := Lib.hid hxm
            have HXL := Lib.hid hxl
            clear hxm hxl
            go_upto_region 14 with fail
            by_cases c1 : x.m ≤ s.out[i']
            · have HC1 := Lib.hid c1
              have c1' : decide (x.m ≤ s.out[i']) = true := decide_eq_true c1
              clear c1
              have hNX : partU cp l (itU cp l k) (i' + 1) = ⟨s.out, s.fin.set i' true⟩ := by
                rw [partU, HS.out, stepU_stop HNF.out (.inl (by rw [getD_lt _ _ _ hol, ← HXM.out]; exact HC1.out))]
              have HNX := Lib.hid hNX
              clear hNX
              go_quiet (fail)
              have hqb := (below_drewN (Below.refl wm.heap.size wm) nq)
              have HU3 := Lib.hid (HU2.out.below hqb)
              have hfq := HU3.out.fi.cell i' hil
              have hfr := HU3.out.fi.free i'
              clear HU2 hqb
              go_wp2_with fail
              go_roundw
              case rel =>
                have hd := HU3.out.setFin i' (by intro ad e; injection e with e; subst e; show gl ≠ gf; omega) (by omega)
                refine ⟨i' + 1, more, by omega, by go_num, rfl, HM1.out, fun hm j hj => ?_, by rw [HNX.out]; exact hd⟩
                rw [HNX.out]
                show (s.fin.set i' true).getD j true = true
                rw [getD_set]
                split
                · rfl
                · rw [← HS.out]; exact HM2.out hm j (by omega)
              case measure => simp [intOf]; omega
            · have HC1 : Hid (¬ x.m ≤ s.out[i']) := c1
              have c1' : decide (x.m ≤ s.out[i']) = false := decide_eq_false c1
              clear c1
              obtain ⟨L, hL1, hL2, hL3⟩ := HU2.out.lf
              have hlk : ∀ e ∈ lkA l i', 0 ≤ e ∧ e < caps.length := fun e he => by rw [← HXL.out] at he; exact HLK.out.2.2.mem he
              have hff64 : ∀ e ∈ x.ls, 0 ≤ e ∧ e < 64 := fun e he => by have := HLK.out.2.2.mem he; omega
              have hisf := UW.is_full hL3 hlk
              have HL1 := Lib.hid hL1
              have HR64 := Lib.hid hff64
              have HISF := Lib.hid hisf
              have hrng := gr_range hL2
              have HL2 := Lib.hid hL2
              have hi64 : (Try.prog.info? 55).map (·.size) = some (L.map iv).length := by rw [List.length_map, hL1]; kernel_rfl
              have hu64 := Try.underlying55
              clear hL1 hL3 hlk hff64 hisf hL2
              by_cases c2 : fullU cp l s.out i'
              · have HC2 := Lib.hid c2
                clear c2
                go_region_held3 (fun w' => w'.cell? ⟨go, i', none⟩ = some (.int .i64 s.out[i']) ∧ w'.cell? ⟨gF, 0, none⟩ = some (.slice x.A x.ls.length x.c) ∧ w'.cell? ⟨gF, 1, none⟩ = some (.int .i64 x.m) ∧ w'.rangeAt gl 0 (L.map iv))
                  (first | exact ⟨hoc, fc0, fc1, hrng⟩ | exact ⟨g2, g0, g1, g3⟩ | go_keep)
                  (first | (go_at_call 37
                            with_reducible refine (full_any _ L x.A _ x.c x.ls true HL1.out (HXO.out.is.below (below_drew (Below.refl _ _))) rfl HR64.out (decide_eq_true (by rw [HXL.out]; exact HISF.out.2 HC2.out))).mono ?_
                            rintro e wn ⟨rfl, bb⟩
                            have hb9 := undrew bb
                            have HU9 := Lib.hid (HU2.out.below hb9)
                            have fb9 := fb.below hb9
                            have g0 := fb9.c0
                            have g1 := fb9.c1
                            have g2 := HU9.out.ou.cell i' hol
                            have g3 := gr_range (HL2.out.below hb9)
                            clear bb hb9))
                have HNX : Hid (partU cp l (itU cp l k) (i' + 1) = ⟨s.out, s.fin.set i' true⟩) := Lib.hid (by rw [partU, HS.out, stepU_stop HNF.out (.inr HC2.out)])
                have hfq := HU9.out.fi.cell i' hil
                have hfr := HU9.out.fi.free i'
                clear g0 g1 g2 g3 hrng hoc hof fc0 fc1 hfc hff fb
                go_wp2_with fail
                go_roundw
                case rel =>
                  have hd := HU9.out.setFin i' (by intro ad e; injection e with e; subst e; show gl ≠ gf; omega) (by omega)
                  refine ⟨i' + 1, more, by omega, by go_num, rfl, HM1.out, fun hm j hj => ?_, by rw [HNX.out]; exact hd⟩
                  rw [HNX.out]
                  show (s.fin.set i' true).getD j true = true
                  rw [getD_set]
                  split
                  · rfl
                  · rw [← HS.out]; exact HM2.out hm j (by omega)
                case measure => simp [intOf]; omega
              · have HC2 : Hid (¬ fullU cp l s.out i') := c2
                clear c2
                go_region_held3 (fun w' => w'.cell? ⟨go, i', none⟩ = some (.int .i64 s.out[i']) ∧ w'.cell? ⟨gF, 0, none⟩ = some (.slice x.A x.ls.length x.c) ∧ w'.cell? ⟨gF, 1, none⟩ = some (.int .i64 x.m) ∧ w'.rangeAt gl 0 (L.map iv))
                  (first | exact ⟨hoc, fc0, fc1, hrng⟩ | exact ⟨g2, g0, g1, g3⟩ | go_keep)
                  (first | (go_at_call 37
                            with_reducible refine (full_any _ L x.A _ x.c x.ls false HL1.out (HXO.out.is.below (below_drew (Below.refl _ _))) rfl HR64.out (decide_eq_false (fun h => absurd (HISF.out.1 (by rw [← HXL.out]; exact h)) HC2.out))).mono ?_
                            rintro e wn ⟨rfl, bb⟩
                            have hb9 := undrew bb
                            have HU9 := Lib.hid (HU2.out.below hb9)
                            have HXO9 := Lib.hid (HXO.out.below hb9)
                            have fb9 := fb.below hb9
                            have g0 := fb9.c0
                            have g1 := fb9.c1
                            have g2 := HU9.out.ou.cell i' hol
                            have g3 := gr_range (HL2.out.below hb9)
                            clear bb hb9))
                have HNX : Hid (partU cp l (itU cp l k) (i' + 1) = ⟨s.out.set i' (s.out.getD i' 0 + 1), s.fin⟩) := Lib.hid (by
                  rw [partU, HS.out, stepU_more HNF.out]
                  rintro (h | h)
                  · have h9 := HC1.out; rw [HXM.out] at h9; rw [getD_lt _ _ _ hol] at h; omega
                  · exact absurd h HC2.out)
                have hof9 := HU9.out.ou.free i'
                have hbd := HI.out.bd i' (by rw [l0]; exact hlt)
                rw [getD_lt _ _ _ hol] at hbd
                have hlm := (HOK.out.2 i' (by rw [l0]; exact hlt)).2.1
                have o1 : 0 ≤ s.out[i'] := hbd.1
                have o2 : s.out[i'] ≤ 4096 := by omega
                have HO : Hid (s.out[i'] + 1 = s.out.getD i' 0 + 1) := Lib.hid (by rw [getD_lt _ _ _ hol])
                have hlen := HXO9.out.is.len
                have HI2 : Hid (UInv cp l k (i' + 1) ⟨s.out.set i' (s.out.getD i' 0 + 1), s.fin⟩) := Lib.hid (by rw [← HNX.out]; exact UInv.part HOK.out.1 (UInv.it HOK.out k) (i' + 1) (by rw [l0]; omega))
                clear hrng hoc hof fc0 fc1 hfc hff fb hbd hlm c1' hu64 hi64 g3
                go_upto_region 17 with fail
                have U1 := HU9.out.setOut i' hol (by intro ad e; injection e with e; subst e; show gl ≠ go; omega) (by omega) (s.out[i'] + 1) HO.out x.ls HXL.out
                have hne : ∀ k' v, (wn.setCell ⟨go, i', none⟩ (iv (s.out[i'] + 1))).cell? ⟨gF, k', none⟩ = some v ↔ wn.cell? ⟨gF, k', none⟩ = some v := fun k' v => by
                  rw [World.cell?_setCell_far _ _ _ _ (show go ≠ gF by omega)]
                have g0' := (hne 0 _).2 g0
                clear hne g0 g1 g2 hof9 fb9 HU9 HXO9
                generalize (wn.setCell ⟨go, i', none⟩ (.int .i64 (s.out[i'] + 1))) = wz at U1 g0' ⊢
                go_wp2_with fail
                go_loopw [64] (fun jv wr => ∃ j : Nat, j ≤ x.ls.length ∧ jv = .int .i64 j ∧ UW cp l w wr 55 (some ⟨gl, 0, none⟩) 64 64 caps.length (some ⟨go, 0, none⟩) (some ⟨gf, 0, none⟩) fs.length fs.length ⟨s.out.set i' (s.out.getD i' 0 + 1), s.fin⟩ (fun e => ((x.ls.drop j).count e : Int))) (fun jv _ => x.ls.length - (intOf jv).toNat)
                case atStart => exact ⟨0, by omega, rfl, U1⟩
                case round =>
                  clear U1 g0'
                  obtain ⟨j, hj, rfl, hU⟩ := hrel
                  have HU := Lib.hid hU
                  clear hU
                  by_cases hjt : j < x.ls.length
                  · obtain ⟨ae, hae, _, hce⟩ := (HXW.out.is.below HU.out.bw).at j hjt
                    obtain ⟨t1, t2⟩ := HLK.out.2.2.mem (List.getElem_mem hjt)
                    obtain ⟨t, ht⟩ : ∃ t : Nat, x.ls[j] = (t : Int) := ⟨(x.ls[j]).toNat, by have : x.fl.1 = x.ls := rfl; omega⟩
                    have htn : t < caps.length := by have : x.fl.1 = x.ls := rfl; omega
                    rw [ht] at hce
                    obtain ⟨L', hM1, hM2, hM3⟩ := HU.out.lf
                    have htL : t < L'.length := by omega
                    have hlc := hM2.cell t htL
                    have hlf := hM2.free t
                    have hb := hM3 t htn
                    rw [getD_lt _ _ _ htL] at hb
                    have hcap := HI2.out.cap i' (by rw [l0]; exact hlt) (t : Int) (by rw [← HXL.out, ← ht]; exact List.getElem_mem hjt)
                    have hnn := ld_nonneg l (s.out.set i' (s.out.getD i' 0 + 1)) (t : Int) (fun q hq => (HI2.out.bd q hq).1)
                    have hcp : cp (t : Int) ≤ 4096 := by
                      rw [← HCP.out, cpF, Int.toNat_natCast, getD_lt _ _ _ htn]
                      exact (HV.out.2.2.1 _ (List.getElem_mem htn)).2
                    have hct : ((x.ls.drop j).count (t : Int) : Int) ≤ 1 := by
                      have h1 := HLK.out.2.2.count (t : Int)
                      have h2 : (x.ls.drop j).count (t : Int) ≤ x.ls.count (t : Int) := List.Sublist.count_le _ (List.drop_sublist j x.ls)
                      have : x.fl.1 = x.ls := rfl
                      rw [this] at h1
                      omega
                    have hb1 : L'[t] ≤ 4097 := by simp only at hcap hb; omega
                    have hb2 : 0 ≤ L'[t] := by simp only at hcap hb; omega
                    have HD2 := Lib.hid (HU.out.decr hjt ht htn (by omega) (by omega) (L'[t] - 1) (fun L2 h1 h2 => by
                      have hcc := h2 t (by omega)
                      rw [hlc] at hcc
                      injection hcc with hcc
                      injection hcc with _ hcc
                      rw [hcc, getD_lt _ _ _ (by omega)]) (by omega))
                    clear hM1 hM2 hM3 hb hcap hnn hcp hct HU t1 t2
                    have HT := Lib.hid ht
                    clear ht
                    go_wp2_with fail
                    go_roundw
                    case rel => exact ⟨j + 1, by omega, by go_num, HD2.out⟩
                    case measure => simp [intOf]; omega
                  · have HUZ := Lib.hid (HU.out.congr (y := fun _ => 0) (fun e _ => by
                      show ((x.ls.drop j).count (e : Int) : Int) = 0
                      rw [List.drop_of_length_le (by omega)]; rfl))
                    clear HU
                    go_wp2_with fail
                    go_roundw
                    case rel =>
                      refine ⟨i' + 1, true, by omega, by go_num, rfl, fun _ => partU_not (itU_len cp l k).2 (by rw [l0]; exact hlt) (by rw [HS.out]; exact HNF.out), (by intro h; cases h), by rw [HNX.out]; exact HUZ.out⟩
                    case measure => simp [intOf]; omega
        · have HUZ := HU
          have hie : i' = l.length := by omega
          have HN : Hid (s = itU cp l (k + 1)) := Lib.hid (by rw [← HS.out, hie]; rfl)
          clear HU
          go_wp2_with fail
          go_roundg (4098 - (k + 1))
          case rel =>
            refine ⟨k + 1, more, ?_, rfl, fun hm => ?_, fun hm j hj => ?_, by rw [← HN.out]; exact HUZ.out⟩
            · omega
            · have h1 := HM1.out hm
              rcases Nat.lt_or_ge k 4097 with h2 | h2
              · omega
              · exact absurd (itU_all HOK.out k h2) h1
            · rw [(itU_len cp l _).2] at hj
              rw [← HN.out, ← HS.out]
              exact HM2.out hm j (by omega)
          case measure => omega
end Go.Proofs.Ythdfflbhogfejaa
