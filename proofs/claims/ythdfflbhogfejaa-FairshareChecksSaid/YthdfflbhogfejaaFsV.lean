/- What Rates holds in memory, and what its stores keep. The walks of fairshare.capacity, fairshare.Valid and the reference's Valid. -/
import Derived.Test.YthdfflbhogfejaaFhC
import Derived.Test.YthdfflbhogfejaaTrX
import Derived.Deep.RegionHeld3
namespace Go.Proofs.Ythdfflbhogfejaa
set_option maxRecDepth 100000
open Go.RowKit

/-- a fraction that may be an argument, and its value -/
structure Vq (x : Fx) (q : Rat) : Prop where
  v : x.v
  q : x.q = q
  l : x.xs.length ≤ 10000
  m : x.ys.length ≤ 10000
theorem Nm.vq {w : World} {x : Fx} {q : Rat} (h : Nm w x q) : Vq x q := ⟨h.v, h.q, h.l, h.m⟩
theorem Vq.nm {w : World} {x : Fx} {q : Rat} (h : Vq x q) (k : x.ok w) : Nm w x q := ⟨k, h.v, h.q, h.l, h.m⟩
theorem off_row {g G : Nat} (h : g ≠ G) : ∀ ad : Addr, (some ⟨g, 0, none⟩ : Option Addr) = some ad → ad.block ≠ G := by
  intro ad e; injection e with e; subst e; exact h
/-- the rates and who rises -/
structure RW (B N : Nat) (w wr : World) (g6 g7 : Nat) (l : List Fl) (s : Rt) (vs : List Fx) (bs : List Bool) : Prop where
  q : Qr wr B (some ⟨g6, 0, none⟩) vs
  b : Gr Value.bool 4 wr B (some ⟨g7, 0, none⟩) N bs
  lr : s.r.length = l.length
  lN : l.length = N
  lv : vs.length = N
  lb : bs.length = N
  at_ : ∀ i (h : i < vs.length), Vq vs[i] (s.r.getD i 0)
  bs : bs = s.a
  bw : Below B w wr
section
variable {B N g6 g7 g i j k : Nat} {w wr wn : World} {l : List Fl} {s : Rt} {vs : List Fx} {bs : List Bool} {v v0 v1 v2 : Value}
theorem RW.below (h : RW B N w wr g6 g7 l s vs bs) (hb : Below wr.heap.size wr wn) (hB : B ≤ wr.heap.size) : RW B N w wn g6 g7 l s vs bs :=
  ⟨h.q.below hb, h.b.below hb, h.lr, h.lN, h.lv, h.lb, h.at_, h.bs, below_on h.bw hb hB⟩
theorem RW.far3 (h : RW B N w wr g6 g7 l s vs bs) (bk : NI wr g) (h6 : g6 ≠ g) (h7 : g7 ≠ g) (hB : B ≤ g) : RW B N w (((wr.setCell ⟨g, i, none⟩ v0).setCell ⟨g, j, none⟩ v1).setCell ⟨g, k, none⟩ v2) g6 g7 l s vs bs :=
  ⟨h.q.far bk (off_row h6), h.b.far3 (off_row h7), h.lr, h.lN, h.lv, h.lb, h.at_, h.bs, q3_below h.bw hB⟩
theorem RW.far1 (h : RW B N w wr g6 g7 l s vs bs) (bk : NI wr g) (h6 : g6 ≠ g) (h7 : g7 ≠ g) (hB : B ≤ g) : RW B N w (wr.setCell ⟨g, k, none⟩ v) g6 g7 l s vs bs :=
  ⟨h.q.far1 bk (off_row h6), h.b.far (p := ⟨g, k, none⟩) (off_row h7) _, h.lr, h.lN, h.lv, h.lb, h.at_, h.bs, h.bw.setCell (p := ⟨g, k, none⟩) hB _⟩
theorem RW.rv (h : RW B N w wr g6 g7 l s vs bs) : Rv wr l s vs bs :=
  ⟨h.lr, by rw [h.lv, h.lN], by rw [h.lb, h.lN], fun i hi => (h.at_ i hi).nm (h.q.ok _ (List.getElem_mem hi)), h.bs⟩
theorem RW.blk6 (h : RW B N w wr g6 g7 l s vs bs) : NI wr g6 := h.q.blk
/-- rates[i] = x; active[i] = b -/
theorem RW.put (h : RW B N w wr g6 g7 l s vs bs) (h67 : g6 ≠ g7) (i : Nat) {x : Fx} {q : Rat} (b : Bool) (hx : x.ok wr) (hq : Vq x q) :
    RW B N w ((((wr.setCell ⟨g6, i * 3, none⟩ (.bool x.b)).setCell ⟨g6, i * 3 + 1, none⟩ (.slice x.A x.xs.length x.c)).setCell ⟨g6, i * 3 + 2, none⟩ (.slice x.D x.ys.length x.d)).setCell ⟨g7, i, none⟩ (.bool b)) g6 g7 l ⟨s.r.set i q, s.a.set i b⟩ (vs.set i x) (bs.set i b) := by
  have hlt6 := h.q.lt
  have b1 : Gr Value.bool 4 (((wr.setCell ⟨g6, i * 3, none⟩ (.bool x.b)).setCell ⟨g6, i * 3 + 1, none⟩ (.slice x.A x.xs.length x.c)).setCell ⟨g6, i * 3 + 2, none⟩ (.slice x.D x.ys.length x.d)) B (some ⟨g7, 0, none⟩) N bs := h.b.far3 (off_row h67.symm)
  have bk := bool_blk b1 h.lb.symm
  have hB7 : B ≤ g7 := (h.b.form.2.2 _ rfl).1
  refine ⟨(h.q.put i hx).far1 bk (off_row h67), b1.store i b, by rw [List.length_set]; exact h.lr, h.lN, by rw [List.length_set]; exact h.lv, by rw [List.length_set]; exact h.lb, fun m hm => ?_, by rw [h.bs], (q3_below h.bw hlt6.1).setCell (p := ⟨g7, i, none⟩) hB7 _⟩
  show Vq (vs.set i x)[m] ((s.r.set i q).getD m 0)
  rw [List.getElem_set, getD_set]
  rw [List.length_set] at hm
  by_cases e : i = m
  · subst e
    rw [if_pos rfl, if_pos ⟨rfl, by rw [h.lr, h.lN, ← h.lv]; exact hm⟩]; exact hq
  · rw [if_neg e, if_neg (fun h => e h.1)]; exact h.at_ m hm
end
/-- what a round of Rates holds besides: the lowest level as yet, the levels of the first links -/
structure LW (B M : Nat) (wr : World) (g9 g11 g12 : Nat) (lf : Nat → Option Rat) (xl : Fx) (low : Option Rat) (lv : List Fx) (hs : List Bool) (j : Nat) : Prop where
  lo : Fa wr g9 xl
  lq : ∀ q, low = some q → Vq xl q
  le : Qr wr B (some ⟨g11, 0, none⟩) lv
  ll : lv.length = M
  lvq : ∀ i (h : i < lv.length), i < j → ∀ q, lf i = some q → Vq lv[i] q
  ha : Gr Value.bool 4 wr B (some ⟨g12, 0, none⟩) M hs
  hl : hs.length = M
  hq : ∀ i (h : i < hs.length), i < j → hs[i] = (lf i).isSome
section
variable {B M g9 g11 g12 g i j k m : Nat} {wr wn : World} {lf : Nat → Option Rat} {xl : Fx} {low : Option Rat} {lv : List Fx} {hs : List Bool} {v v0 v1 v2 : Value}
theorem LW.below (h : LW B M wr g9 g11 g12 lf xl low lv hs m) (hb : Below wr.heap.size wr wn) : LW B M wn g9 g11 g12 lf xl low lv hs m :=
  ⟨h.lo.below hb, h.lq, h.le.below hb, h.ll, h.lvq, h.ha.below hb, h.hl, h.hq⟩
theorem LW.far3 (h : LW B M wr g9 g11 g12 lf xl low lv hs m) (bk : NI wr g) (h9 : g9 ≠ g) (h11 : g11 ≠ g) (h12 : g12 ≠ g) : LW B M (((wr.setCell ⟨g, i, none⟩ v0).setCell ⟨g, j, none⟩ v1).setCell ⟨g, k, none⟩ v2) g9 g11 g12 lf xl low lv hs m :=
  ⟨h.lo.farQ bk h9.symm, h.lq, h.le.far bk (off_row h11), h.ll, h.lvq, h.ha.far3 (off_row h12), h.hl, h.hq⟩
theorem LW.far1 (h : LW B M wr g9 g11 g12 lf xl low lv hs m) (bk : NI wr g) (h9 : g9 ≠ g) (h11 : g11 ≠ g) (h12 : g12 ≠ g) : LW B M (wr.setCell ⟨g, k, none⟩ v) g9 g11 g12 lf xl low lv hs m :=
  ⟨h.lo.far1 bk h9.symm, h.lq, h.le.far1 bk (off_row h11), h.ll, h.lvq, h.ha.far (p := ⟨g, k, none⟩) (off_row h12) _, h.hl, h.hq⟩
/-- the level of link m is stored -/
theorem LW.level (h : LW B M wr g9 g11 g12 lf xl low lv hs m) (h911 : g9 ≠ g11) (h912 : g9 ≠ g12) (h1112 : g11 ≠ g12) {x : Fx} (hx : x.ok wr) (hq : ∀ q, lf m = some q → Vq x q) {b : Bool} (hb : b = (lf m).isSome) :
    LW B M ((((wr.setCell ⟨g11, m * 3, none⟩ (.bool x.b)).setCell ⟨g11, m * 3 + 1, none⟩ (.slice x.A x.xs.length x.c)).setCell ⟨g11, m * 3 + 2, none⟩ (.slice x.D x.ys.length x.d)).setCell ⟨g12, m, none⟩ (.bool b)) g9 g11 g12 lf xl low (lv.set m x) (hs.set m b) (m + 1) := by
  have k11 := h.le.blk
  have ha1 : Gr Value.bool 4 (((wr.setCell ⟨g11, m * 3, none⟩ (.bool x.b)).setCell ⟨g11, m * 3 + 1, none⟩ (.slice x.A x.xs.length x.c)).setCell ⟨g11, m * 3 + 2, none⟩ (.slice x.D x.ys.length x.d)) B (some ⟨g12, 0, none⟩) M hs := h.ha.far3 (off_row h1112.symm)
  have k12 := bool_blk ha1 h.hl.symm
  refine ⟨(h.lo.farQ k11 h911.symm).far1 k12 h912.symm, h.lq, (h.le.put m hx).far1 k12 (off_row h1112), by rw [List.length_set]; exact h.ll, fun i hi hj q hl => ?_, ha1.store m b, by rw [List.length_set]; exact h.hl, fun i hi hj => ?_⟩
  · rw [List.length_set] at hi
    rw [List.getElem_set]
    by_cases e : m = i
    · subst e; rw [if_pos rfl]; exact hq q hl
    · rw [if_neg e]; exact h.lvq i hi (by omega) q hl
  · rw [List.length_set] at hi
    rw [List.getElem_set]
    by_cases e : m = i
    · subst e; rw [if_pos rfl]; exact hb
    · rw [if_neg e]; exact h.hq i hi (by omega)
/-- a new lowest level -/
theorem LW.lower (h : LW B M wr g9 g11 g12 lf xl low lv hs m) (h911 : g11 ≠ g9) (h912 : g12 ≠ g9) {x : Fx} {q : Rat} (hx : x.ok wr) (hq : Vq x q) :
    LW B M (((wr.setCell ⟨g9, 0, none⟩ (.bool x.b)).setCell ⟨g9, 1, none⟩ (.slice x.A x.xs.length x.c)).setCell ⟨g9, 2, none⟩ (.slice x.D x.ys.length x.d)) g9 g11 g12 lf x (some q) lv hs m := by
  have k9 := h.lo.blk
  exact ⟨h.lo.put hx, fun p hp => (by cases hp; exact hq), h.le.far k9 (off_row h911), h.ll, h.lvq, h.ha.far3 (off_row h912), h.hl, h.hq⟩
end
theorem lev_isSome {cp : Int → Int} {l : List Fl} {s : Rt} {k : Int} : decide (cnt l s k l.length ≠ 0) = (lev cp l s k).isSome := by
  rw [lev]
  by_cases h : cnt l s k l.length = 0
  · rw [if_pos h, h]; rfl
  · rw [if_neg h]; simpa using h
theorem lowK_none {cp : Int → Int} {l : List Fl} {s : Rt} {j : Nat} (h : lev cp l s (j : Int) = none) : lowK cp l s (j + 1) = lowK cp l s j := by rw [lowK, h]
theorem lowK_first {cp : Int → Int} {l : List Fl} {s : Rt} {j : Nat} {q : Rat} (h : lev cp l s (j : Int) = some q) (h2 : lowK cp l s j = none) : lowK cp l s (j + 1) = some q := by rw [lowK, h, h2]; rfl
theorem lowK_less {cp : Int → Int} {l : List Fl} {s : Rt} {j : Nat} {q y : Rat} (h : lev cp l s (j : Int) = some q) (h2 : lowK cp l s j = some y) (h3 : q < y) : lowK cp l s (j + 1) = some q := by rw [lowK, h, h2]; exact if_pos h3
theorem lowK_keep {cp : Int → Int} {l : List Fl} {s : Rt} {j : Nat} {q y : Rat} (h : lev cp l s (j : Int) = some q) (h2 : lowK cp l s j = some y) (h3 : ¬ q < y) : lowK cp l s (j + 1) = some y := by rw [lowK, h, h2]; exact if_neg h3
theorem lowF_skip {cp : Int → Int} {l : List Fl} {s : Rt} {n i : Nat} (h : s.a.getD i false = false) : lowF cp l s n (i + 1) = lowF cp l s n i := by rw [lowF, if_neg (by rw [h]; simp)]
theorem lowF_first {cp : Int → Int} {l : List Fl} {s : Rt} {n i : Nat} (h : s.a.getD i false = true) (h2 : lowF cp l s n i = none) : lowF cp l s n (i + 1) = some (lmA l i : Rat) := by rw [lowF, if_pos h, h2]; rfl
theorem lowF_less {cp : Int → Int} {l : List Fl} {s : Rt} {n i : Nat} {y : Rat} (h : s.a.getD i false = true) (h2 : lowF cp l s n i = some y) (h3 : (lmA l i : Rat) < y) : lowF cp l s n (i + 1) = some (lmA l i : Rat) := by rw [lowF, if_pos h, h2]; exact if_pos h3
theorem lowF_keep {cp : Int → Int} {l : List Fl} {s : Rt} {n i : Nat} {y : Rat} (h : s.a.getD i false = true) (h2 : lowF cp l s n i = some y) (h3 : ¬ (lmA l i : Rat) < y) : lowF cp l s n (i + 1) = some y := by rw [lowF, if_pos h, h2]; exact if_neg h3
theorem partR_skip {cp : Int → Int} {l : List Fl} {s : Rt} {q : Rat} {i : Nat} (h : ¬ (s.a.getD i false = true ∧ stopQ cp l s q i)) : partR cp l s q (i + 1) = partR cp l s q i := by rw [partR, if_neg h]
theorem partR_stop {cp : Int → Int} {l : List Fl} {s : Rt} {q : Rat} {i : Nat} (h : s.a.getD i false = true ∧ stopQ cp l s q i) : partR cp l s q (i + 1) = ⟨(partR cp l s q i).r.set i q, (partR cp l s q i).a.set i false⟩ := by rw [partR, if_pos h]
theorem partR_self {cp : Int → Int} {l : List Fl} {s : Rt} {q : Rat} (lr : s.r.length = l.length) (la : s.a.length = l.length) {i : Nat} (hi : i < l.length) : (partR cp l s q i).a.getD i false = s.a.getD i false := by
  rw [(partR_at (cp := cp) (q := q) lr la i (by omega) i).1, if_neg (fun h => by omega)]
theorem itR_next {cp : Int → Int} {l : List Fl} {n k : Nat} {q : Rat} (h : true ∈ (itR cp l n k).a) (hq : lowF cp l (itR cp l n k) n l.length = some q) : itR cp l n (k + 1) = partR cp l (itR cp l n k) q l.length := by rw [itR, if_pos h, roundR, hq]; rfl
theorem cmp_zero {p q : Rat} {z : Int} (h : cmpQ p q = z) : (z == 0) = decide (p = q) := by
  rw [← h]
  rcases cmpQ_cases p q with ⟨h1, h2⟩ | ⟨h1, h2⟩ | ⟨h1, h2⟩
  · rw [h2, decide_eq_false (by grind)]; rfl
  · rw [h2, decide_eq_true h1]; rfl
  · rw [h2, decide_eq_false (by grind)]; rfl
/-- is the limit the level, or one of the links full at it -/
def hitQ (cp : Int → Int) (l : List Fl) (s : Rt) (q p : Rat) (es : List Int) : Bool := decide (p = q) || es.any (fun e => decide (lev cp l s e = some q))
theorem hitQ_nil (cp : Int → Int) (l : List Fl) (s : Rt) (q p : Rat) (es : List Int) : hitQ cp l s q p (es.take 0) = decide (p = q) := by simp [hitQ]
theorem hitQ_next (cp : Int → Int) (l : List Fl) (s : Rt) (q p : Rat) {es : List Int} {j : Nat} (hj : j < es.length) : hitQ cp l s q p (es.take (j + 1)) = (hitQ cp l s q p (es.take j) || decide (lev cp l s es[j] = some q)) := by
  rw [List.take_succ_eq_append_getElem hj, hitQ, hitQ, List.any_append, Bool.or_assoc]; simp
theorem hitQ_all {cp : Int → Int} {l : List Fl} {s : Rt} {q : Rat} {i : Nat} : hitQ cp l s q (lmA l i) (lkA l i) = true ↔ stopQ cp l s q i := by
  rw [hitQ, Bool.or_eq_true, List.any_eq_true, decide_eq_true_iff, stopQ]
  simp only [decide_eq_true_iff]
end Go.Proofs.Ythdfflbhogfejaa
namespace Go.Proofs.Ythdfflbhogfejaa
set_option maxRecDepth 100000
open Go.RowKit

theorem capacity_any (w : World) (n : Int) (b : Bool) (hb : decide (0 ≤ n ∧ n ≤ 4096) = b) : Calls Try.prog 36 #[.int .i64 n] w fun e w' => e = .returned (.bool b) ∧ w = w' := by
  have HB := Lib.hid hb
  clear hb
  by_cases h0 : 0 ≤ n
  · by_cases h1 : n ≤ 4096
    · go_enter Try.func36, Try.ntmps36
      go_wp2_with fail
      go_ret
      exact ⟨ret_bool (by rw [← HB.out]; simp [h0, h1]), rfl⟩
    · have h1' : decide (n ≤ 4096) = false := decide_eq_false h1
      go_enter Try.func36, Try.ntmps36
      go_wp2_with fail
      go_ret
      exact ⟨ret_bool (by rw [← HB.out]; simp [h1]), rfl⟩
  · have h0' : decide (0 ≤ n) = false := decide_eq_false h0
    go_enter Try.func36, Try.ntmps36
    go_wp2_with fail
    go_ret
    exact ⟨ret_bool (by rw [← HB.out]; simp; omega), rfl⟩

def capsOk (caps : List Int) : Prop := ∀ c ∈ caps, 0 ≤ c ∧ c ≤ 4096
def flOk (n : Nat) (f : Fl) : Prop := 0 ≤ f.2 ∧ f.2 ≤ 4096 ∧ LinksOk n f.1
def LinksTo (n : Nat) (ls : List Int) (k : Nat) : Prop := ∀ i (h : i < ls.length), i < k → 0 ≤ ls[i] ∧ ls[i] < n ∧ (∀ h0 : 0 < i, ls[i - 1] < ls[i])
theorem LinksTo.step {n : Nat} {ls : List Int} {k : Nat} (h : LinksTo n ls k) (hk : k < ls.length) (h1 : 0 ≤ ls[k]) (h2 : ls[k] < n) (h3 : ∀ h0 : 0 < k, ls[k - 1] < ls[k]) : LinksTo n ls (k + 1) := by
  intro i hi hik
  rcases Nat.lt_or_ge i k with h4 | h4
  · exact h i hi h4
  · have : i = k := by omega
    subst this
    exact ⟨h1, h2, h3⟩
theorem not_links {n : Nat} {ls : List Int} {k : Nat} (hk : k < ls.length) (h : ¬ (0 ≤ ls[k] ∧ ls[k] < n ∧ (∀ h0 : 0 < k, ls[k - 1] < ls[k]))) : ¬ LinksOk n ls := fun h' => h (h' k hk)

set_option maxHeartbeats 1600000 in
theorem flvalid_any (w : World) (A : Option Addr) (n c : Nat) (caps : List Int) (D : Option Addr) (m d : Nat) (fs : List Fm) (b : Bool) (hA : Is w A c caps) (hD : Ws w D d fs) (hn : n = caps.length) (hm : m = fs.length) (hb : decide (validFl caps (fs.map Fm.fl)) = b) :
    Calls Try.prog 17 #[.slice A n c, .slice D m d] w fun e w' => e = .returned (.bool b) ∧ Below w.heap.size w w' := by
  have HB := Lib.hid hb; clear hb
  have HA := Lib.hid hA; clear hA
  have HD := Lib.hid hD; clear hD
  subst hn hm
  by_cases hl1 : caps.length ≤ 64
  · by_cases hl2 : fs.length ≤ 48
    · go_enter Try.func17, Try.ntmps17
      go_wp2_with fail
      go_loop [21] (fun i => ∃ k : Nat, k ≤ caps.length ∧ i = .int .i64 k ∧ capsOk (caps.take k)) (fun i => caps.length - (intOf i).toNat)
      case atStart => exact ⟨0, by omega, rfl, by intro c hc; simp at hc⟩
      case round =>
        obtain ⟨k, hk, rfl, ha⟩ := hrel
        have HC := Lib.hid ha
        clear ha
        by_cases hlt : k < caps.length
        · obtain ⟨ad, rfl, _, hcc⟩ := HA.out.at k hlt
          by_cases hok : 0 ≤ caps[k] ∧ caps[k] ≤ 4096
          · have HOK := Lib.hid hok
            clear hok
            go_wp2_with fail
            refine (capacity_any w _ true (decide_eq_true HOK.out)).mono ?_
            rintro e wn ⟨rfl, rfl⟩
            go_wp2_with fail
            go_round
            case rel => exact ⟨k + 1, by omega, by go_num, by
              have h1 := HC.out; have h2 := HOK.out
              intro c hc
              rw [List.take_succ_eq_append_getElem hlt, List.mem_append] at hc
              rcases hc with hc | hc
              · exact h1 c hc
              · rw [List.mem_singleton] at hc; rw [hc]; exact h2⟩
            case measure => simp [intOf]; omega
          · have HOK : Hid (¬ (0 ≤ caps[k] ∧ caps[k] ≤ 4096)) := hok
            clear hok
            go_wp2_with fail
            refine (capacity_any w _ false (decide_eq_false HOK.out)).mono ?_
            rintro e wn ⟨rfl, rfl⟩
            go_wp2_with fail
            go_ret
            exact ⟨ret_bool (by rw [← HB.out]; symm; exact decide_eq_false (fun h => HOK.out (h.2.2.1 _ (List.getElem_mem hlt)))), Below.refl _ _⟩
        · have HCA : Hid (capsOk caps) := Lib.hid (by have := HC.out; rwa [List.take_of_length_le (by omega)] at this)
          clear HC
          go_wp2_with fail
          go_loopw [31] (fun i wr => ∃ k : Nat, k ≤ fs.length ∧ i = .int .i64 k ∧ (∀ f ∈ (fs.map Fm.fl).take k, flOk caps.length f) ∧ Below w.heap.size w wr) (fun i _ => fs.length - (intOf i).toNat)
          case atStart => exact ⟨0, by omega, rfl, by intro f hf; simp at hf, Below.refl _ _⟩
          case round =>
            obtain ⟨k, hk, rfl, hF, bw⟩ := hrel
            have HF := Lib.hid hF
            clear hF
            by_cases hlt : k < fs.length
            · have hW := HD.out.below bw
              obtain ⟨ad, rfl, _, hcc⟩ := hW.rd (by omega)
              obtain ⟨hc0, hc1⟩ := hcc k hlt
              have hok := hW.ok _ (List.getElem_mem hlt)
              have HFE : Hid (fs[k].fl ∈ fs.map Fm.fl) := Lib.hid (List.mem_map_of_mem (List.getElem_mem hlt))
              have HTK : Hid ((fs.map Fm.fl).take (k + 1) = (fs.map Fm.fl).take k ++ [fs[k].fl]) := Lib.hid (by rw [List.take_succ_eq_append_getElem (by simpa using hlt)]; simp)
              obtain ⟨x, hx⟩ : ∃ x, fs[k] = x := ⟨_, rfl⟩
              rw [hx] at hc0 hc1 hok HFE HTK
              clear hcc hx hW
              go_upto_region 12 with fail
              have fb := (fb_alloc wr x 48).1
              have bb := (fb_alloc wr x 48).2
              have HOK := Lib.hid (hok.below bb)
              clear hok hc0 hc1
              generalize (wr.alloc (.cells #[.slice x.A x.ls.length x.c, .int .i64 x.m] 48)) = wm at fb bb HOK ⊢
              replace bw := below_on bw bb bw.size
              have fc0 := fb.c0
              have fc1 := fb.c1
              clear bb
              by_cases hcm : 0 ≤ x.m ∧ x.m ≤ 4096
              · have HCM := Lib.hid hcm
                clear hcm
                go_wp2_with fail
                refine (capacity_any wm _ true (decide_eq_true HCM.out)).mono ?_
                rintro e wn ⟨rfl, rfl⟩
                go_wp2_with fail
                go_loop [42] (fun i => ∃ k : Nat, k ≤ x.ls.length ∧ i = .int .i64 k ∧ LinksTo caps.length x.ls k) (fun i => x.ls.length - (intOf i).toNat)
                case atStart => exact ⟨0, by omega, rfl, by intro i _ h0; omega⟩
                case round =>
                  obtain ⟨j, hj, rfl, hL⟩ := hrel
                  have HL := Lib.hid hL
                  clear hL
                  by_cases hjt : j < x.ls.length
                  · obtain ⟨ae, hae, _, hce⟩ := HOK.out.is.at j hjt
                    have hjm := HOK.out.is.len
                    have HBAD : Hid (¬ (0 ≤ x.ls[j] ∧ x.ls[j] < caps.length ∧ (∀ h0 : 0 < j, x.ls[j - 1] < x.ls[j])) → b = false) := Lib.hid (by
                      intro h
                      rw [← HB.out]
                      exact decide_eq_false (fun h' => not_links hjt h (h'.2.2.2 _ HFE.out).2.2))
                    by_cases c1 : 0 ≤ x.ls[j]
                    · by_cases c2 : x.ls[j] < caps.length
                      · have c2' : decide ((caps.length : Int) ≤ x.ls[j]) = false := decide_eq_false (by omega)
                        rcases j with _ | j
                        · rw [add_at0] at hce
                          have HNX : Hid (LinksTo caps.length x.ls (0 + 1)) := Lib.hid (HL.out.step hjt c1 c2 (fun h0 => by omega))
                          clear HBAD HL
                          go_wp2_with fail
                          go_round
                          case rel => exact ⟨_, _, _, _, ⟨0 + 1, by omega, by go_num, HNX.out⟩, rfl, rfl, rfl, rfl⟩
                          case measure => simp [intOf]; omega
                        · rw [add_at1] at hce
                          obtain ⟨af, haf, _, hcf⟩ := HOK.out.is.at j (by omega)
                          rw [hae] at haf
                          injection haf with haf
                          subst haf
                          by_cases c4 : x.ls[j] < x.ls[j + 1]
                          · have HNX : Hid (LinksTo caps.length x.ls (j + 1 + 1)) := Lib.hid (HL.out.step hjt c1 c2 (fun h0 => c4))
                            have c4' : decide (x.ls[j + 1] ≤ x.ls[j]) = false := decide_eq_false (by omega)
                            clear HBAD HL
                            go_wp2_with fail
                            go_round
                            case rel => exact ⟨_, _, _, _, ⟨j + 1 + 1, by omega, by go_num, HNX.out⟩, rfl, rfl, rfl, rfl⟩
                            case measure => simp [intOf]; omega
                          · have HBB := Lib.hid (HBAD.out (fun h => c4 (h.2.2 (by omega))))
                            have c4' : decide (x.ls[j + 1] ≤ x.ls[j]) = true := decide_eq_true (by omega)
                            clear HBAD HL
                            go_wp2_with fail
                            go_ret
                            exact ⟨ret_bool HBB.out.symm, bw⟩
                      · have HBB := Lib.hid (HBAD.out (fun h => c2 h.2.1))
                        have c2' : decide ((caps.length : Int) ≤ x.ls[j]) = true := decide_eq_true (by omega)
                        clear HBAD HL
                        rcases j with _ | j
                        · rw [add_at0] at hce
                          go_wp2_with fail
                          go_ret
                          exact ⟨ret_bool HBB.out.symm, bw⟩
                        · rw [add_at1] at hce
                          go_wp2_with fail
                          go_ret
                          exact ⟨ret_bool HBB.out.symm, bw⟩
                    · have HBB := Lib.hid (HBAD.out (fun h => c1 h.1))
                      have c1' : decide (x.ls[j] < 0) = true := decide_eq_true (by omega)
                      clear HBAD HL
                      rcases j with _ | j
                      · rw [add_at0] at hce
                        go_wp2_with fail
                        go_ret
                        exact ⟨ret_bool HBB.out.symm, bw⟩
                      · rw [add_at1] at hce
                        go_wp2_with fail
                        go_ret
                        exact ⟨ret_bool HBB.out.symm, bw⟩
                  · have HNX : Hid (∀ f ∈ (fs.map Fm.fl).take (k + 1), flOk caps.length f) := Lib.hid (by
                      rw [HTK.out]
                      intro f hf
                      rw [List.mem_append, List.mem_singleton] at hf
                      rcases hf with hf | rfl
                      · exact HF.out f hf
                      · exact ⟨HCM.out.1, HCM.out.2, fun i hi => HL.out i hi (by show i < j; have : x.fl.1.length = x.ls.length := rfl; omega)⟩)
                    clear HL
                    go_wp2_with fail
                    go_roundw
                    case rel => exact ⟨k + 1, by omega, by go_num, HNX.out, bw⟩
                    case measure => simp [intOf]; omega
              · have HBB : Hid (b = false) := Lib.hid (by
                  rw [← HB.out]
                  exact decide_eq_false (fun h' => hcm ⟨(h'.2.2.2 _ HFE.out).1, (h'.2.2.2 _ HFE.out).2.1⟩))
                have HCM : Hid (¬ (0 ≤ x.m ∧ x.m ≤ 4096)) := hcm
                clear hcm
                go_wp2_with fail
                refine (capacity_any wm _ false (decide_eq_false HCM.out)).mono ?_
                rintro e wn ⟨rfl, rfl⟩
                go_wp2_with fail
                go_ret
                exact ⟨ret_bool HBB.out.symm, bw⟩
            · have HBB : Hid (b = true) := Lib.hid (by
                rw [← HB.out]
                refine decide_eq_true ⟨hl1, by simpa using hl2, HCA.out, fun f hf => ?_⟩
                have := HF.out f (by rw [List.take_of_length_le (by simp; omega)]; exact hf)
                exact this)
              go_wp2_with fail
              go_ret
              exact ⟨ret_bool HBB.out.symm, bw⟩
    · have h2 : decide (48 < fs.length) = true := decide_eq_true (by omega)
      have HBB : Hid (b = false) := Lib.hid (by rw [← HB.out]; exact decide_eq_false (fun h => hl2 (by simpa using h.2.1)))
      go_enter Try.func17, Try.ntmps17
      go_wp2_with fail
      go_ret
      exact ⟨ret_bool HBB.out.symm, Below.refl _ _⟩
  · have h2 : decide (64 < caps.length) = true := decide_eq_true (by omega)
    have HBB : Hid (b = false) := Lib.hid (by rw [← HB.out]; exact decide_eq_false (fun h => hl1 h.1))
    go_enter Try.func17, Try.ntmps17
    go_wp2_with fail
    go_ret
    exact ⟨ret_bool HBB.out.symm, Below.refl _ _⟩
end Go.Proofs.Ythdfflbhogfejaa
