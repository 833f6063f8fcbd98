/- The walks of natural.Parse and drydockref01.Parse. -/
import Derived.Test.YtodopppoikdglaaRefA
import Derived.Test.YtodopppoikdglaaNatF
import Derived.WalkLawsBesides
import Derived.WalkSpells
namespace Go.Proofs.Ytodopppoikdglaa
open Go.RowKit

/-- the bytes of a text as numbers -/
def bl (s : ByteArray) : List Nat := s.data.toList.map UInt8.toNat
theorem bl_len (s : ByteArray) : (bl s).length = s.size := by simp [bl]
theorem bl_at (s : ByteArray) (k : Nat) (h : k < s.size) (h2 : k < (bl s).length) : (bl s)[k] = s[k].toNat := by simp [bl]; rfl
def isDig (b : Nat) : Bool := decide (48 ≤ b) && decide (b ≤ 57)
/-- the number whose decimal digits these bytes are -/
def dval (l : List Nat) : Nat := l.foldl (fun a b => a * 10 + (b - 48)) 0
theorem dval_snoc (l : List Nat) (b : Nat) : dval (l ++ [b]) = dval l * 10 + (b - 48) := by simp [dval, List.foldl_append]
theorem list_rev_ind {α : Type} {P : List α → Prop} (h0 : P []) (h1 : ∀ l a, P l → P (l ++ [a])) (l : List α) : P l := by
  have : ∀ l : List α, P l.reverse := by
    intro l
    induction l with
    | nil => exact h0
    | cons a l ih => rw [List.reverse_cons]; exact h1 _ _ ih
  have h := this l.reverse
  rwa [List.reverse_reverse] at h
theorem dval_append (l m : List Nat) : dval (l ++ m) = dval l * 10 ^ m.length + dval m := by
  refine list_rev_ind (P := fun m => dval (l ++ m) = dval l * 10 ^ m.length + dval m) ?_ ?_ m
  · simp [dval]
  · intro m b ih
    rw [← List.append_assoc, dval_snoc, ih, dval_snoc, List.length_append, List.length_cons, List.length_nil, Nat.zero_add, Nat.pow_succ]; grind
theorem dval_take_succ (l : List Nat) (k : Nat) (h : k < l.length) : dval (l.take (k + 1)) = dval (l.take k) * 10 + (l[k] - 48) := by
  rw [List.take_succ_eq_append_getElem h, dval_snoc]
def parseS (l : List Nat) : List Nat × Int := if 5000 < l.length then ([], 2) else if l = [] ∨ l.all isDig = false then ([], 6) else sizS (dval l)
theorem parse_long {l : List Nat} (h : 5000 < l.length) : parseS l = ([], 2) := by simp [parseS, h]
theorem parse_nil : parseS [] = ([], 6) := by simp [parseS]
theorem parse_bad {l : List Nat} (h : ¬ 5000 < l.length) (k : Nat) (hk : k < l.length) (hb : isDig l[k] = false) : parseS l = ([], 6) := by
  have hall : l.all isDig = false := by
    rw [Bool.eq_false_iff]
    intro ha
    rw [List.all_eq_true] at ha
    exact Bool.false_ne_true (hb.symm.trans (ha _ (List.getElem_mem hk)))
  rw [parseS, if_neg h, if_pos (Or.inr hall)]
theorem parse_good {l : List Nat} (h : ¬ 5000 < l.length) (h0 : l ≠ []) (ha : ∀ k (hk : k < l.length), isDig l[k] = true) : parseS l = sizS (dval l) := by
  rw [parseS, if_neg h, if_neg]
  intro hc
  rcases hc with hc | hc
  · exact h0 hc
  · rw [Bool.eq_false_iff] at hc
    apply hc
    rw [List.all_eq_true]
    intro x hx
    obtain ⟨k, hk, rfl⟩ := List.getElem_of_mem hx
    exact ha k hk
/-- the first k bytes are digits -/
def DigTo (l : List Nat) (k : Nat) : Prop := ∀ j (hj : j < l.length), j < k → isDig l[j] = true
theorem DigTo.step {l : List Nat} {k : Nat} (h : DigTo l k) (hk : k < l.length) (hb : isDig l[k] = true) : DigTo l (k + 1) := fun j hj hlt => by
  rcases Nat.lt_or_ge j k with h1 | h1
  · exact h j hj h1
  · obtain rfl : j = k := by omega
    exact hb
theorem isDig_iff {b : Nat} : isDig b = true ↔ 48 ≤ b ∧ b ≤ 57 := by simp [isDig]
theorem isDig_false {b : Nat} (h : b < 48 ∨ 57 < b) : isDig b = false := by
  rw [Bool.eq_false_iff]; intro h2; rw [isDig_iff] at h2; omega

/-- Parse after the first k bytes: the limbs of their number -/
def ParInv (l : List Nat) (k : Nat) (O : List Nat) : Prop := U32 O ∧ O.length ≤ k ∧ nv O = dval (l.take k)
/-- .. and the carry while a chunk of value v0 is added at the scale sc to the limbs O0 -/
def ParIn (O0 : List Nat) (sc v0 i v : Nat) (O : List Nat) : Prop := U32 O ∧ O.length = O0.length ∧ v < 4294967296 ∧ (∀ k (h : k < O.length) (h2 : k < O0.length), i ≤ k → O[k] = O0[k]) ∧ nv (O.take i) + pw i * v = nv (O0.take i) * sc + v0
theorem ParIn.start {O0 : List Nat} (h : U32 O0) (sc : Nat) {v0 : Nat} (hv : v0 < 4294967296) : ParIn O0 sc v0 0 v0 O0 := ⟨h, rfl, hv, fun _ _ _ _ => rfl, by simp [nv_nil, pw_zero]⟩
theorem par_bound {o sc v : Nat} (ho : o < 4294967296) (hs : sc ≤ 1000000000) (hv : v < 4294967296) : v + o * sc < 18446744073709551616 ∧ (v + o * sc) / 4294967296 < 4294967296 := by
  have h1 : o * sc ≤ 4294967295 * 1000000000 := Nat.mul_le_mul (by omega) hs
  omega
theorem ParIn.step {O0 O : List Nat} {sc v0 i v : Nat} (h : ParIn O0 sc v0 i v O) (hs : sc ≤ 1000000000) (hi : i < O.length) :
    ParIn O0 sc v0 (i + 1) ((v + O[i] * sc) / 4294967296) (O.set i ((v + O[i] * sc) % 4294967296)) := by
  obtain ⟨h1, h2, h3, h4, h5⟩ := h
  have b := par_bound (h1.at i hi) hs h3
  refine ⟨h1.set _ (by omega), by simpa using h2, b.2, ?_, ?_⟩
  · intro k hk hk2 hle
    rw [List.getElem_set_ne (by omega)]
    exact h4 k (by simpa using hk) hk2 (by omega)
  · have e := h4 i hi (by omega) (Nat.le_refl _)
    rw [nv_take_succ O0 i (by omega), nv_take_succ _ i (by simpa using hi), pw_succ, ← e]
    have e2 : (O.set i ((v + O[i] * sc) % 4294967296)).take i = O.take i := by rw [List.take_set_of_le (Nat.le_refl _)]
    rw [e2, List.getElem_set_self]
    have hd := Nat.div_add_mod (v + O[i] * sc) 4294967296
    grind
theorem ParIn.done {O0 O : List Nat} {sc v0 v : Nat} (h : ParIn O0 sc v0 O0.length v O) : U32 O ∧ O.length = O0.length ∧ v < 4294967296 ∧ nv O + pw O.length * v = nv O0 * sc + v0 := by
  obtain ⟨h1, h2, h3, h4, h5⟩ := h
  rw [List.take_of_length_le (by omega), List.take_length] at h5
  exact ⟨h1, h2, h3, by rw [h2]; exact h5⟩

/-- a chunk of j digits from place k on -/
def Chunk (l : List Nat) (k t p V : Nat) : Prop := ∃ j, t = k + j ∧ j ≤ 9 ∧ p = 10 ^ j ∧ V < p ∧ dval (l.take t) = dval (l.take k) * p + V
theorem Chunk.start (l : List Nat) (k : Nat) : Chunk l k k 1 0 := ⟨0, rfl, by omega, rfl, by omega, by omega⟩
theorem ten_le {j : Nat} (h : j ≤ 9) : 10 ^ j ≤ 1000000000 := by
  have := Nat.pow_le_pow_right (show 0 < 10 by omega) h
  simpa using this
theorem Chunk.bound {l : List Nat} {k t p V : Nat} (h : Chunk l k t p V) : k ≤ t ∧ p ≤ 1000000000 ∧ V < p ∧ 0 < p := by
  obtain ⟨j, h1, h2, h3, h4, h5⟩ := h
  have := ten_le h2
  omega
theorem Chunk.step {l : List Nat} {k t p V : Nat} (h : Chunk l k t p V) (ht : t < l.length) (hp : p < 1000000000) (hd : 48 ≤ l[t] ∧ l[t] ≤ 57) : Chunk l k (t + 1) (p * 10) (V * 10 + (l[t] - 48)) := by
  obtain ⟨j, h1, h2, h3, h4, h5⟩ := h
  refine ⟨j + 1, by omega, ?_, by rw [h3, Nat.pow_succ], by omega, ?_⟩
  · rcases Nat.lt_or_ge j 9 with h6 | h6
    · omega
    · obtain rfl : j = 9 := by omega
      exfalso; rw [h3] at hp; simp at hp
  · rw [dval_take_succ l t ht, h5]; grind
theorem Chunk.full {l : List Nat} {k t p V : Nat} (h : Chunk l k t p V) (hp : ¬ p < 1000000000) : k < t := by
  obtain ⟨j, h1, h2, h3, h4, h5⟩ := h
  rcases Nat.eq_zero_or_pos j with h6 | h6
  · subst h6; simp at h3; omega
  · omega
theorem Chunk.val {l : List Nat} {k t p V : Nat} (h : Chunk l k t p V) : dval (l.take t) = dval (l.take k) * p + V := by
  obtain ⟨j, h1, h2, h3, h4, h5⟩ := h
  exact h5

theorem cast_par (v o p : Nat) : ((v : Int) + (o : Int) * p) = ((v + o * p : Nat) : Int) := by rw [Int.natCast_add, Int.natCast_mul]
theorem cast_par_mod (v o p : Nat) : ((v : Int) + (o : Int) * p) % 4294967296 = (((v + o * p) % 4294967296 : Nat) : Int) := by rw [cast_par, cast_mod]
theorem cast_par_div (v o p : Nat) : ((v : Int) + (o : Int) * p) / 4294967296 = (((v + o * p) / 4294967296 : Nat) : Int) := by rw [cast_par, cast_div]
theorem ParInv.next {l : List Nat} {k t p V v : Nat} {O O' : List Nat} (h : ParInv l k O) (hc : Chunk l k t p V) (hd : ParIn O p V O.length v O') (hkt : k < t) : ParInv l t (O' ++ [v]) ∧ (v = 0 → ParInv l t O') := by
  obtain ⟨d1, d2, d3, d4⟩ := hd.done
  obtain ⟨h1, h2, h3⟩ := h
  have hv := hc.val
  refine ⟨⟨d1.append (U32.one d3), by simp; omega, ?_⟩, fun h0 => ⟨d1, by omega, ?_⟩⟩
  · rw [nv_append, nv_cons, nv_nil, hv, ← h3, ← d4]; simp
  · rw [hv, ← h3, ← d4, h0]; simp

set_option maxRecDepth 100000 in
set_option maxHeartbeats 2000000 in
theorem parse_any (w : World) (s : ByteArray) (R : List Nat) (E : Int) (hs : s.size ≤ 9223372036854775807) (hr : parseS (bl s) = (R, E)) :
    Calls Try.prog 72 #[.string s] w (NatRes w R E) := by
  have HR := Lib.hid hr
  clear hr
  have hbl := bl_len s
  by_cases h5 : 5000 < s.size
  · go_enter Try.func72, Try.ntmps72
    go_wp2_with fail
    go_ret2
    have e := HR.out
    rw [parse_long (by omega)] at e
    obtain ⟨rfl, rfl⟩ := Prod.mk.inj e
    exact ⟨_, _, rfl, Nt.nil _ _ _ (by omega), Below.refl _ _⟩
  · obtain ⟨i0, hi, hz0, hz1, hz2⟩ := info_parts u32_info
    have HBL := Lib.hid hbl
    clear hbl
    have hd5 : decide ((5000 : Int) < (s.size : Int)) = false := decide_eq_false (by omega)
    go_enter Try.func72, Try.ntmps72
    go_wp2_with fail
    go_loop [4] (fun i => ∃ k : Nat, k ≤ s.size ∧ i = .int .i64 k ∧ DigTo (bl s) k) (fun i => s.size - (intOf i).toNat)
    case atStart => exact ⟨0, by omega, rfl, fun j _ h => absurd h (by omega)⟩
    case round =>
      obtain ⟨k, hk, rfl, hd⟩ := hrel
      have HD := Lib.hid hd
      clear hd
      by_cases hlt : k < s.size
      · have hkl : k < (bl s).length := by rw [HBL.out]; exact hlt
        have HA := Lib.hid (bl_at s k hlt hkl)
        by_cases hb1 : s[k].toNat < 48
        · have hb1' : (s[k].toNat : Int) < 48 := by omega
          go_wp2_with fail
          go_ret2
          have e := HR.out
          rw [parse_bad (by have := HBL.out; omega) k hkl (isDig_false (by rw [HA.out]; omega))] at e
          obtain ⟨rfl, rfl⟩ := Prod.mk.inj e
          exact ⟨_, _, rfl, Nt.nil _ _ _ (by omega), Below.refl _ _⟩
        · have hb1' : decide ((s[k].toNat : Int) < 48) = false := decide_eq_false (by omega)
          by_cases hb2 : 57 < s[k].toNat
          · have hb2' : (57 : Int) < s[k].toNat := by omega
            go_wp2_with fail
            go_ret2
            have e := HR.out
            rw [parse_bad (by have := HBL.out; omega) k hkl (isDig_false (by rw [HA.out]; omega))] at e
            obtain ⟨rfl, rfl⟩ := Prod.mk.inj e
            exact ⟨_, _, rfl, Nt.nil _ _ _ (by omega), Below.refl _ _⟩
          · have hb2' : decide ((57 : Int) < s[k].toNat) = false := decide_eq_false (by omega)
            go_wp2_with fail
            go_round
            case rel => exact ⟨k + 1, by omega, by go_num, HD.out.step hkl (isDig_iff.2 (by rw [HA.out]; omega))⟩
            case measure => simp [intOf]; omega
      · by_cases h0 : s.size = 0
        · have hnil : bl s = [] := List.eq_nil_of_length_eq_zero (by rw [HBL.out]; exact h0)
          have he : s = ByteArray.empty := by
            have h2 : s.data.size = 0 := h0
            cases s with
            | mk d => simp at h2; subst h2; rfl
          have HN := Lib.hid hnil
          clear hnil
          subst he
          go_wp2_with fail
          go_ret2
          have e := HR.out
          rw [HN.out, parse_nil] at e
          obtain ⟨rfl, rfl⟩ := Prod.mk.inj e
          exact ⟨_, _, rfl, Nt.nil _ _ _ (by omega), Below.refl _ _⟩
        · have hL : s.toList ≠ [] := fun h1 => h0 (by rw [toList_nil_iff_emptyBytes] at h1; rw [h1]; rfl)
          have hL1 : (s.toList == []) = false := by cases hq : s.toList with
            | nil => exact absurd hq hL
            | cons a b => rfl
          have hL2 : s.toList.isEmpty = false := by cases hq : s.toList with
            | nil => exact absurd hq hL
            | cons a b => rfl
          have HL := Lib.hid hL
          clear hL
          have hlist0 : bl s ≠ [] := fun h1 => h0 (by rw [← HBL.out, h1]; rfl)
          have HP := Lib.hid (parse_good (by have := HBL.out; omega) hlist0 (fun j hj => HD.out j hj (by have := HBL.out; omega)))
          have hks : k = s.size := by omega
          have HDD : Hid (DigTo (bl s) s.size) := by rw [← hks]; exact HD.out
          clear hks hlist0
          go_wp2_with fail
          go_loopw [5, 6] (fun o at_ wr => ∃ (k : Nat) (O : List Nat) (AO : Option Addr) (cO : Nat), k ≤ s.size ∧ at_ = .int .i64 k ∧ o = .slice AO O.length cO ∧ ParInv (bl s) k O ∧ Gr lmv 37 wr w.heap.size AO cO O ∧ Below w.heap.size w wr) (fun _ at_ _ => s.size - (intOf at_).toNat)
          case atStart => exact ⟨0, [], none, 0, by omega, rfl, rfl, ⟨U32.nil, by simp, by simp [nv_nil, dval]⟩, Gr.nil _ _, Below.refl _ _⟩
          case round =>
            obtain ⟨k, O, AO, cO, hk, rfl, rfl, hinv, hgr, hbr⟩ := hrel
            have HI := Lib.hid hinv
            have hOl : O.length ≤ 5000 := by have := hinv.2.1; omega
            clear hinv
            by_cases hlt : k < s.size
            · go_wp2_with fail
              obtain ⟨w2, hw2⟩ : ∃ w2 : World, w2 = wr := ⟨_, rfl⟩
              rw [← hw2] at hgr hbr ⊢
              clear hw2
              go_loopw [6, 7, 8] (fun at_ sc v wr => ∃ (t p V : Nat), t ≤ s.size ∧ at_ = .int .i64 t ∧ sc = .int .u64 p ∧ v = .int .u64 V ∧ Chunk (bl s) k t p V ∧ Qt w2 wr) (fun at_ _ _ _ => s.size - (intOf at_).toNat)
              case atStart => exact ⟨k, 1, 0, hk, rfl, rfl, rfl, Chunk.start _ _, Qt.refl _⟩
              case round =>
                obtain ⟨t, p, V, ht, rfl, rfl, rfl, hch, hq⟩ := hrel
                have HC := Lib.hid hch
                obtain ⟨hkt, hp9, hVp, hp0⟩ := hch.bound
                clear hch
                by_cases hmore : t < s.size ∧ p < 1000000000
                · obtain ⟨ht2, hp2⟩ := hmore
                  have htl : t < (bl s).length := by rw [HBL.out]; exact ht2
                  have hA := bl_at s t ht2 htl
                  have hdg := isDig_iff.1 (HDD.out t htl ht2)
                  rw [hA] at hdg
                  have HA := Lib.hid hA
                  have HDG := Lib.hid hdg
                  clear hdg
                  clear hA
                  have hp2' : (p : Int) < 1000000000 := by omega
                  have HP2 := Lib.hid hp2
                  have HP9 := Lib.hid hp9
                  clear hp2 hp9
                  go_wp2_with fail
                  have hp2 := HP2.out
                  have hp9 := HP9.out
                  obtain ⟨hdg1, hdg2⟩ := HDG.out
                  have hs1 : IntKind.u8.wrap ((s[t].toNat : Int) - 48) = (s[t].toNat : Int) - 48 := by rw [IntKind.wrap_u8]; omega
                  have hs2 : IntKind.u64.wrap ((p : Int) * 10) = (p : Int) * 10 := by rw [IntKind.wrap_u64]; omega
                  have hs3 : IntKind.u64.wrap ((V : Int) * 10) = (V : Int) * 10 := by rw [IntKind.wrap_u64]; omega
                  have hs4 : IntKind.u64.wrap ((V : Int) * 10 + ((s[t].toNat : Int) - 48)) = (V : Int) * 10 + ((s[t].toNat : Int) - 48) := by rw [IntKind.wrap_u64]; omega
                  go_quiet (fail)
                  go_wp2_with fail
                  go_roundw
                  case rel => exact ⟨t + 1, p * 10, V * 10 + ((bl s)[t] - 48), by omega, by go_num, int_num (by omega), int_num (by rw [HA.out]; omega), HC.out.step htl hp2 (by rw [HA.out]; exact HDG.out), hq.drewN _⟩
                  case measure => simp [intOf]; omega
                · have hkt2 : k < t := by
                    by_cases h1 : t < s.size
                    · exact HC.out.full (fun h2 => hmore ⟨h1, h2⟩)
                    · omega
                  have hgr3 := hgr.below hq.keep
                  have hbr3 := below_on hbr hq.keep hbr.size
                  have hV32 : V < 4294967296 := by omega
                  have HP9 := Lib.hid hp9
                  have HVp := Lib.hid hVp
                  by_cases h1 : t < s.size
                  · have hp2 : decide ((p : Int) < 1000000000) = false := decide_eq_false (by omega)
                    clear hmore hp9 hVp hp0 hgr hbr
                    go_wp2_with fail
                    go_loopw [8, 57] (fun vv iv wr => ∃ (i v : Nat) (O' : List Nat), i ≤ O.length ∧ iv = .int .i64 i ∧ vv = .int .u64 v ∧ ParIn O p V i v O' ∧ Gr lmv 37 wr w.heap.size AO cO O' ∧ Below w.heap.size w wr) (fun _ iv _ => O.length - (intOf iv).toNat)
                    case atStart => exact ⟨0, V, O, by omega, rfl, rfl, ParIn.start HI.out.1 p hV32, hgr3, hbr3⟩
                    case round =>
                      obtain ⟨i, v, O', hi2, rfl, rfl, hin, hgr4, hbr4⟩ := hrel
                      have HIN := Lib.hid hin
                      have HOL := Lib.hid hin.2.1
                      have hv32 : v < 4294967296 := hin.2.2.1
                      have hOu := hin.1
                      clear hin hgr3 hbr3
                      by_cases hil : i < O.length
                      · have hio : i < O'.length := by have := HOL.out; omega
                        obtain ⟨g, rfl⟩ := hgr4.some_ (by omega)
                        have hgB : w.heap.size ≤ g := (hgr4.form.2.2 _ rfl).1
                        have hcell := hgr4.cell i hio
                        have hfree := hgr4.free i
                        have hb1 := hOu.at i hio
                        have hb2 := (par_bound hb1 HP9.out hv32).1
                        have HG4 := Lib.hid hgr4
                        have HB4 := Lib.hid hbr4
                        clear hgr4 hbr4 hOu
                        go_wp2_with fail
                        go_roundw
                        case rel => exact ⟨i + 1, _, _, by omega, by go_num, by rw [cast_par_div], HIN.out.step HP9.out hio, by rw [cast_par_mod]; exact HG4.out.store _ _, HB4.out.setCell hgB _⟩
                        case measure => simp [intOf]; omega
                      · obtain rfl : i = O.length := by omega
                        have hnext := HI.out.next HC.out HIN.out hkt2
                        have HX := Lib.hid hnext
                        have hOl2 : O'.length ≤ 5000 := by have := HOL.out; omega
                        clear hnext hOu
                        by_cases hv0 : 0 < v
                        · go_wp2_with (at_builtin; refine wpList_append_rd _ (mk := lmv) (fun _ => rfl) rfl _ _ 23 rfl 37 i0 (.int .u32 0) 4 Try.underlying23 hi hz0 hz1 hz2 rfl (B := w.heap.size) rfl HOL.out.symm (hgr4.below ((Below.refl _ wr).alloc (Nat.le_refl _) _)) _ 1 1 [v] rfl rfl (Rd.one_ wr _ _ _ rfl) (by simp only [maxLen]; omega) (by omega) (by have := hbr4.size; simp; omega) ?_; intro A' c' w3 hgA hgrA hbA hatA)
                          go_roundw
                          case rel => exact ⟨_, O' ++ [v], A', c', ht, rfl, by rw [List.length_append, HOL.out]; rfl, HX.out.1, hgA, (hbr4.alloc hbr4.size _).trans hbA⟩
                          case measure => simp [intOf]; omega
                        · obtain rfl : v = 0 := by omega
                          have HVZ : Hid ((0 : Nat) = 0) := rfl
                          clear hv0 hv32
                          go_wp2_with fail
                          go_roundw
                          case rel => exact ⟨_, O', AO, cO, ht, rfl, by rw [HOL.out], HX.out.2 HVZ.out, hgr4, hbr4⟩
                          case measure => simp [intOf]; omega
                  · obtain rfl : t = s.size := by omega
                    clear hmore hp9 hVp hp0 hgr hbr h1 ht
                    have ht : s.size ≤ s.size := Nat.le_refl _
                    go_wp2_with fail
                    go_loopw [8, 57] (fun vv iv wr => ∃ (i v : Nat) (O' : List Nat), i ≤ O.length ∧ iv = .int .i64 i ∧ vv = .int .u64 v ∧ ParIn O p V i v O' ∧ Gr lmv 37 wr w.heap.size AO cO O' ∧ Below w.heap.size w wr) (fun _ iv _ => O.length - (intOf iv).toNat)
                    case atStart => exact ⟨0, V, O, by omega, rfl, rfl, ParIn.start HI.out.1 p hV32, hgr3, hbr3⟩
                    case round =>
                      obtain ⟨i, v, O', hi2, rfl, rfl, hin, hgr4, hbr4⟩ := hrel
                      have HIN := Lib.hid hin
                      have HOL := Lib.hid hin.2.1
                      have hv32 : v < 4294967296 := hin.2.2.1
                      have hOu := hin.1
                      clear hin hgr3 hbr3
                      by_cases hil : i < O.length
                      · have hio : i < O'.length := by have := HOL.out; omega
                        obtain ⟨g, rfl⟩ := hgr4.some_ (by omega)
                        have hgB : w.heap.size ≤ g := (hgr4.form.2.2 _ rfl).1
                        have hcell := hgr4.cell i hio
                        have hfree := hgr4.free i
                        have hb1 := hOu.at i hio
                        have hb2 := (par_bound hb1 HP9.out hv32).1
                        have HG4 := Lib.hid hgr4
                        have HB4 := Lib.hid hbr4
                        clear hgr4 hbr4 hOu
                        go_wp2_with fail
                        go_roundw
                        case rel => exact ⟨i + 1, _, _, by omega, by go_num, by rw [cast_par_div], HIN.out.step HP9.out hio, by rw [cast_par_mod]; exact HG4.out.store _ _, HB4.out.setCell hgB _⟩
                        case measure => simp [intOf]; omega
                      · obtain rfl : i = O.length := by omega
                        have hnext := HI.out.next HC.out HIN.out hkt2
                        have HX := Lib.hid hnext
                        have hOl2 : O'.length ≤ 5000 := by have := HOL.out; omega
                        clear hnext hOu
                        by_cases hv0 : 0 < v
                        · go_wp2_with (at_builtin; refine wpList_append_rd _ (mk := lmv) (fun _ => rfl) rfl _ _ 23 rfl 37 i0 (.int .u32 0) 4 Try.underlying23 hi hz0 hz1 hz2 rfl (B := w.heap.size) rfl HOL.out.symm (hgr4.below ((Below.refl _ wr).alloc (Nat.le_refl _) _)) _ 1 1 [v] rfl rfl (Rd.one_ wr _ _ _ rfl) (by simp only [maxLen]; omega) (by omega) (by have := hbr4.size; simp; omega) ?_; intro A' c' w3 hgA hgrA hbA hatA)
                          go_roundw
                          case rel => exact ⟨_, O' ++ [v], A', c', ht, rfl, by rw [List.length_append, HOL.out]; rfl, HX.out.1, hgA, (hbr4.alloc hbr4.size _).trans hbA⟩
                          case measure => simp [intOf]; omega
                        · obtain rfl : v = 0 := by omega
                          have HVZ : Hid ((0 : Nat) = 0) := rfl
                          clear hv0 hv32
                          go_wp2_with fail
                          go_roundw
                          case rel => exact ⟨_, O', AO, cO, ht, rfl, by rw [HOL.out], HX.out.2 HVZ.out, hgr4, hbr4⟩
                          case measure => simp [intOf]; omega
            · have hks : k = s.size := by omega
              have hval : nv O = dval (bl s) := by
                rw [HI.out.2.2, hks, ← HBL.out, List.take_length]
              have hnt := hgr.nt HI.out.1
              have hcall := sized_any wr AO cO _ O R E hnt rfl (by rw [hval, ← HP.out]; exact HR.out)
              have HF := Lib.hid hcall
              clear hcall hnt hval hks
              go_wp2_with fail
              refine HF.out.mono ?_
              rintro e w9 ⟨⟨A', c', rfl, hnt'⟩, rfl⟩
              go_wp2_with fail
              go_ret2
              exact ⟨A', c', rfl, hnt', hbr⟩
end Go.Proofs.Ytodopppoikdglaa
