/- The walk of FractionText. -/
import Derived.Test.YtodopppoikdglaaLwD
import Derived.Test.YtodopppoikdglaaRfJ
import Derived.Test.YtodopppoikdglaaRfK
namespace Go.Proofs.Ytodopppoikdglaa
open Go.RowKit

theorem dval_decR (n : Nat) : dval ((decR n).map digB).reverse = n := by
  induction n using Nat.strongRecOn with
  | ind n ih =>
    by_cases h : n = 0
    · subst h; simp [decR_zero, dval]
    · rw [decR_pos h, List.map_cons, List.reverse_cons, dval_snoc, ih _ (by omega)]
      unfold digB; omega
theorem dval_decT (n : Nat) : dval (decT n) = n := by
  unfold decT
  by_cases h : n = 0
  · subst h; simp [dval]
  · rw [if_neg h]; exact dval_decR n
theorem allDig_decT (n : Nat) : AllDig (decT n) := by
  unfold decT
  by_cases h : n = 0
  · rw [if_pos h]; intro b hb; simp at hb; omega
  · rw [if_neg h]
    intro b hb
    rw [List.mem_reverse, List.mem_map] at hb
    obtain ⟨d, hd, rfl⟩ := hb
    have := decR_small n d hd
    unfold digB; omega
theorem decT_pos (n : Nat) : 0 < (decT n).length := by
  unfold decT
  by_cases h : n = 0
  · rw [if_pos h]; simp
  · rw [if_neg h, List.length_reverse, List.length_map]
    rcases Nat.eq_zero_or_pos (decR n).length with h1 | h1
    · exact absurd (decR_nil.1 (List.eq_nil_of_length_eq_zero h1)) h
    · exact h1
theorem AllDig.is {l : List Nat} (h : AllDig l) : ∀ k (hk : k < l.length), isDig l[k] = true := fun k hk => isDig_iff.2 (h _ (List.getElem_mem hk))
theorem AllDig.small {l : List Nat} (h : AllDig l) : ∀ b ∈ l, b < 256 := fun b hb => by have := h b hb; omega
theorem dgs_all {l m : List Nat} (h : AllDig l) (hm : ∀ b, m[0]? = some b → isDig b = false) : dgs (l ++ m) = l.length := by
  refine (Dgs.eq ⟨by simp, ?_, ?_⟩).symm
  · intro j hj hlt
    rw [List.getElem_append_left hlt]
    exact h.is j hlt
  · intro h2
    rw [List.getElem_append_right (Nat.le_refl _)]
    apply hm
    rw [List.getElem?_eq_getElem (by simp at h2 ⊢; omega)]
    simp
theorem dgs_all0 {l : List Nat} (h : AllDig l) : dgs l = l.length := by
  have := dgs_all (m := []) h (by intro b hb; cases hb)
  rwa [List.append_nil] at this
theorem good_dec (n : Nat) : goodL (decT n) := ⟨List.ne_nil_of_length_pos (decT_pos n), dgs_all0 (allDig_decT n)⟩
theorem parse_decT {n : Nat} (hl : (lim n).length ≤ 128) : parseS (decT n) = (lim n, 0) := by
  have h1 : (decT n).length ≤ 1280 := by have := dec_size hl; rwa [bstr_size] at this
  have h2 := decT_pos n
  rw [parse_good (by omega) (List.ne_nil_of_length_pos h2) (allDig_decT n).is, dval_decT, sizS, if_neg (by omega)]
theorem valS_dec {q : Rat} (h : Sz q 128 128) : valS (decide (q.num < 0)) (decT q.num.natAbs) (decT q.den) = okS q := by
  rw [valS, parse_decT h.1, parse_decT h.2, if_neg (no2 rfl rfl)]
  show (if nv (lim q.den) = 0 then _ else frS (qv _ (nv (lim q.num.natAbs)) (nv (lim q.den)))) = _
  rw [nv_lim, nv_lim, if_neg q.den_nz, qv, sg_abs, Rat.mkRat_self]
  exact frS_ok h
theorem split_den (n d : Nat) : splitF (decT n ++ 47 :: decT d) = (decT n, decT d) := by
  have h := dgs_all (m := 47 :: decT d) (allDig_decT n) (by intro b hb; simp at hb; subst hb; rfl)
  rw [splitF, h, if_pos (by simp)]
  simp
theorem split_one (n : Nat) : splitF (decT n) = (decT n, [49]) := by
  rw [splitF, dgs_all0 (allDig_decT n), if_neg]
  rw [List.getElem?_eq_none (Nat.le_refl _)]; simp
theorem decT_one : decT 1 = [49] := by
  rw [decT, if_neg (by decide)]; simp [decR_pos, decR_zero, digB]
theorem dec_head (n : Nat) (m : List Nat) : ¬ (decT n ++ m)[0]? = some 45 := by
  intro h
  have h1 := decT_pos n
  rw [List.getElem?_append_left h1, List.getElem?_eq_getElem h1] at h
  have h2 := allDig_decT n _ (List.getElem_mem h1)
  have h3 := Option.some.inj h
  omega
/-- the bytes of the text -/
def txtL (q : Rat) : List Nat := (if q.num < 0 then [45] else []) ++ (decT q.num.natAbs ++ (if 1 < q.den then 47 :: decT q.den else []))
theorem txt_bytes (q : Rat) : bl (txtQ q) = txtL q := by
  have e1 : bl (⟨#[45]⟩ : ByteArray) = [45] := rfl
  have e2 : bl (⟨#[47]⟩ : ByteArray) = [47] := rfl
  unfold txtQ txtL
  split <;> split <;> simp only [bl_append, bl_bstr' (allDig_decT _).small, e1, e2, List.append_nil, List.nil_append, List.append_assoc, List.cons_append]
theorem parse_txt {q : Rat} (h : Sz q 128 128) : parseF (bl (txtQ q)) = okS q := by
  rw [txt_bytes, txtL]
  have hv := valS_dec h
  have key : ∀ neg, neg = decide (q.num < 0) → parsG neg (splitF (decT q.num.natAbs ++ (if 1 < q.den then 47 :: decT q.den else []))).1 (splitF (decT q.num.natAbs ++ (if 1 < q.den then 47 :: decT q.den else []))).2 = okS q := by
    intro neg hneg
    by_cases hd : 1 < q.den
    · rw [if_pos hd, split_den, parsG, if_pos ⟨good_dec _, good_dec _⟩, hneg]; exact hv
    · have hd1 : q.den = 1 := by have := q.den_pos; omega
      rw [if_neg hd, List.append_nil, split_one, ← decT_one]
      show parsG neg (decT q.num.natAbs) (decT 1) = okS q
      rw [parsG, if_pos ⟨good_dec _, good_dec _⟩, hneg, ← hd1]; exact hv
  by_cases hn : q.num < 0
  · rw [if_pos hn, parseF, if_pos (by simp)]
    have := key true (by simp [hn])
    simpa using this
  · rw [if_neg hn, List.nil_append, parseF, if_neg (dec_head _ _)]
    exact key false (by simp [hn])
theorem txt_size {q : Rat} (h : Sz q 128 128) : (txtQ q).size ≤ 9223372036854775807 := by
  have h1 := dec_size h.1
  have h2 := dec_size h.2
  rw [bstr_size] at h1 h2
  rw [← bl_len, txt_bytes, txtL]
  split <;> split <;> simp <;> omega
set_option maxRecDepth 100000 in
set_option maxHeartbeats 1600000 in
theorem text_long (w : World) (x1 : Fx) (s : ByteArray) (ok1 : x1.ok w) (hL : lensB [x1]) (h : longB [x1] = true) :
    Calls Try.prog 10 #[x1.val, .string s] w fun e w' => e = .returned (.bool true) ∧ Below w.heap.size w w' := by
  have HL := Lib.hid hL
  have H := Lib.hid h
  clear hL h
  go_enter Try.func10, Try.ntmps10
  go_upto_region 1 with fail
  have bw := Below.refl w.heap.size w
  have a1 := (fa_alloc ok1).1
  have bb := (fa_alloc ok1).2
  have sz1 := size_box w (.cells #[.bool x1.b, .slice x1.A x1.xs.length x1.c, .slice x1.D x1.ys.length x1.d] 25)
  clear ok1
  generalize (w.alloc (.cells #[.bool x1.b, .slice x1.A x1.xs.length x1.c, .slice x1.D x1.ys.length x1.d] 25)) = wm at a1 bb sz1 ⊢
  try replace ok1 := ok1.below bb
  try replace ok2 := ok2.below bb
  try replace ok3 := ok3.below bb
  try replace a1 := a1.below bb
  try replace a2 := a2.below bb
  try replace a3 := a3.below bb
  try replace a4 := a4.below bb
  try replace a5 := a5.below bb
  try replace a6 := a6.below bb
  try replace a7 := a7.below bb
  try replace a8 := a8.below bb
  try replace a9 := a9.below bb
  try replace a10 := a10.below bb
  try replace a11 := a11.below bb
  try replace a12 := a12.below bb
  try replace a13 := a13.below bb
  try replace a14 := a14.below bb
  try replace a15 := a15.below bb
  try replace a16 := a16.below bb
  try replace a17 := a17.below bb
  try replace a18 := a18.below bb
  try replace a19 := a19.below bb
  try replace a20 := a20.below bb
  replace bw := below_on bw bb bw.size
  clear bb
  clear sz1
  have ci0 := a1.c0
  have ci1 := a1.c1
  have ci2 := a1.c2
  go_wp2_with fail
  clear ci0 ci1 ci2
  have hr := rdf1 wm x1
  have bb := (Below.refl wm.heap.size wm).alloc (Nat.le_refl _) (.cells #[.bool x1.b, .slice x1.A x1.xs.length x1.c, .slice x1.D x1.ys.length x1.d] 25)
  generalize (wm.alloc (.cells #[.bool x1.b, .slice x1.A x1.xs.length x1.c, .slice x1.D x1.ys.length x1.d] 25)) = wn at hr bb ⊢
  try replace a1 := a1.below bb
  try replace a2 := a2.below bb
  try replace a3 := a3.below bb
  try replace a4 := a4.below bb
  try replace a5 := a5.below bb
  try replace a6 := a6.below bb
  try replace a7 := a7.below bb
  try replace a8 := a8.below bb
  try replace a9 := a9.below bb
  try replace a10 := a10.below bb
  try replace a11 := a11.below bb
  try replace a12 := a12.below bb
  try replace a13 := a13.below bb
  try replace a14 := a14.below bb
  try replace a15 := a15.below bb
  try replace a16 := a16.below bb
  try replace a17 := a17.below bb
  try replace a18 := a18.below bb
  try replace a19 := a19.below bb
  try replace a20 := a20.below bb
  replace bw := below_on bw bb bw.size
  clear bb
  refine (flong_any wn _ _ _ _ true hr rfl (by simp) (by intro v hv; simp only [List.mem_cons, List.not_mem_nil, or_false] at hv; rcases hv with rfl; exact HL.out _ (by simp)) H.out).mono ?_
  rintro e wl ⟨rfl, rfl⟩
  clear hr
  go_wp2_with fail
  refine (awakef_any _).mono ?_
  rintro e wn ⟨rfl, bb⟩
  try replace a1 := a1.below bb
  try replace a2 := a2.below bb
  try replace a3 := a3.below bb
  try replace a4 := a4.below bb
  try replace a5 := a5.below bb
  try replace a6 := a6.below bb
  try replace a7 := a7.below bb
  try replace a8 := a8.below bb
  try replace a9 := a9.below bb
  try replace a10 := a10.below bb
  try replace a11 := a11.below bb
  try replace a12 := a12.below bb
  try replace a13 := a13.below bb
  try replace a14 := a14.below bb
  try replace a15 := a15.below bb
  try replace a16 := a16.below bb
  try replace a17 := a17.below bb
  try replace a18 := a18.below bb
  try replace a19 := a19.below bb
  try replace a20 := a20.below bb
  replace bw := below_on bw bb bw.size
  clear bb
  go_wp2_with fail
  go_ret
  exact ⟨rfl, bw⟩
set_option maxRecDepth 100000 in
set_option maxHeartbeats 1600000 in
theorem text_big (w : World) (x1 : Fx) (s : ByteArray) (ok1 : x1.ok w) (hL : lensB [x1]) (h : longB [x1] = false) (hs : 200 < s.size) :
    Calls Try.prog 10 #[x1.val, .string s] w fun e w' => e = .returned (.bool true) ∧ Below w.heap.size w w' := by
  have HL := Lib.hid hL
  have H := Lib.hid h
  have hs2 : decide ((200 : Int) < (s.size : Int)) = true := decide_eq_true (by omega)
  clear hL h
  go_enter Try.func10, Try.ntmps10
  go_upto_region 1 with fail
  have bw := Below.refl w.heap.size w
  have a1 := (fa_alloc ok1).1
  have bb := (fa_alloc ok1).2
  have sz1 := size_box w (.cells #[.bool x1.b, .slice x1.A x1.xs.length x1.c, .slice x1.D x1.ys.length x1.d] 25)
  clear ok1
  generalize (w.alloc (.cells #[.bool x1.b, .slice x1.A x1.xs.length x1.c, .slice x1.D x1.ys.length x1.d] 25)) = wm at a1 bb sz1 ⊢
  try replace ok1 := ok1.below bb
  try replace ok2 := ok2.below bb
  try replace ok3 := ok3.below bb
  try replace a1 := a1.below bb
  try replace a2 := a2.below bb
  try replace a3 := a3.below bb
  try replace a4 := a4.below bb
  try replace a5 := a5.below bb
  try replace a6 := a6.below bb
  try replace a7 := a7.below bb
  try replace a8 := a8.below bb
  try replace a9 := a9.below bb
  try replace a10 := a10.below bb
  try replace a11 := a11.below bb
  try replace a12 := a12.below bb
  try replace a13 := a13.below bb
  try replace a14 := a14.below bb
  try replace a15 := a15.below bb
  try replace a16 := a16.below bb
  try replace a17 := a17.below bb
  try replace a18 := a18.below bb
  try replace a19 := a19.below bb
  try replace a20 := a20.below bb
  replace bw := below_on bw bb bw.size
  clear bb
  clear sz1
  have ci0 := a1.c0
  have ci1 := a1.c1
  have ci2 := a1.c2
  go_wp2_with fail
  clear ci0 ci1 ci2
  have hr := rdf1 wm x1
  have bb := (Below.refl wm.heap.size wm).alloc (Nat.le_refl _) (.cells #[.bool x1.b, .slice x1.A x1.xs.length x1.c, .slice x1.D x1.ys.length x1.d] 25)
  generalize (wm.alloc (.cells #[.bool x1.b, .slice x1.A x1.xs.length x1.c, .slice x1.D x1.ys.length x1.d] 25)) = wn at hr bb ⊢
  try replace a1 := a1.below bb
  try replace a2 := a2.below bb
  try replace a3 := a3.below bb
  try replace a4 := a4.below bb
  try replace a5 := a5.below bb
  try replace a6 := a6.below bb
  try replace a7 := a7.below bb
  try replace a8 := a8.below bb
  try replace a9 := a9.below bb
  try replace a10 := a10.below bb
  try replace a11 := a11.below bb
  try replace a12 := a12.below bb
  try replace a13 := a13.below bb
  try replace a14 := a14.below bb
  try replace a15 := a15.below bb
  try replace a16 := a16.below bb
  try replace a17 := a17.below bb
  try replace a18 := a18.below bb
  try replace a19 := a19.below bb
  try replace a20 := a20.below bb
  replace bw := below_on bw bb bw.size
  clear bb
  refine (flong_any wn _ _ _ _ false hr rfl (by simp) (by intro v hv; simp only [List.mem_cons, List.not_mem_nil, or_false] at hv; rcases hv with rfl; exact HL.out _ (by simp)) H.out).mono ?_
  rintro e wl ⟨rfl, rfl⟩
  clear hr
  go_wp2_with fail
  refine (awakef_any _).mono ?_
  rintro e wn ⟨rfl, bb⟩
  try replace a1 := a1.below bb
  try replace a2 := a2.below bb
  try replace a3 := a3.below bb
  try replace a4 := a4.below bb
  try replace a5 := a5.below bb
  try replace a6 := a6.below bb
  try replace a7 := a7.below bb
  try replace a8 := a8.below bb
  try replace a9 := a9.below bb
  try replace a10 := a10.below bb
  try replace a11 := a11.below bb
  try replace a12 := a12.below bb
  try replace a13 := a13.below bb
  try replace a14 := a14.below bb
  try replace a15 := a15.below bb
  try replace a16 := a16.below bb
  try replace a17 := a17.below bb
  try replace a18 := a18.below bb
  try replace a19 := a19.below bb
  try replace a20 := a20.below bb
  replace bw := below_on bw bb bw.size
  clear bb
  go_wp2_with fail
  go_ret
  exact ⟨rfl, bw⟩
set_option maxRecDepth 100000 in
set_option maxHeartbeats 4000000 in
theorem text_short (w : World) (x1 : Fx) (s : ByteArray) (ok1 : x1.ok w) (hL : lensB [x1]) (h : longB [x1] = false) (hs : ¬ 200 < s.size) (l1 : x1.xs.length ≤ 10000) (m1 : x1.ys.length ≤ 10000) (hz : x1.v → Sz x1.q 128 128) :
    Calls Try.prog 10 #[x1.val, .string s] w fun e w' => e = .returned (.bool true) ∧ Below w.heap.size w w' := by
  have HL := Lib.hid hL
  have H := Lib.hid h
  have hs2 : decide ((200 : Int) < (s.size : Int)) = false := decide_eq_false (by omega)
  have hsz : s.size ≤ 9223372036854775807 := by omega
  obtain ⟨SP, hSP⟩ : ∃ S, parseF (bl s) = S := ⟨_, rfl⟩
  have HSP := Lib.hid hSP
  clear hL h hSP
  by_cases hv : x1.v
  · have Z := Lib.hid (hz hv)
    have HV := Lib.hid hv
    have HF : Hid (fmtF x1 = (txtQ x1.q, 0)) := Lib.hid (by rw [fmtF, if_pos hv])
    have HR := Lib.hid (redS_okS hv)
    have HP := Lib.hid (parse_txt (hz hv))
    have HPZ := Lib.hid (txt_size (hz hv))
    obtain ⟨TT, hTT⟩ : ∃ t, txtQ x1.q = t := ⟨_, rfl⟩
    rw [hTT] at HF HP HPZ
    clear hz hv hTT
    skip
    go_enter Try.func10, Try.ntmps10
    go_upto_region 1 with fail
    have bw := Below.refl w.heap.size w
    have a1 := (fa_alloc ok1).1
    have bb := (fa_alloc ok1).2
    have sz1 := size_box w (.cells #[.bool x1.b, .slice x1.A x1.xs.length x1.c, .slice x1.D x1.ys.length x1.d] 25)
    clear ok1
    generalize (w.alloc (.cells #[.bool x1.b, .slice x1.A x1.xs.length x1.c, .slice x1.D x1.ys.length x1.d] 25)) = wm at a1 bb sz1 ⊢
    try replace ok1 := ok1.below bb
    try replace ok2 := ok2.below bb
    try replace ok3 := ok3.below bb
    try replace a1 := a1.below bb
    try replace a2 := a2.below bb
    try replace a3 := a3.below bb
    try replace a4 := a4.below bb
    try replace a5 := a5.below bb
    try replace a6 := a6.below bb
    try replace a7 := a7.below bb
    try replace a8 := a8.below bb
    try replace a9 := a9.below bb
    try replace a10 := a10.below bb
    try replace a11 := a11.below bb
    try replace a12 := a12.below bb
    try replace a13 := a13.below bb
    try replace a14 := a14.below bb
    try replace a15 := a15.below bb
    try replace a16 := a16.below bb
    try replace a17 := a17.below bb
    try replace a18 := a18.below bb
    try replace a19 := a19.below bb
    try replace a20 := a20.below bb
    replace bw := below_on bw bb bw.size
    clear bb
    clear sz1
    have ci0 := a1.c0
    have ci1 := a1.c1
    have ci2 := a1.c2
    go_wp2_with fail
    clear ci0 ci1 ci2
    have hr := rdf1 wm x1
    have bb := (Below.refl wm.heap.size wm).alloc (Nat.le_refl _) (.cells #[.bool x1.b, .slice x1.A x1.xs.length x1.c, .slice x1.D x1.ys.length x1.d] 25)
    generalize (wm.alloc (.cells #[.bool x1.b, .slice x1.A x1.xs.length x1.c, .slice x1.D x1.ys.length x1.d] 25)) = wn at hr bb ⊢
    try replace a1 := a1.below bb
    try replace a2 := a2.below bb
    try replace a3 := a3.below bb
    try replace a4 := a4.below bb
    try replace a5 := a5.below bb
    try replace a6 := a6.below bb
    try replace a7 := a7.below bb
    try replace a8 := a8.below bb
    try replace a9 := a9.below bb
    try replace a10 := a10.below bb
    try replace a11 := a11.below bb
    try replace a12 := a12.below bb
    try replace a13 := a13.below bb
    try replace a14 := a14.below bb
    try replace a15 := a15.below bb
    try replace a16 := a16.below bb
    try replace a17 := a17.below bb
    try replace a18 := a18.below bb
    try replace a19 := a19.below bb
    try replace a20 := a20.below bb
    replace bw := below_on bw bb bw.size
    clear bb
    refine (flong_any wn _ _ _ _ false hr rfl (by simp) (by intro v hv; simp only [List.mem_cons, List.not_mem_nil, or_false] at hv; rcases hv with rfl; exact HL.out _ (by simp)) H.out).mono ?_
    rintro e wl ⟨rfl, rfl⟩
    clear hr
    go_upto_region 3 with fail
    go_wp2_with fail
    refine (fparse_any _ (s) (SP) hsz HSP.out).mono ?_
    rintro e wn ⟨x3, rfl, hs3, ok3, bb⟩
    have HS3 := Lib.hid hs3
    clear hs3
    try replace a1 := a1.below bb
    try replace a2 := a2.below bb
    try replace a3 := a3.below bb
    try replace a4 := a4.below bb
    try replace a5 := a5.below bb
    try replace a6 := a6.below bb
    try replace a7 := a7.below bb
    try replace a8 := a8.below bb
    try replace a9 := a9.below bb
    try replace a10 := a10.below bb
    try replace a11 := a11.below bb
    try replace a12 := a12.below bb
    try replace a13 := a13.below bb
    try replace a14 := a14.below bb
    try replace a15 := a15.below bb
    try replace a16 := a16.below bb
    try replace a17 := a17.below bb
    try replace a18 := a18.below bb
    try replace a19 := a19.below bb
    try replace a20 := a20.below bb
    replace bw := below_on bw bb bw.size
    clear bb
    go_upto_region 4 with fail
    have a3 := (fa_alloc ok3).1
    have bb := (fa_alloc ok3).2
    clear ok3
    generalize (wn.alloc (.cells #[.bool x3.b, .slice x3.A x3.xs.length x3.c, .slice x3.D x3.ys.length x3.d] 25)) = wm at a3 bb ⊢
    try replace a1 := a1.below bb
    try replace a2 := a2.below bb
    try replace a3 := a3.below bb
    try replace a4 := a4.below bb
    try replace a5 := a5.below bb
    try replace a6 := a6.below bb
    try replace a7 := a7.below bb
    try replace a8 := a8.below bb
    try replace a9 := a9.below bb
    try replace a10 := a10.below bb
    try replace a11 := a11.below bb
    try replace a12 := a12.below bb
    try replace a13 := a13.below bb
    try replace a14 := a14.below bb
    try replace a15 := a15.below bb
    try replace a16 := a16.below bb
    try replace a17 := a17.below bb
    try replace a18 := a18.below bb
    try replace a19 := a19.below bb
    try replace a20 := a20.below bb
    replace bw := below_on bw bb bw.size
    clear bb
    generalize wn.heap.size = g3 at a3 ⊢
    go_wp2_with fail
    refine (rfparse_any _ (s) (SP) hsz HSP.out).mono ?_
    rintro e wn ⟨x4, rfl, hs4, ok4, bb⟩
    have HS4 := Lib.hid hs4
    clear hs4
    try replace a1 := a1.below bb
    try replace a2 := a2.below bb
    try replace a3 := a3.below bb
    try replace a4 := a4.below bb
    try replace a5 := a5.below bb
    try replace a6 := a6.below bb
    try replace a7 := a7.below bb
    try replace a8 := a8.below bb
    try replace a9 := a9.below bb
    try replace a10 := a10.below bb
    try replace a11 := a11.below bb
    try replace a12 := a12.below bb
    try replace a13 := a13.below bb
    try replace a14 := a14.below bb
    try replace a15 := a15.below bb
    try replace a16 := a16.below bb
    try replace a17 := a17.below bb
    try replace a18 := a18.below bb
    try replace a19 := a19.below bb
    try replace a20 := a20.below bb
    replace bw := below_on bw bb bw.size
    clear bb
    go_upto_region 5 with fail
    have a4 := (fa_alloc ok4).1
    have bb := (fa_alloc ok4).2
    clear ok4
    generalize (wn.alloc (.cells #[.bool x4.b, .slice x4.A x4.xs.length x4.c, .slice x4.D x4.ys.length x4.d] 25)) = wm at a4 bb ⊢
    try replace a1 := a1.below bb
    try replace a2 := a2.below bb
    try replace a3 := a3.below bb
    try replace a4 := a4.below bb
    try replace a5 := a5.below bb
    try replace a6 := a6.below bb
    try replace a7 := a7.below bb
    try replace a8 := a8.below bb
    try replace a9 := a9.below bb
    try replace a10 := a10.below bb
    try replace a11 := a11.below bb
    try replace a12 := a12.below bb
    try replace a13 := a13.below bb
    try replace a14 := a14.below bb
    try replace a15 := a15.below bb
    try replace a16 := a16.below bb
    try replace a17 := a17.below bb
    try replace a18 := a18.below bb
    try replace a19 := a19.below bb
    try replace a20 := a20.below bb
    replace bw := below_on bw bb bw.size
    clear bb
    generalize wn.heap.size = g4 at a4 ⊢
    have ci0 := a3.c0
    have ci1 := a3.c1
    have ci2 := a3.c2
    have cj0 := a4.c0
    have cj1 := a4.c1
    have cj2 := a4.c2
    go_wp2_with fail
    clear ci0 ci1 ci2 cj0 cj1 cj2
    refine (samef_any _ x3 x4 true a3.ok a4.ok (sm HS3.out HS4.out)).mono ?_
    rintro e wn ⟨rfl, bb⟩
    try replace a1 := a1.below bb
    try replace a2 := a2.below bb
    try replace a3 := a3.below bb
    try replace a4 := a4.below bb
    try replace a5 := a5.below bb
    try replace a6 := a6.below bb
    try replace a7 := a7.below bb
    try replace a8 := a8.below bb
    try replace a9 := a9.below bb
    try replace a10 := a10.below bb
    try replace a11 := a11.below bb
    try replace a12 := a12.below bb
    try replace a13 := a13.below bb
    try replace a14 := a14.below bb
    try replace a15 := a15.below bb
    try replace a16 := a16.below bb
    try replace a17 := a17.below bb
    try replace a18 := a18.below bb
    try replace a19 := a19.below bb
    try replace a20 := a20.below bb
    replace bw := below_on bw bb bw.size
    clear bb
    go_upto_region 7 with fail
    clear a3 a4
    have ci0 := a1.c0
    have ci1 := a1.c1
    have ci2 := a1.c2
    go_wp2_with fail
    clear ci0 ci1 ci2
    refine (fformat_any _ x1 ((TT, 0)) a1.ok l1 m1 HF.out).mono ?_
    rintro e wn ⟨rfl, bb⟩
    try replace a1 := a1.below bb
    try replace a2 := a2.below bb
    try replace a3 := a3.below bb
    try replace a4 := a4.below bb
    try replace a5 := a5.below bb
    try replace a6 := a6.below bb
    try replace a7 := a7.below bb
    try replace a8 := a8.below bb
    try replace a9 := a9.below bb
    try replace a10 := a10.below bb
    try replace a11 := a11.below bb
    try replace a12 := a12.below bb
    try replace a13 := a13.below bb
    try replace a14 := a14.below bb
    try replace a15 := a15.below bb
    try replace a16 := a16.below bb
    try replace a17 := a17.below bb
    try replace a18 := a18.below bb
    try replace a19 := a19.below bb
    try replace a20 := a20.below bb
    replace bw := below_on bw bb bw.size
    clear bb
    go_upto_region 8 with fail
    have ci0 := a1.c0
    have ci1 := a1.c1
    have ci2 := a1.c2
    go_wp2_with fail
    clear ci0 ci1 ci2
    refine (rfformat_any _ x1 ((TT, 0)) a1.ok l1 m1 HF.out).mono ?_
    rintro e wn ⟨rfl, bb⟩
    try replace a1 := a1.below bb
    try replace a2 := a2.below bb
    try replace a3 := a3.below bb
    try replace a4 := a4.below bb
    try replace a5 := a5.below bb
    try replace a6 := a6.below bb
    try replace a7 := a7.below bb
    try replace a8 := a8.below bb
    try replace a9 := a9.below bb
    try replace a10 := a10.below bb
    try replace a11 := a11.below bb
    try replace a12 := a12.below bb
    try replace a13 := a13.below bb
    try replace a14 := a14.below bb
    try replace a15 := a15.below bb
    try replace a16 := a16.below bb
    try replace a17 := a17.below bb
    try replace a18 := a18.below bb
    try replace a19 := a19.below bb
    try replace a20 := a20.below bb
    replace bw := below_on bw bb bw.size
    clear bb
    go_upto_region 13 with fail
    have e0 : ∀ q, (okS q).2.2.2 = 0 := fun q => rfl
    go_wp2_with fail
    refine (fparse_any _ (TT) (okS x1.q) HPZ.out HP.out).mono ?_
    rintro e wn ⟨x5, rfl, hs5, ok5, bb⟩
    have HS5 := Lib.hid hs5
    clear hs5
    try replace a1 := a1.below bb
    try replace a2 := a2.below bb
    try replace a3 := a3.below bb
    try replace a4 := a4.below bb
    try replace a5 := a5.below bb
    try replace a6 := a6.below bb
    try replace a7 := a7.below bb
    try replace a8 := a8.below bb
    try replace a9 := a9.below bb
    try replace a10 := a10.below bb
    try replace a11 := a11.below bb
    try replace a12 := a12.below bb
    try replace a13 := a13.below bb
    try replace a14 := a14.below bb
    try replace a15 := a15.below bb
    try replace a16 := a16.below bb
    try replace a17 := a17.below bb
    try replace a18 := a18.below bb
    try replace a19 := a19.below bb
    try replace a20 := a20.below bb
    replace bw := below_on bw bb bw.size
    clear bb
    go_upto_region 14 with fail
    have a5 := (fa_alloc ok5).1
    have bb := (fa_alloc ok5).2
    clear ok5
    generalize (wn.alloc (.cells #[.bool x5.b, .slice x5.A x5.xs.length x5.c, .slice x5.D x5.ys.length x5.d] 25)) = wm at a5 bb ⊢
    try replace a1 := a1.below bb
    try replace a2 := a2.below bb
    try replace a3 := a3.below bb
    try replace a4 := a4.below bb
    try replace a5 := a5.below bb
    try replace a6 := a6.below bb
    try replace a7 := a7.below bb
    try replace a8 := a8.below bb
    try replace a9 := a9.below bb
    try replace a10 := a10.below bb
    try replace a11 := a11.below bb
    try replace a12 := a12.below bb
    try replace a13 := a13.below bb
    try replace a14 := a14.below bb
    try replace a15 := a15.below bb
    try replace a16 := a16.below bb
    try replace a17 := a17.below bb
    try replace a18 := a18.below bb
    try replace a19 := a19.below bb
    try replace a20 := a20.below bb
    replace bw := below_on bw bb bw.size
    clear bb
    generalize wn.heap.size = g5 at a5 ⊢
    have ci0 := a1.c0
    have ci1 := a1.c1
    have ci2 := a1.c2
    go_wp2_with fail
    clear ci0 ci1 ci2
    refine (rfreduce_any _ x1 (okS x1.q) a1.ok l1 m1 HR.out).mono ?_
    rintro e wn ⟨x6, rfl, hs6, ok6, bb⟩
    have HS6 := Lib.hid hs6
    clear hs6
    skip
    try replace a1 := a1.below bb
    try replace a2 := a2.below bb
    try replace a3 := a3.below bb
    try replace a4 := a4.below bb
    try replace a5 := a5.below bb
    try replace a6 := a6.below bb
    try replace a7 := a7.below bb
    try replace a8 := a8.below bb
    try replace a9 := a9.below bb
    try replace a10 := a10.below bb
    try replace a11 := a11.below bb
    try replace a12 := a12.below bb
    try replace a13 := a13.below bb
    try replace a14 := a14.below bb
    try replace a15 := a15.below bb
    try replace a16 := a16.below bb
    try replace a17 := a17.below bb
    try replace a18 := a18.below bb
    try replace a19 := a19.below bb
    try replace a20 := a20.below bb
    replace bw := below_on bw bb bw.size
    clear bb
    go_upto_region 15 with fail
    have a6 := (fa_alloc ok6).1
    have bb := (fa_alloc ok6).2
    clear ok6
    generalize (wn.alloc (.cells #[.bool x6.b, .slice x6.A x6.xs.length x6.c, .slice x6.D x6.ys.length x6.d] 25)) = wm at a6 bb ⊢
    try replace a1 := a1.below bb
    try replace a2 := a2.below bb
    try replace a3 := a3.below bb
    try replace a4 := a4.below bb
    try replace a5 := a5.below bb
    try replace a6 := a6.below bb
    try replace a7 := a7.below bb
    try replace a8 := a8.below bb
    try replace a9 := a9.below bb
    try replace a10 := a10.below bb
    try replace a11 := a11.below bb
    try replace a12 := a12.below bb
    try replace a13 := a13.below bb
    try replace a14 := a14.below bb
    try replace a15 := a15.below bb
    try replace a16 := a16.below bb
    try replace a17 := a17.below bb
    try replace a18 := a18.below bb
    try replace a19 := a19.below bb
    try replace a20 := a20.below bb
    replace bw := below_on bw bb bw.size
    clear bb
    generalize wn.heap.size = g6 at a6 ⊢
    have ci0 := a5.c0
    have ci1 := a5.c1
    have ci2 := a5.c2
    have cj0 := a6.c0
    have cj1 := a6.c1
    have cj2 := a6.c2
    go_wp2_with fail
    clear ci0 ci1 ci2 cj0 cj1 cj2
    refine (samef_any _ x5 x6 true a5.ok a6.ok (sm HS5.out HS6.out)).mono ?_
    rintro e wn ⟨rfl, bb⟩
    try replace a1 := a1.below bb
    try replace a2 := a2.below bb
    try replace a3 := a3.below bb
    try replace a4 := a4.below bb
    try replace a5 := a5.below bb
    try replace a6 := a6.below bb
    try replace a7 := a7.below bb
    try replace a8 := a8.below bb
    try replace a9 := a9.below bb
    try replace a10 := a10.below bb
    try replace a11 := a11.below bb
    try replace a12 := a12.below bb
    try replace a13 := a13.below bb
    try replace a14 := a14.below bb
    try replace a15 := a15.below bb
    try replace a16 := a16.below bb
    try replace a17 := a17.below bb
    try replace a18 := a18.below bb
    try replace a19 := a19.below bb
    try replace a20 := a20.below bb
    replace bw := below_on bw bb bw.size
    clear bb
    go_wp2_with fail
    refine (awakef_any _).mono ?_
    rintro e wn ⟨rfl, bb⟩
    try replace a1 := a1.below bb
    try replace a2 := a2.below bb
    try replace a3 := a3.below bb
    try replace a4 := a4.below bb
    try replace a5 := a5.below bb
    try replace a6 := a6.below bb
    try replace a7 := a7.below bb
    try replace a8 := a8.below bb
    try replace a9 := a9.below bb
    try replace a10 := a10.below bb
    try replace a11 := a11.below bb
    try replace a12 := a12.below bb
    try replace a13 := a13.below bb
    try replace a14 := a14.below bb
    try replace a15 := a15.below bb
    try replace a16 := a16.below bb
    try replace a17 := a17.below bb
    try replace a18 := a18.below bb
    try replace a19 := a19.below bb
    try replace a20 := a20.below bb
    replace bw := below_on bw bb bw.size
    clear bb
    go_wp2_with fail
    go_ret
    exact ⟨rfl, bw⟩
  · have HV : Hid (¬ x1.v) := hv
    have HF : Hid (fmtF x1 = (bstr [], 1)) := Lib.hid (by rw [fmtF, if_neg hv])
    obtain ⟨TT, hTT⟩ : ∃ t, bstr [] = t := ⟨_, rfl⟩
    rw [hTT] at HF
    clear hz hv hTT
    skip
    go_enter Try.func10, Try.ntmps10
    go_upto_region 1 with fail
    have bw := Below.refl w.heap.size w
    have a1 := (fa_alloc ok1).1
    have bb := (fa_alloc ok1).2
    have sz1 := size_box w (.cells #[.bool x1.b, .slice x1.A x1.xs.length x1.c, .slice x1.D x1.ys.length x1.d] 25)
    clear ok1
    generalize (w.alloc (.cells #[.bool x1.b, .slice x1.A x1.xs.length x1.c, .slice x1.D x1.ys.length x1.d] 25)) = wm at a1 bb sz1 ⊢
    try replace ok1 := ok1.below bb
    try replace ok2 := ok2.below bb
    try replace ok3 := ok3.below bb
    try replace a1 := a1.below bb
    try replace a2 := a2.below bb
    try replace a3 := a3.below bb
    try replace a4 := a4.below bb
    try replace a5 := a5.below bb
    try replace a6 := a6.below bb
    try replace a7 := a7.below bb
    try replace a8 := a8.below bb
    try replace a9 := a9.below bb
    try replace a10 := a10.below bb
    try replace a11 := a11.below bb
    try replace a12 := a12.below bb
    try replace a13 := a13.below bb
    try replace a14 := a14.below bb
    try replace a15 := a15.below bb
    try replace a16 := a16.below bb
    try replace a17 := a17.below bb
    try replace a18 := a18.below bb
    try replace a19 := a19.below bb
    try replace a20 := a20.below bb
    replace bw := below_on bw bb bw.size
    clear bb
    clear sz1
    have ci0 := a1.c0
    have ci1 := a1.c1
    have ci2 := a1.c2
    go_wp2_with fail
    clear ci0 ci1 ci2
    have hr := rdf1 wm x1
    have bb := (Below.refl wm.heap.size wm).alloc (Nat.le_refl _) (.cells #[.bool x1.b, .slice x1.A x1.xs.length x1.c, .slice x1.D x1.ys.length x1.d] 25)
    generalize (wm.alloc (.cells #[.bool x1.b, .slice x1.A x1.xs.length x1.c, .slice x1.D x1.ys.length x1.d] 25)) = wn at hr bb ⊢
    try replace a1 := a1.below bb
    try replace a2 := a2.below bb
    try replace a3 := a3.below bb
    try replace a4 := a4.below bb
    try replace a5 := a5.below bb
    try replace a6 := a6.below bb
    try replace a7 := a7.below bb
    try replace a8 := a8.below bb
    try replace a9 := a9.below bb
    try replace a10 := a10.below bb
    try replace a11 := a11.below bb
    try replace a12 := a12.below bb
    try replace a13 := a13.below bb
    try replace a14 := a14.below bb
    try replace a15 := a15.below bb
    try replace a16 := a16.below bb
    try replace a17 := a17.below bb
    try replace a18 := a18.below bb
    try replace a19 := a19.below bb
    try replace a20 := a20.below bb
    replace bw := below_on bw bb bw.size
    clear bb
    refine (flong_any wn _ _ _ _ false hr rfl (by simp) (by intro v hv; simp only [List.mem_cons, List.not_mem_nil, or_false] at hv; rcases hv with rfl; exact HL.out _ (by simp)) H.out).mono ?_
    rintro e wl ⟨rfl, rfl⟩
    clear hr
    go_upto_region 3 with fail
    go_wp2_with fail
    refine (fparse_any _ (s) (SP) hsz HSP.out).mono ?_
    rintro e wn ⟨x3, rfl, hs3, ok3, bb⟩
    have HS3 := Lib.hid hs3
    clear hs3
    try replace a1 := a1.below bb
    try replace a2 := a2.below bb
    try replace a3 := a3.below bb
    try replace a4 := a4.below bb
    try replace a5 := a5.below bb
    try replace a6 := a6.below bb
    try replace a7 := a7.below bb
    try replace a8 := a8.below bb
    try replace a9 := a9.below bb
    try replace a10 := a10.below bb
    try replace a11 := a11.below bb
    try replace a12 := a12.below bb
    try replace a13 := a13.below bb
    try replace a14 := a14.below bb
    try replace a15 := a15.below bb
    try replace a16 := a16.below bb
    try replace a17 := a17.below bb
    try replace a18 := a18.below bb
    try replace a19 := a19.below bb
    try replace a20 := a20.below bb
    replace bw := below_on bw bb bw.size
    clear bb
    go_upto_region 4 with fail
    have a3 := (fa_alloc ok3).1
    have bb := (fa_alloc ok3).2
    clear ok3
    generalize (wn.alloc (.cells #[.bool x3.b, .slice x3.A x3.xs.length x3.c, .slice x3.D x3.ys.length x3.d] 25)) = wm at a3 bb ⊢
    try replace a1 := a1.below bb
    try replace a2 := a2.below bb
    try replace a3 := a3.below bb
    try replace a4 := a4.below bb
    try replace a5 := a5.below bb
    try replace a6 := a6.below bb
    try replace a7 := a7.below bb
    try replace a8 := a8.below bb
    try replace a9 := a9.below bb
    try replace a10 := a10.below bb
    try replace a11 := a11.below bb
    try replace a12 := a12.below bb
    try replace a13 := a13.below bb
    try replace a14 := a14.below bb
    try replace a15 := a15.below bb
    try replace a16 := a16.below bb
    try replace a17 := a17.below bb
    try replace a18 := a18.below bb
    try replace a19 := a19.below bb
    try replace a20 := a20.below bb
    replace bw := below_on bw bb bw.size
    clear bb
    generalize wn.heap.size = g3 at a3 ⊢
    go_wp2_with fail
    refine (rfparse_any _ (s) (SP) hsz HSP.out).mono ?_
    rintro e wn ⟨x4, rfl, hs4, ok4, bb⟩
    have HS4 := Lib.hid hs4
    clear hs4
    try replace a1 := a1.below bb
    try replace a2 := a2.below bb
    try replace a3 := a3.below bb
    try replace a4 := a4.below bb
    try replace a5 := a5.below bb
    try replace a6 := a6.below bb
    try replace a7 := a7.below bb
    try replace a8 := a8.below bb
    try replace a9 := a9.below bb
    try replace a10 := a10.below bb
    try replace a11 := a11.below bb
    try replace a12 := a12.below bb
    try replace a13 := a13.below bb
    try replace a14 := a14.below bb
    try replace a15 := a15.below bb
    try replace a16 := a16.below bb
    try replace a17 := a17.below bb
    try replace a18 := a18.below bb
    try replace a19 := a19.below bb
    try replace a20 := a20.below bb
    replace bw := below_on bw bb bw.size
    clear bb
    go_upto_region 5 with fail
    have a4 := (fa_alloc ok4).1
    have bb := (fa_alloc ok4).2
    clear ok4
    generalize (wn.alloc (.cells #[.bool x4.b, .slice x4.A x4.xs.length x4.c, .slice x4.D x4.ys.length x4.d] 25)) = wm at a4 bb ⊢
    try replace a1 := a1.below bb
    try replace a2 := a2.below bb
    try replace a3 := a3.below bb
    try replace a4 := a4.below bb
    try replace a5 := a5.below bb
    try replace a6 := a6.below bb
    try replace a7 := a7.below bb
    try replace a8 := a8.below bb
    try replace a9 := a9.below bb
    try replace a10 := a10.below bb
    try replace a11 := a11.below bb
    try replace a12 := a12.below bb
    try replace a13 := a13.below bb
    try replace a14 := a14.below bb
    try replace a15 := a15.below bb
    try replace a16 := a16.below bb
    try replace a17 := a17.below bb
    try replace a18 := a18.below bb
    try replace a19 := a19.below bb
    try replace a20 := a20.below bb
    replace bw := below_on bw bb bw.size
    clear bb
    generalize wn.heap.size = g4 at a4 ⊢
    have ci0 := a3.c0
    have ci1 := a3.c1
    have ci2 := a3.c2
    have cj0 := a4.c0
    have cj1 := a4.c1
    have cj2 := a4.c2
    go_wp2_with fail
    clear ci0 ci1 ci2 cj0 cj1 cj2
    refine (samef_any _ x3 x4 true a3.ok a4.ok (sm HS3.out HS4.out)).mono ?_
    rintro e wn ⟨rfl, bb⟩
    try replace a1 := a1.below bb
    try replace a2 := a2.below bb
    try replace a3 := a3.below bb
    try replace a4 := a4.below bb
    try replace a5 := a5.below bb
    try replace a6 := a6.below bb
    try replace a7 := a7.below bb
    try replace a8 := a8.below bb
    try replace a9 := a9.below bb
    try replace a10 := a10.below bb
    try replace a11 := a11.below bb
    try replace a12 := a12.below bb
    try replace a13 := a13.below bb
    try replace a14 := a14.below bb
    try replace a15 := a15.below bb
    try replace a16 := a16.below bb
    try replace a17 := a17.below bb
    try replace a18 := a18.below bb
    try replace a19 := a19.below bb
    try replace a20 := a20.below bb
    replace bw := below_on bw bb bw.size
    clear bb
    go_upto_region 7 with fail
    clear a3 a4
    have ci0 := a1.c0
    have ci1 := a1.c1
    have ci2 := a1.c2
    go_wp2_with fail
    clear ci0 ci1 ci2
    refine (fformat_any _ x1 ((TT, 1)) a1.ok l1 m1 HF.out).mono ?_
    rintro e wn ⟨rfl, bb⟩
    try replace a1 := a1.below bb
    try replace a2 := a2.below bb
    try replace a3 := a3.below bb
    try replace a4 := a4.below bb
    try replace a5 := a5.below bb
    try replace a6 := a6.below bb
    try replace a7 := a7.below bb
    try replace a8 := a8.below bb
    try replace a9 := a9.below bb
    try replace a10 := a10.below bb
    try replace a11 := a11.below bb
    try replace a12 := a12.below bb
    try replace a13 := a13.below bb
    try replace a14 := a14.below bb
    try replace a15 := a15.below bb
    try replace a16 := a16.below bb
    try replace a17 := a17.below bb
    try replace a18 := a18.below bb
    try replace a19 := a19.below bb
    try replace a20 := a20.below bb
    replace bw := below_on bw bb bw.size
    clear bb
    go_upto_region 8 with fail
    have ci0 := a1.c0
    have ci1 := a1.c1
    have ci2 := a1.c2
    go_wp2_with fail
    clear ci0 ci1 ci2
    refine (rfformat_any _ x1 ((TT, 1)) a1.ok l1 m1 HF.out).mono ?_
    rintro e wn ⟨rfl, bb⟩
    try replace a1 := a1.below bb
    try replace a2 := a2.below bb
    try replace a3 := a3.below bb
    try replace a4 := a4.below bb
    try replace a5 := a5.below bb
    try replace a6 := a6.below bb
    try replace a7 := a7.below bb
    try replace a8 := a8.below bb
    try replace a9 := a9.below bb
    try replace a10 := a10.below bb
    try replace a11 := a11.below bb
    try replace a12 := a12.below bb
    try replace a13 := a13.below bb
    try replace a14 := a14.below bb
    try replace a15 := a15.below bb
    try replace a16 := a16.below bb
    try replace a17 := a17.below bb
    try replace a18 := a18.below bb
    try replace a19 := a19.below bb
    try replace a20 := a20.below bb
    replace bw := below_on bw bb bw.size
    clear bb
    go_upto_region 12 with fail
    have ci0 := a1.c0
    have ci1 := a1.c1
    have ci2 := a1.c2
    go_wp2_with fail
    clear ci0 ci1 ci2
    refine (rfvalid_any _ x1 false a1.ok l1 m1 (decide_eq_false HV.out)).mono ?_
    rintro e wn ⟨rfl, bb⟩
    try replace a1 := a1.below bb
    try replace a2 := a2.below bb
    try replace a3 := a3.below bb
    try replace a4 := a4.below bb
    try replace a5 := a5.below bb
    try replace a6 := a6.below bb
    try replace a7 := a7.below bb
    try replace a8 := a8.below bb
    try replace a9 := a9.below bb
    try replace a10 := a10.below bb
    try replace a11 := a11.below bb
    try replace a12 := a12.below bb
    try replace a13 := a13.below bb
    try replace a14 := a14.below bb
    try replace a15 := a15.below bb
    try replace a16 := a16.below bb
    try replace a17 := a17.below bb
    try replace a18 := a18.below bb
    try replace a19 := a19.below bb
    try replace a20 := a20.below bb
    replace bw := below_on bw bb bw.size
    clear bb
    go_wp2_with fail
    refine (awakef_any _).mono ?_
    rintro e wn ⟨rfl, bb⟩
    try replace a1 := a1.below bb
    try replace a2 := a2.below bb
    try replace a3 := a3.below bb
    try replace a4 := a4.below bb
    try replace a5 := a5.below bb
    try replace a6 := a6.below bb
    try replace a7 := a7.below bb
    try replace a8 := a8.below bb
    try replace a9 := a9.below bb
    try replace a10 := a10.below bb
    try replace a11 := a11.below bb
    try replace a12 := a12.below bb
    try replace a13 := a13.below bb
    try replace a14 := a14.below bb
    try replace a15 := a15.below bb
    try replace a16 := a16.below bb
    try replace a17 := a17.below bb
    try replace a18 := a18.below bb
    try replace a19 := a19.below bb
    try replace a20 := a20.below bb
    replace bw := below_on bw bb bw.size
    clear bb
    go_wp2_with fail
    go_ret
    exact ⟨rfl, bw⟩
theorem text_walk (w : World) (x1 : Fx) (s : ByteArray) (ok1 : x1.ok w) (_hs : s.size ≤ maxLen) :
    Calls Try.prog 10 #[x1.val, .string s] w fun e w' => e = .returned (.bool true) ∧ Below w.heap.size w w' := by
  have hL : lensB [x1] := by
    intro v hv
    simp only [List.mem_cons, List.not_mem_nil, or_false] at hv
    rcases hv with rfl
    exact lens_ok ok1
  cases h : longB [x1]
  · have h1 := longB_no h x1 (by simp)
    by_cases hs : 200 < s.size
    · exact text_big w x1 s ok1 hL h hs
    · exact text_short w x1 s ok1 hL h hs (by omega) (by omega) (fun hv => (Sz.of_v hv h1.1 h1.2 ok1.num.u ok1.den.u).mono (by omega) (by omega))
  · exact text_long w x1 s ok1 hL h
end Go.Proofs.Ytodopppoikdglaa
