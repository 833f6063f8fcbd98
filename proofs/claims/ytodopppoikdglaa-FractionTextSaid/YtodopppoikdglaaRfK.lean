/- The walk of drydockref02.Format. -/
import Derived.Test.YtodopppoikdglaaFrH
import Derived.Test.YtodopppoikdglaaLwB
import Derived.Test.YtodopppoikdglaaRefE
import Derived.Test.YtodopppoikdglaaRfB
namespace Go.Proofs.Ytodopppoikdglaa
open Go.RowKit

theorem lim_gt_one {n : Nat} (hn : n ≠ 0) : (1 < (lim n).length → 1 < n) ∧ (∀ h : 0 < (lim n).length, ¬ 1 < (lim n).length → (lim n)[0] = n) := by
  constructor
  · intro h
    rcases Nat.lt_or_ge 1 n with h1 | h1
    · exact h1
    · have : (lim n).length ≤ 1 := by rw [lim_length_le]; have : pw 1 = 4294967296 := rfl; omega
      omega
  · intro h h2
    have h3 := nv_lim n
    match hl : lim n, h, h2 with
    | [a], _, _ => rw [hl] at h3; simpa [nv_cons, nv_nil] using h3
    | a :: b :: l, _, h2 => simp at h2
theorem bassoc (a b c : ByteArray) : a ++ b ++ c = a ++ (b ++ c) := by
  apply ByteArray.ext
  simp [ByteArray.data_append, Array.append_assoc]
set_option maxRecDepth 100000 in
set_option maxHeartbeats 4000000 in
theorem rfformat_any (w : World) (x : Fx) (T : ByteArray × Int) (hx : x.ok w) (l1 : x.xs.length ≤ 10000) (l2 : x.ys.length ≤ 10000) (hs : fmtF x = T) : Calls Try.prog 39 #[x.val] w fun e w' => e = .returned (.tuple #[.string T.1, .int .i64 T.2]) ∧ Below w.heap.size w w' := by
  have HS := Lib.hid hs
  clear hs
  by_cases hv : x.v
  · have HR := Lib.hid (redS_ok hv).1
    have HN := Lib.hid (redS_ok hv).2.1
    have HD := Lib.hid (redS_ok hv).2.2
    have HV := Lib.hid hv
    have HQ0 : Hid (x.q.den ≠ 0) := x.q.den_nz
    have HLO := Lib.hid (lim_gt_one x.q.den_nz)
    clear hv
    go_enter Try.func39, Try.ntmps39
    go_wp2_with fail
    have b0 := (Below.refl w.heap.size w).alloc (Nat.le_refl _) (.cells x.cells 25)
    have bx := bk3_alloc w (.bool x.b) (.slice x.A x.xs.length x.c) (.slice x.D x.ys.length x.d)
    have okx := hx.below b0
    have bw := b0
    clear b0
    generalize (w.alloc (.cells x.cells 25)) = w1 at bx okx bw ⊢
    refine (rfreduce_any w1 x _ okx l1 l2 HR.out).mono ?_
    rintro e wn ⟨y1, rfl, hs1, ok1, bb⟩
    have HNB := Lib.hid hs1.1
    have HYS := Lib.hid hs1.2.2
    have hnx : nv y1.xs = x.q.num.natAbs := by rw [hs1.2.1, nv_lim]
    have hny : nv y1.ys = x.q.den := by rw [hs1.2.2, nv_lim]
    have hl1 : y1.xs.length ≤ 128 := by rw [hs1.2.1]; exact HN.out
    have hl2 : y1.ys.length ≤ 128 := by rw [hs1.2.2]; exact HD.out
    have HT1 : Hid (fmtS (nv y1.xs) = (bstr (decT x.q.num.natAbs), 0)) := Lib.hid (by rw [hnx]; exact fmtS_ok HN.out)
    have HT2 : Hid (fmtS (nv y1.ys) = (bstr (decT x.q.den), 0)) := Lib.hid (by rw [hny]; exact fmtS_ok HD.out)
    have hz1 := dec_size HN.out
    have hz2 := dec_size HD.out
    have hn0 : (lim x.q.num.natAbs).length ≤ 128 := HN.out
    have hd0 : (lim x.q.den).length ≤ 128 := HD.out
    have HNX := Lib.hid hnx
    have HND := Lib.hid hny
    clear hs1 hnx hny
    try replace bx := bx.below bb
    try replace by_ := by_.below bb
    try replace bk := bk.below bb
    try replace okx := okx.below bb
    try replace oky := oky.below bb
    try replace ok1 := ok1.below bb
    try replace ok2 := ok2.below bb
    try replace ok3 := ok3.below bb
    try replace na := na.below bb
    try replace nb := nb.below bb
    try replace nc := nc.below bb
    try replace nd := nd.below bb
    try replace ne := ne.below bb
    replace bw := below_on bw bb bw.size
    clear bb
    go_upto_region 2 with fail
    have a1 := (fa_alloc ok1).1
    have bb := (fa_alloc ok1).2
    clear ok1 bx okx
    generalize (wn.alloc (.cells #[.bool y1.b, .slice y1.A y1.xs.length y1.c, .slice y1.D y1.ys.length y1.d] 25)) = wm at a1 bb ⊢
    try replace a1 := a1.below bb
    try replace a2 := a2.below bb
    try replace a3 := a3.below bb
    try replace a4 := a4.below bb
    try replace a5 := a5.below bb
    try replace a6 := a6.below bb
    try replace a7 := a7.below bb
    try replace a8 := a8.below bb
    try replace a9 := a9.below bb
    try replace a10 := a10.below bb
    try replace a11 := a11.below bb
    try replace a12 := a12.below bb
    try replace a13 := a13.below bb
    try replace a14 := a14.below bb
    try replace a15 := a15.below bb
    try replace a16 := a16.below bb
    try replace a17 := a17.below bb
    try replace a18 := a18.below bb
    try replace a19 := a19.below bb
    try replace a20 := a20.below bb
    replace bw := below_on bw bb bw.size
    clear bb
    generalize wn.heap.size = g1 at a1 ⊢
    have ci0 := a1.c0
    have ci1 := a1.c1
    have ci2 := a1.c2
    go_wp2_with fail
    clear ci0 ci1 ci2
    have m := rformat_any wm y1.A y1.c _ y1.xs a1.ok.num rfl (by rw [HNX.out]; omega)
    rw [HT1.out] at m
    refine m.mono ?_
    clear m
    rintro e wn ⟨rfl, bb⟩
    try replace a1 := a1.below bb
    try replace a2 := a2.below bb
    try replace a3 := a3.below bb
    try replace a4 := a4.below bb
    try replace a5 := a5.below bb
    try replace a6 := a6.below bb
    try replace a7 := a7.below bb
    try replace a8 := a8.below bb
    try replace a9 := a9.below bb
    try replace a10 := a10.below bb
    try replace a11 := a11.below bb
    try replace a12 := a12.below bb
    try replace a13 := a13.below bb
    try replace a14 := a14.below bb
    try replace a15 := a15.below bb
    try replace a16 := a16.below bb
    try replace a17 := a17.below bb
    try replace a18 := a18.below bb
    try replace a19 := a19.below bb
    try replace a20 := a20.below bb
    replace bw := below_on bw bb bw.size
    clear bb
    by_cases hb : y1.b = true
    · have HB : Hid (x.q.num < 0) := Lib.hid (by have := HNB.out; rw [hb] at this; exact of_decide_eq_true this.symm)
      have ci0 := a1.c0
      have ci1 := a1.c1
      have ci2 := a1.c2
      go_upto_region 7 with fail
      clear ci0 ci1 ci2
      clear hb
      by_cases hd : 1 < y1.ys.length
      · have hdn := HLO.out.1 (by have := hd; rw [HYS.out] at this; exact this)
        have HDD := Lib.hid hdn
        clear hdn
        have ci0 := a1.c0
        have ci1 := a1.c1
        have ci2 := a1.c2
        go_wp2_with fail
        clear ci0 ci1 ci2
        have m := rformat_any wn y1.D y1.d _ y1.ys a1.ok.den rfl (by rw [HND.out]; omega)
        rw [HT2.out] at m
        refine m.mono ?_
        clear m
        rintro e wn ⟨rfl, bb⟩
        try replace a1 := a1.below bb
        try replace a2 := a2.below bb
        try replace a3 := a3.below bb
        try replace a4 := a4.below bb
        try replace a5 := a5.below bb
        try replace a6 := a6.below bb
        try replace a7 := a7.below bb
        try replace a8 := a8.below bb
        try replace a9 := a9.below bb
        try replace a10 := a10.below bb
        try replace a11 := a11.below bb
        try replace a12 := a12.below bb
        try replace a13 := a13.below bb
        try replace a14 := a14.below bb
        try replace a15 := a15.below bb
        try replace a16 := a16.below bb
        try replace a17 := a17.below bb
        try replace a18 := a18.below bb
        try replace a19 := a19.below bb
        try replace a20 := a20.below bb
        replace bw := below_on bw bb bw.size
        clear bb
        go_wp2_with fail
        go_ret2
        rw [← HS.out, fmtF, if_pos HV.out, txtQ, if_pos HDD.out, bassoc]
        rw [if_pos HB.out]; exact ⟨rfl, bw⟩
      · have hlen : 0 < y1.ys.length := by rw [HYS.out]; exact lim_length_pos.2 HQ0.out
        obtain ⟨ad, had, hbd, hcd, hvd⟩ := a1.ok.den.at 0 hlen
        have hv0 : y1.ys[0] = x.q.den := by
          have h1 : ∀ (l : List Nat) (hl : 0 < l.length), l = lim x.q.den → l[0] = x.q.den := by
            intro l hl e; subst e
            exact HLO.out.2 hl (by have := hd; rw [HYS.out] at this; exact this)
          exact h1 _ hlen HYS.out
        rw [hv0] at hcd
        have hcd2 : wn.cell? ad = some (.int .u32 (x.q.den : Int)) := by
          have e0 : ad.add 0 = ad := by unfold Addr.add; simp
          rw [e0] at hcd; exact hcd
        have hlen1 : y1.ys.length = 1 := by omega
        by_cases hq1 : 1 < x.q.den
        · have HDD := Lib.hid hq1
          clear hcd hvd hv0
          have ci0 := a1.c0
          have ci1 := a1.c1
          have ci2 := a1.c2
          rw [had] at ci2
          go_wp2_with fail
          clear ci0 ci1 ci2
          rw [← had]
          have m := rformat_any wn y1.D y1.d _ y1.ys a1.ok.den hlen1.symm (by rw [HND.out]; omega)
          rw [HT2.out] at m
          refine m.mono ?_
          clear m
          rintro e wn ⟨rfl, bb⟩
          try replace a1 := a1.below bb
          try replace a2 := a2.below bb
          try replace a3 := a3.below bb
          try replace a4 := a4.below bb
          try replace a5 := a5.below bb
          try replace a6 := a6.below bb
          try replace a7 := a7.below bb
          try replace a8 := a8.below bb
          try replace a9 := a9.below bb
          try replace a10 := a10.below bb
          try replace a11 := a11.below bb
          try replace a12 := a12.below bb
          try replace a13 := a13.below bb
          try replace a14 := a14.below bb
          try replace a15 := a15.below bb
          try replace a16 := a16.below bb
          try replace a17 := a17.below bb
          try replace a18 := a18.below bb
          try replace a19 := a19.below bb
          try replace a20 := a20.below bb
          replace bw := below_on bw bb bw.size
          clear bb
          clear hcd2
          go_wp2_with fail
          go_ret2
          rw [← HS.out, fmtF, if_pos HV.out, txtQ, if_pos HDD.out, bassoc]
          rw [if_pos HB.out]; exact ⟨rfl, bw⟩
        · have HDD : Hid (¬ 1 < x.q.den) := hq1
          clear hcd hvd hv0
          have ci0 := a1.c0
          have ci1 := a1.c1
          have ci2 := a1.c2
          rw [had] at ci2
          go_wp2_with fail
          clear ci0 ci1 ci2
          go_ret2
          rw [← HS.out, fmtF, if_pos HV.out, txtQ, if_neg HDD.out]
          rw [if_pos HB.out]; exact ⟨rfl, bw⟩
    · have HB : Hid (¬ x.q.num < 0) := Lib.hid (by have := HNB.out; intro h; exact hb (by rw [this]; exact decide_eq_true h))
      replace hb : y1.b = false := by simpa using hb
      have ci0 := a1.c0
      have ci1 := a1.c1
      have ci2 := a1.c2
      go_upto_region 7 with fail
      clear ci0 ci1 ci2
      clear hb
      by_cases hd : 1 < y1.ys.length
      · have hdn := HLO.out.1 (by have := hd; rw [HYS.out] at this; exact this)
        have HDD := Lib.hid hdn
        clear hdn
        have ci0 := a1.c0
        have ci1 := a1.c1
        have ci2 := a1.c2
        go_wp2_with fail
        clear ci0 ci1 ci2
        have m := rformat_any wn y1.D y1.d _ y1.ys a1.ok.den rfl (by rw [HND.out]; omega)
        rw [HT2.out] at m
        refine m.mono ?_
        clear m
        rintro e wn ⟨rfl, bb⟩
        try replace a1 := a1.below bb
        try replace a2 := a2.below bb
        try replace a3 := a3.below bb
        try replace a4 := a4.below bb
        try replace a5 := a5.below bb
        try replace a6 := a6.below bb
        try replace a7 := a7.below bb
        try replace a8 := a8.below bb
        try replace a9 := a9.below bb
        try replace a10 := a10.below bb
        try replace a11 := a11.below bb
        try replace a12 := a12.below bb
        try replace a13 := a13.below bb
        try replace a14 := a14.below bb
        try replace a15 := a15.below bb
        try replace a16 := a16.below bb
        try replace a17 := a17.below bb
        try replace a18 := a18.below bb
        try replace a19 := a19.below bb
        try replace a20 := a20.below bb
        replace bw := below_on bw bb bw.size
        clear bb
        go_wp2_with fail
        go_ret2
        rw [← HS.out, fmtF, if_pos HV.out, txtQ, if_pos HDD.out, bassoc]
        rw [if_neg (Int.not_lt.2 HB.out)]; exact ⟨rfl, bw⟩
      · have hlen : 0 < y1.ys.length := by rw [HYS.out]; exact lim_length_pos.2 HQ0.out
        obtain ⟨ad, had, hbd, hcd, hvd⟩ := a1.ok.den.at 0 hlen
        have hv0 : y1.ys[0] = x.q.den := by
          have h1 : ∀ (l : List Nat) (hl : 0 < l.length), l = lim x.q.den → l[0] = x.q.den := by
            intro l hl e; subst e
            exact HLO.out.2 hl (by have := hd; rw [HYS.out] at this; exact this)
          exact h1 _ hlen HYS.out
        rw [hv0] at hcd
        have hcd2 : wn.cell? ad = some (.int .u32 (x.q.den : Int)) := by
          have e0 : ad.add 0 = ad := by unfold Addr.add; simp
          rw [e0] at hcd; exact hcd
        have hlen1 : y1.ys.length = 1 := by omega
        by_cases hq1 : 1 < x.q.den
        · have HDD := Lib.hid hq1
          clear hcd hvd hv0
          have ci0 := a1.c0
          have ci1 := a1.c1
          have ci2 := a1.c2
          rw [had] at ci2
          go_wp2_with fail
          clear ci0 ci1 ci2
          rw [← had]
          have m := rformat_any wn y1.D y1.d _ y1.ys a1.ok.den hlen1.symm (by rw [HND.out]; omega)
          rw [HT2.out] at m
          refine m.mono ?_
          clear m
          rintro e wn ⟨rfl, bb⟩
          try replace a1 := a1.below bb
          try replace a2 := a2.below bb
          try replace a3 := a3.below bb
          try replace a4 := a4.below bb
          try replace a5 := a5.below bb
          try replace a6 := a6.below bb
          try replace a7 := a7.below bb
          try replace a8 := a8.below bb
          try replace a9 := a9.below bb
          try replace a10 := a10.below bb
          try replace a11 := a11.below bb
          try replace a12 := a12.below bb
          try replace a13 := a13.below bb
          try replace a14 := a14.below bb
          try replace a15 := a15.below bb
          try replace a16 := a16.below bb
          try replace a17 := a17.below bb
          try replace a18 := a18.below bb
          try replace a19 := a19.below bb
          try replace a20 := a20.below bb
          replace bw := below_on bw bb bw.size
          clear bb
          clear hcd2
          go_wp2_with fail
          go_ret2
          rw [← HS.out, fmtF, if_pos HV.out, txtQ, if_pos HDD.out, bassoc]
          rw [if_neg (Int.not_lt.2 HB.out)]; exact ⟨rfl, bw⟩
        · have HDD : Hid (¬ 1 < x.q.den) := hq1
          clear hcd hvd hv0
          have ci0 := a1.c0
          have ci1 := a1.c1
          have ci2 := a1.c2
          rw [had] at ci2
          go_wp2_with fail
          clear ci0 ci1 ci2
          go_ret2
          rw [← HS.out, fmtF, if_pos HV.out, txtQ, if_neg HDD.out]
          rw [if_neg (Int.not_lt.2 HB.out)]; exact ⟨rfl, bw⟩
  · have HV : Hid (¬ x.v) := hv
    have HR : Hid (redS x = errF 1) := Lib.hid (by rw [redS, if_neg hv])
    clear hv
    go_enter Try.func39, Try.ntmps39
    go_wp2_with fail
    have b0 := (Below.refl w.heap.size w).alloc (Nat.le_refl _) (.cells x.cells 25)
    have bx := bk3_alloc w (.bool x.b) (.slice x.A x.xs.length x.c) (.slice x.D x.ys.length x.d)
    have okx := hx.below b0
    have bw := b0
    clear b0
    generalize (w.alloc (.cells x.cells 25)) = w1 at bx okx bw ⊢
    refine (rfreduce_any w1 x _ okx l1 l2 HR.out).mono ?_
    rintro e wn ⟨y1, rfl, hs1, ok1, bb⟩
    clear hs1
    try replace bx := bx.below bb
    try replace by_ := by_.below bb
    try replace bk := bk.below bb
    try replace okx := okx.below bb
    try replace oky := oky.below bb
    try replace ok1 := ok1.below bb
    try replace ok2 := ok2.below bb
    try replace ok3 := ok3.below bb
    try replace na := na.below bb
    try replace nb := nb.below bb
    try replace nc := nc.below bb
    try replace nd := nd.below bb
    try replace ne := ne.below bb
    replace bw := below_on bw bb bw.size
    clear bb
    have he : (errF 1).2.2.2 = 1 := rfl
    have bb := (fa_alloc ok1).2
    have bw2 := below_on bw bb bw.size
    clear bb
    go_wp2_with fail
    go_ret2
    rw [← HS.out, fmtF, if_neg HV.out]
    exact ⟨rfl, bw2⟩
end Go.Proofs.Ytodopppoikdglaa
