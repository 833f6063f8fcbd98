/- Sums, differences and products of intervals of few limbs; what lies inside. No program in sight. -/
import Derived.Test.YtlcolmifmhdboaaIvP
namespace Go.Proofs.Ytlcolmifmhdboaa

set_option maxRecDepth 100000 in
theorem mulI_ok {a b : Ix} (ha : a.v) (hb : b.v) (z : ∀ p ∈ corn a.lo.q a.hi.q b.lo.q b.hi.q, Sz p 128 128) : mulI a b = (okS (loP (corn a.lo.q a.hi.q b.lo.q b.hi.q)), okS (hiP (corn a.lo.q a.hi.q b.lo.q b.hi.q)), 0) := by
  rw [mulI, if_pos ⟨ha, hb⟩, show prodL [b.lo, b.hi] a.lo.q a.hi.q = corn a.lo.q a.hi.q b.lo.q b.hi.q from rfl, mulsS, if_neg]
  rintro ⟨p, hp, hbg⟩
  have hz := z p hp
  rw [bigQ] at hbg
  have h3 := hz.1
  have h4 := hz.2
  omega
set_option maxRecDepth 100000 in
theorem corn_sz {a b c d : Rat} {n m j k : Nat} (h1 : Sz a n m) (h2 : Sz b n m) (h3 : Sz c j k) (h4 : Sz d j k) (hn : j + n ≤ 128) (hm : k + m ≤ 128) : ∀ p ∈ corn a b c d, Sz p 128 128 := by
  intro p hp
  simp only [corn, List.mem_cons, List.not_mem_nil, or_false] at hp
  rcases hp with rfl | rfl | rfl | rfl
  · exact (h3.mul h1).mono hn hm
  · exact (h3.mul h2).mono hn hm
  · exact (h4.mul h1).mono hn hm
  · exact (h4.mul h2).mono hn hm
set_option maxRecDepth 100000 in
theorem corn_ne (a b c d : Rat) : corn a b c d ≠ [] := by simp [corn]
set_option maxRecDepth 100000 in
theorem corn_mono_lo {a b c d x y : Rat} (h1 : a ≤ x) (h2 : x ≤ y) (h3 : y ≤ b) (h4 : c ≤ d) : loP (corn a b c d) ≤ loP (corn x y c d) := by
  have hm := loP_mem (corn_ne x y c d)
  have hx : x ≤ b := Rat.le_trans h2 h3
  have hy : a ≤ y := Rat.le_trans h1 h2
  generalize loP (corn x y c d) = m at *
  simp only [corn, List.mem_cons, List.not_mem_nil, or_false] at hm
  rcases hm with rfl | rfl | rfl | rfl
  · rw [Rat.mul_comm]; exact corn_lo h1 hx Rat.le_refl h4
  · rw [Rat.mul_comm]; exact corn_lo hy h3 Rat.le_refl h4
  · rw [Rat.mul_comm]; exact corn_lo h1 hx h4 Rat.le_refl
  · rw [Rat.mul_comm]; exact corn_lo hy h3 h4 Rat.le_refl
set_option maxRecDepth 100000 in
theorem corn_mono_hi {a b c d x y : Rat} (h1 : a ≤ x) (h2 : x ≤ y) (h3 : y ≤ b) (h4 : c ≤ d) : hiP (corn x y c d) ≤ hiP (corn a b c d) := by
  have hm := hiP_mem (corn_ne x y c d)
  have hx : x ≤ b := Rat.le_trans h2 h3
  have hy : a ≤ y := Rat.le_trans h1 h2
  generalize hiP (corn x y c d) = m at *
  simp only [corn, List.mem_cons, List.not_mem_nil, or_false] at hm
  rcases hm with rfl | rfl | rfl | rfl
  · rw [Rat.mul_comm]; exact corn_hi h1 hx Rat.le_refl h4
  · rw [Rat.mul_comm]; exact corn_hi hy h3 Rat.le_refl h4
  · rw [Rat.mul_comm]; exact corn_hi h1 hx h4 Rat.le_refl
  · rw [Rat.mul_comm]; exact corn_hi hy h3 h4 Rat.le_refl
/-- an interval in lowest terms -/
structure IsI (x : Ix) (l h : Rat) : Prop where
  l : IsP x.lo l
  h : IsP x.hi h
set_option maxRecDepth 100000 in
theorem IsI.few {x : Ix} {l h : Rat} (k : IsI x l h) : x.few := ⟨k.l.f.l, k.l.f.m, k.h.f.l, k.h.f.m⟩
set_option maxRecDepth 100000 in
theorem IsI.v {x : Ix} {l h : Rat} (k : IsI x l h) (hle : l ≤ h) : x.v := ⟨k.l.v, k.h.v, by rw [k.l.rp.q, k.h.rp.q]; exact hle⟩
set_option maxRecDepth 100000 in
theorem IsI.of {x : Ix} {l h : Rat} {S : IvS} (hs : x.lo.is S.1 ∧ x.hi.is S.2.1) (e : S = (okS l, okS h, 0)) (zl : Sz l 128 128) (zh : Sz h 128 128) : IsI x l h := by
  subst e
  exact ⟨IsP.sz hs.1 zl, IsP.sz hs.2 zh⟩
set_option maxRecDepth 100000 in
theorem insS_of {x y : Ix} {l h l' h' : Rat} (X : IsI x l h) (Y : IsI y l' h') (h0 : l ≤ h) (h1 : l' ≤ l) (h2 : h ≤ h') : insS x y :=
  ⟨X.v h0, Y.v (Rat.le_trans h1 (Rat.le_trans h0 h2)), ⟨Y.l.v, X.l.v, by rw [Y.l.rp.q, X.l.rp.q]; exact h1⟩, ⟨X.h.v, Y.h.v, by rw [X.h.rp.q, Y.h.rp.q]; exact h2⟩⟩
set_option maxRecDepth 100000 in
theorem addI_ok {a b : Ix} (ha : a.v) (hb : b.v) {p q : Rat} (hp : a.lo.q + b.lo.q = p) (hq : a.hi.q + b.hi.q = q) (s1 : Sz p 128 128) (s2 : Sz q 128 128) : opS addF a b b.lo b.hi = (okS p, okS q, 0) := by
  subst hp hq
  rw [opS, if_pos ⟨ha, hb⟩, addF_ok ha.1 hb.1 rfl rfl s1, addF_ok ha.2.1 hb.2.1 rfl rfl s2]; rfl
set_option maxRecDepth 100000 in
theorem subI_ok {a b : Ix} (ha : a.v) (hb : b.v) {p q : Rat} (hp : a.lo.q - b.hi.q = p) (hq : a.hi.q - b.lo.q = q) (s1 : Sz p 128 128) (s2 : Sz q 128 128) : opS subF a b b.hi b.lo = (okS p, okS q, 0) := by
  subst hp hq
  rw [opS, if_pos ⟨ha, hb⟩, subF_ok ha.1 hb.2.1 rfl rfl s1, subF_ok ha.2.1 hb.1 rfl rfl s2]; rfl
end Go.Proofs.Ytlcolmifmhdboaa
