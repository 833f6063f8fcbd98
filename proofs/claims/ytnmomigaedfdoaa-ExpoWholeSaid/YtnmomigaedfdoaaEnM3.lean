/- Checked by the kernel for x in (24, 32], denominators up to 256: no sum and no weight has digits 65 to 112 that are all alike. No program in sight. -/
import Derived.Test.YtnmomigaedfdoaaEnQ
namespace Go.Proofs.Ytnmomigaedfdoaa
set_option maxRecDepth 100000

theorem tk24_0 : tstTo 135 272 83 24 200 56 = true := by decide +kernel
theorem tk24_1 : tstTo 135 272 83 24 136 64 = true := by decide +kernel
theorem tk24_2 : tstTo 135 272 83 24 0 136 = true := by decide +kernel
theorem tj24 : ∀ d, 1 ≤ d → d ≤ 256 → tst 135 272 83 24 d = true := fun d h1 h2 => by
  rcases Nat.lt_or_ge 200 d with h | h
  · exact tstTo_mem 56 tk24_0 d h (by omega)
  rcases Nat.lt_or_ge 136 d with h | h
  · exact tstTo_mem 64 tk24_1 d h (by omega)
  exact tstTo_mem 136 tk24_2 d (by omega) (by omega)
theorem tk25_0 : tstTo 135 272 85 25 200 56 = true := by decide +kernel
theorem tk25_1 : tstTo 135 272 85 25 136 64 = true := by decide +kernel
theorem tk25_2 : tstTo 135 272 85 25 0 136 = true := by decide +kernel
theorem tj25 : ∀ d, 1 ≤ d → d ≤ 256 → tst 135 272 85 25 d = true := fun d h1 h2 => by
  rcases Nat.lt_or_ge 200 d with h | h
  · exact tstTo_mem 56 tk25_0 d h (by omega)
  rcases Nat.lt_or_ge 136 d with h | h
  · exact tstTo_mem 64 tk25_1 d h (by omega)
  exact tstTo_mem 136 tk25_2 d (by omega) (by omega)
theorem tk26_0 : tstTo 135 272 87 26 200 56 = true := by decide +kernel
theorem tk26_1 : tstTo 135 272 87 26 136 64 = true := by decide +kernel
theorem tk26_2 : tstTo 135 272 87 26 0 136 = true := by decide +kernel
theorem tj26 : ∀ d, 1 ≤ d → d ≤ 256 → tst 135 272 87 26 d = true := fun d h1 h2 => by
  rcases Nat.lt_or_ge 200 d with h | h
  · exact tstTo_mem 56 tk26_0 d h (by omega)
  rcases Nat.lt_or_ge 136 d with h | h
  · exact tstTo_mem 64 tk26_1 d h (by omega)
  exact tstTo_mem 136 tk26_2 d (by omega) (by omega)
theorem tk27_0 : tstTo 135 272 89 27 200 56 = true := by decide +kernel
theorem tk27_1 : tstTo 135 272 89 27 136 64 = true := by decide +kernel
theorem tk27_2 : tstTo 135 272 89 27 0 136 = true := by decide +kernel
theorem tj27 : ∀ d, 1 ≤ d → d ≤ 256 → tst 135 272 89 27 d = true := fun d h1 h2 => by
  rcases Nat.lt_or_ge 200 d with h | h
  · exact tstTo_mem 56 tk27_0 d h (by omega)
  rcases Nat.lt_or_ge 136 d with h | h
  · exact tstTo_mem 64 tk27_1 d h (by omega)
  exact tstTo_mem 136 tk27_2 d (by omega) (by omega)
theorem tk28_0 : tstTo 135 272 91 28 200 56 = true := by decide +kernel
theorem tk28_1 : tstTo 135 272 91 28 136 64 = true := by decide +kernel
theorem tk28_2 : tstTo 135 272 91 28 0 136 = true := by decide +kernel
theorem tj28 : ∀ d, 1 ≤ d → d ≤ 256 → tst 135 272 91 28 d = true := fun d h1 h2 => by
  rcases Nat.lt_or_ge 200 d with h | h
  · exact tstTo_mem 56 tk28_0 d h (by omega)
  rcases Nat.lt_or_ge 136 d with h | h
  · exact tstTo_mem 64 tk28_1 d h (by omega)
  exact tstTo_mem 136 tk28_2 d (by omega) (by omega)
theorem tk29_0 : tstTo 135 272 93 29 200 56 = true := by decide +kernel
theorem tk29_1 : tstTo 135 272 93 29 136 64 = true := by decide +kernel
theorem tk29_2 : tstTo 135 272 93 29 0 136 = true := by decide +kernel
theorem tj29 : ∀ d, 1 ≤ d → d ≤ 256 → tst 135 272 93 29 d = true := fun d h1 h2 => by
  rcases Nat.lt_or_ge 200 d with h | h
  · exact tstTo_mem 56 tk29_0 d h (by omega)
  rcases Nat.lt_or_ge 136 d with h | h
  · exact tstTo_mem 64 tk29_1 d h (by omega)
  exact tstTo_mem 136 tk29_2 d (by omega) (by omega)
theorem tk30_0 : tstTo 135 272 95 30 200 56 = true := by decide +kernel
theorem tk30_1 : tstTo 135 272 95 30 136 64 = true := by decide +kernel
theorem tk30_2 : tstTo 135 272 95 30 0 136 = true := by decide +kernel
theorem tj30 : ∀ d, 1 ≤ d → d ≤ 256 → tst 135 272 95 30 d = true := fun d h1 h2 => by
  rcases Nat.lt_or_ge 200 d with h | h
  · exact tstTo_mem 56 tk30_0 d h (by omega)
  rcases Nat.lt_or_ge 136 d with h | h
  · exact tstTo_mem 64 tk30_1 d h (by omega)
  exact tstTo_mem 136 tk30_2 d (by omega) (by omega)
theorem tk31_0 : tstTo 135 272 97 31 200 56 = true := by decide +kernel
theorem tk31_1 : tstTo 135 272 97 31 136 64 = true := by decide +kernel
theorem tk31_2 : tstTo 135 272 97 31 0 136 = true := by decide +kernel
theorem tj31 : ∀ d, 1 ≤ d → d ≤ 256 → tst 135 272 97 31 d = true := fun d h1 h2 => by
  rcases Nat.lt_or_ge 200 d with h | h
  · exact tstTo_mem 56 tk31_0 d h (by omega)
  rcases Nat.lt_or_ge 136 d with h | h
  · exact tstTo_mem 64 tk31_1 d h (by omega)
  exact tstTo_mem 136 tk31_2 d (by omega) (by omega)
end Go.Proofs.Ytnmomigaedfdoaa
