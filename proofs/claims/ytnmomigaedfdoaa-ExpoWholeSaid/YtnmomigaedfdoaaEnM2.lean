/- Checked by the kernel for x in (16, 24], denominators up to 256: no sum and no weight has digits 65 to 112 that are all alike. No program in sight. -/
import Derived.Test.YtnmomigaedfdoaaEnQ
namespace Go.Proofs.Ytnmomigaedfdoaa
set_option maxRecDepth 100000

theorem tk16_0 : tstTo 135 272 67 16 176 80 = true := by decide +kernel
theorem tk16_1 : tstTo 135 272 67 16 0 176 = true := by decide +kernel
theorem tj16 : ∀ d, 1 ≤ d → d ≤ 256 → tst 135 272 67 16 d = true := fun d h1 h2 => by
  rcases Nat.lt_or_ge 176 d with h | h
  · exact tstTo_mem 80 tk16_0 d h (by omega)
  exact tstTo_mem 176 tk16_1 d (by omega) (by omega)
theorem tk17_0 : tstTo 135 272 69 17 176 80 = true := by decide +kernel
theorem tk17_1 : tstTo 135 272 69 17 0 176 = true := by decide +kernel
theorem tj17 : ∀ d, 1 ≤ d → d ≤ 256 → tst 135 272 69 17 d = true := fun d h1 h2 => by
  rcases Nat.lt_or_ge 176 d with h | h
  · exact tstTo_mem 80 tk17_0 d h (by omega)
  exact tstTo_mem 176 tk17_1 d (by omega) (by omega)
theorem tk18_0 : tstTo 135 272 72 18 176 80 = true := by decide +kernel
theorem tk18_1 : tstTo 135 272 72 18 0 176 = true := by decide +kernel
theorem tj18 : ∀ d, 1 ≤ d → d ≤ 256 → tst 135 272 72 18 d = true := fun d h1 h2 => by
  rcases Nat.lt_or_ge 176 d with h | h
  · exact tstTo_mem 80 tk18_0 d h (by omega)
  exact tstTo_mem 176 tk18_1 d (by omega) (by omega)
theorem tk19_0 : tstTo 135 272 74 19 176 80 = true := by decide +kernel
theorem tk19_1 : tstTo 135 272 74 19 0 176 = true := by decide +kernel
theorem tj19 : ∀ d, 1 ≤ d → d ≤ 256 → tst 135 272 74 19 d = true := fun d h1 h2 => by
  rcases Nat.lt_or_ge 176 d with h | h
  · exact tstTo_mem 80 tk19_0 d h (by omega)
  exact tstTo_mem 176 tk19_1 d (by omega) (by omega)
theorem tk20_0 : tstTo 135 272 76 20 176 80 = true := by decide +kernel
theorem tk20_1 : tstTo 135 272 76 20 0 176 = true := by decide +kernel
theorem tj20 : ∀ d, 1 ≤ d → d ≤ 256 → tst 135 272 76 20 d = true := fun d h1 h2 => by
  rcases Nat.lt_or_ge 176 d with h | h
  · exact tstTo_mem 80 tk20_0 d h (by omega)
  exact tstTo_mem 176 tk20_1 d (by omega) (by omega)
theorem tk21_0 : tstTo 135 272 78 21 176 80 = true := by decide +kernel
theorem tk21_1 : tstTo 135 272 78 21 0 176 = true := by decide +kernel
theorem tj21 : ∀ d, 1 ≤ d → d ≤ 256 → tst 135 272 78 21 d = true := fun d h1 h2 => by
  rcases Nat.lt_or_ge 176 d with h | h
  · exact tstTo_mem 80 tk21_0 d h (by omega)
  exact tstTo_mem 176 tk21_1 d (by omega) (by omega)
theorem tk22_0 : tstTo 135 272 80 22 176 80 = true := by decide +kernel
theorem tk22_1 : tstTo 135 272 80 22 0 176 = true := by decide +kernel
theorem tj22 : ∀ d, 1 ≤ d → d ≤ 256 → tst 135 272 80 22 d = true := fun d h1 h2 => by
  rcases Nat.lt_or_ge 176 d with h | h
  · exact tstTo_mem 80 tk22_0 d h (by omega)
  exact tstTo_mem 176 tk22_1 d (by omega) (by omega)
theorem tk23_0 : tstTo 135 272 82 23 200 56 = true := by decide +kernel
theorem tk23_1 : tstTo 135 272 82 23 136 64 = true := by decide +kernel
theorem tk23_2 : tstTo 135 272 82 23 0 136 = true := by decide +kernel
theorem tj23 : ∀ d, 1 ≤ d → d ≤ 256 → tst 135 272 82 23 d = true := fun d h1 h2 => by
  rcases Nat.lt_or_ge 200 d with h | h
  · exact tstTo_mem 56 tk23_0 d h (by omega)
  rcases Nat.lt_or_ge 136 d with h | h
  · exact tstTo_mem 64 tk23_1 d h (by omega)
  exact tstTo_mem 136 tk23_2 d (by omega) (by omega)
end Go.Proofs.Ytnmomigaedfdoaa
