/- Checked by the kernel for x in (8, 16], denominators up to 256: no sum and no weight has digits 65 to 112 that are all alike. No program in sight. -/
import Derived.Test.YtnmomigaedfdoaaEnQ
namespace Go.Proofs.Ytnmomigaedfdoaa
set_option maxRecDepth 100000

theorem tk8_0 : tstTo 135 272 49 8 0 256 = true := by decide +kernel
theorem tj8 : ∀ d, 1 ≤ d → d ≤ 256 → tst 135 272 49 8 d = true := fun d h1 h2 => by
  exact tstTo_mem 256 tk8_0 d (by omega) (by omega)
theorem tk9_0 : tstTo 135 272 51 9 176 80 = true := by decide +kernel
theorem tk9_1 : tstTo 135 272 51 9 0 176 = true := by decide +kernel
theorem tj9 : ∀ d, 1 ≤ d → d ≤ 256 → tst 135 272 51 9 d = true := fun d h1 h2 => by
  rcases Nat.lt_or_ge 176 d with h | h
  · exact tstTo_mem 80 tk9_0 d h (by omega)
  exact tstTo_mem 176 tk9_1 d (by omega) (by omega)
theorem tk10_0 : tstTo 135 272 54 10 176 80 = true := by decide +kernel
theorem tk10_1 : tstTo 135 272 54 10 0 176 = true := by decide +kernel
theorem tj10 : ∀ d, 1 ≤ d → d ≤ 256 → tst 135 272 54 10 d = true := fun d h1 h2 => by
  rcases Nat.lt_or_ge 176 d with h | h
  · exact tstTo_mem 80 tk10_0 d h (by omega)
  exact tstTo_mem 176 tk10_1 d (by omega) (by omega)
theorem tk11_0 : tstTo 135 272 56 11 176 80 = true := by decide +kernel
theorem tk11_1 : tstTo 135 272 56 11 0 176 = true := by decide +kernel
theorem tj11 : ∀ d, 1 ≤ d → d ≤ 256 → tst 135 272 56 11 d = true := fun d h1 h2 => by
  rcases Nat.lt_or_ge 176 d with h | h
  · exact tstTo_mem 80 tk11_0 d h (by omega)
  exact tstTo_mem 176 tk11_1 d (by omega) (by omega)
theorem tk12_0 : tstTo 135 272 58 12 176 80 = true := by decide +kernel
theorem tk12_1 : tstTo 135 272 58 12 0 176 = true := by decide +kernel
theorem tj12 : ∀ d, 1 ≤ d → d ≤ 256 → tst 135 272 58 12 d = true := fun d h1 h2 => by
  rcases Nat.lt_or_ge 176 d with h | h
  · exact tstTo_mem 80 tk12_0 d h (by omega)
  exact tstTo_mem 176 tk12_1 d (by omega) (by omega)
theorem tk13_0 : tstTo 135 272 61 13 176 80 = true := by decide +kernel
theorem tk13_1 : tstTo 135 272 61 13 0 176 = true := by decide +kernel
theorem tj13 : ∀ d, 1 ≤ d → d ≤ 256 → tst 135 272 61 13 d = true := fun d h1 h2 => by
  rcases Nat.lt_or_ge 176 d with h | h
  · exact tstTo_mem 80 tk13_0 d h (by omega)
  exact tstTo_mem 176 tk13_1 d (by omega) (by omega)
theorem tk14_0 : tstTo 135 272 63 14 176 80 = true := by decide +kernel
theorem tk14_1 : tstTo 135 272 63 14 0 176 = true := by decide +kernel
theorem tj14 : ∀ d, 1 ≤ d → d ≤ 256 → tst 135 272 63 14 d = true := fun d h1 h2 => by
  rcases Nat.lt_or_ge 176 d with h | h
  · exact tstTo_mem 80 tk14_0 d h (by omega)
  exact tstTo_mem 176 tk14_1 d (by omega) (by omega)
theorem tk15_0 : tstTo 135 272 65 15 176 80 = true := by decide +kernel
theorem tk15_1 : tstTo 135 272 65 15 0 176 = true := by decide +kernel
theorem tj15 : ∀ d, 1 ≤ d → d ≤ 256 → tst 135 272 65 15 d = true := fun d h1 h2 => by
  rcases Nat.lt_or_ge 176 d with h | h
  · exact tstTo_mem 80 tk15_0 d h (by omega)
  exact tstTo_mem 176 tk15_1 d (by omega) (by omega)
end Go.Proofs.Ytnmomigaedfdoaa
