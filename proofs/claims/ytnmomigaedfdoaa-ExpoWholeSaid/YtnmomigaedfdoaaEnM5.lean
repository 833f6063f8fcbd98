/- Checked by the kernel for x in (40, 48], denominators up to 256: no sum and no weight has digits 65 to 112 that are all alike. No program in sight. -/
import Derived.Test.YtnmomigaedfdoaaEnQ
namespace Go.Proofs.Ytnmomigaedfdoaa
set_option maxRecDepth 100000

theorem tk40_0 : tstTo 135 272 112 40 224 32 = true := by decide +kernel
theorem tk40_1 : tstTo 135 272 112 40 192 32 = true := by decide +kernel
theorem tk40_2 : tstTo 135 272 112 40 160 32 = true := by decide +kernel
theorem tk40_3 : tstTo 135 272 112 40 112 48 = true := by decide +kernel
theorem tk40_4 : tstTo 135 272 112 40 0 112 = true := by decide +kernel
theorem tj40 : ∀ d, 1 ≤ d → d ≤ 256 → tst 135 272 112 40 d = true := fun d h1 h2 => by
  rcases Nat.lt_or_ge 224 d with h | h
  · exact tstTo_mem 32 tk40_0 d h (by omega)
  rcases Nat.lt_or_ge 192 d with h | h
  · exact tstTo_mem 32 tk40_1 d h (by omega)
  rcases Nat.lt_or_ge 160 d with h | h
  · exact tstTo_mem 32 tk40_2 d h (by omega)
  rcases Nat.lt_or_ge 112 d with h | h
  · exact tstTo_mem 48 tk40_3 d h (by omega)
  exact tstTo_mem 112 tk40_4 d (by omega) (by omega)
theorem tk41_0 : tstTo 135 272 114 41 224 32 = true := by decide +kernel
theorem tk41_1 : tstTo 135 272 114 41 192 32 = true := by decide +kernel
theorem tk41_2 : tstTo 135 272 114 41 160 32 = true := by decide +kernel
theorem tk41_3 : tstTo 135 272 114 41 112 48 = true := by decide +kernel
theorem tk41_4 : tstTo 135 272 114 41 0 112 = true := by decide +kernel
theorem tj41 : ∀ d, 1 ≤ d → d ≤ 256 → tst 135 272 114 41 d = true := fun d h1 h2 => by
  rcases Nat.lt_or_ge 224 d with h | h
  · exact tstTo_mem 32 tk41_0 d h (by omega)
  rcases Nat.lt_or_ge 192 d with h | h
  · exact tstTo_mem 32 tk41_1 d h (by omega)
  rcases Nat.lt_or_ge 160 d with h | h
  · exact tstTo_mem 32 tk41_2 d h (by omega)
  rcases Nat.lt_or_ge 112 d with h | h
  · exact tstTo_mem 48 tk41_3 d h (by omega)
  exact tstTo_mem 112 tk41_4 d (by omega) (by omega)
theorem tk42_0 : tstTo 135 272 116 42 224 32 = true := by decide +kernel
theorem tk42_1 : tstTo 135 272 116 42 192 32 = true := by decide +kernel
theorem tk42_2 : tstTo 135 272 116 42 160 32 = true := by decide +kernel
theorem tk42_3 : tstTo 135 272 116 42 112 48 = true := by decide +kernel
theorem tk42_4 : tstTo 135 272 116 42 0 112 = true := by decide +kernel
theorem tj42 : ∀ d, 1 ≤ d → d ≤ 256 → tst 135 272 116 42 d = true := fun d h1 h2 => by
  rcases Nat.lt_or_ge 224 d with h | h
  · exact tstTo_mem 32 tk42_0 d h (by omega)
  rcases Nat.lt_or_ge 192 d with h | h
  · exact tstTo_mem 32 tk42_1 d h (by omega)
  rcases Nat.lt_or_ge 160 d with h | h
  · exact tstTo_mem 32 tk42_2 d h (by omega)
  rcases Nat.lt_or_ge 112 d with h | h
  · exact tstTo_mem 48 tk42_3 d h (by omega)
  exact tstTo_mem 112 tk42_4 d (by omega) (by omega)
theorem tk43_0 : tstTo 135 272 118 43 224 32 = true := by decide +kernel
theorem tk43_1 : tstTo 135 272 118 43 192 32 = true := by decide +kernel
theorem tk43_2 : tstTo 135 272 118 43 160 32 = true := by decide +kernel
theorem tk43_3 : tstTo 135 272 118 43 112 48 = true := by decide +kernel
theorem tk43_4 : tstTo 135 272 118 43 0 112 = true := by decide +kernel
theorem tj43 : ∀ d, 1 ≤ d → d ≤ 256 → tst 135 272 118 43 d = true := fun d h1 h2 => by
  rcases Nat.lt_or_ge 224 d with h | h
  · exact tstTo_mem 32 tk43_0 d h (by omega)
  rcases Nat.lt_or_ge 192 d with h | h
  · exact tstTo_mem 32 tk43_1 d h (by omega)
  rcases Nat.lt_or_ge 160 d with h | h
  · exact tstTo_mem 32 tk43_2 d h (by omega)
  rcases Nat.lt_or_ge 112 d with h | h
  · exact tstTo_mem 48 tk43_3 d h (by omega)
  exact tstTo_mem 112 tk43_4 d (by omega) (by omega)
theorem tk44_0 : tstTo 135 272 119 44 224 32 = true := by decide +kernel
theorem tk44_1 : tstTo 135 272 119 44 192 32 = true := by decide +kernel
theorem tk44_2 : tstTo 135 272 119 44 160 32 = true := by decide +kernel
theorem tk44_3 : tstTo 135 272 119 44 112 48 = true := by decide +kernel
theorem tk44_4 : tstTo 135 272 119 44 0 112 = true := by decide +kernel
theorem tj44 : ∀ d, 1 ≤ d → d ≤ 256 → tst 135 272 119 44 d = true := fun d h1 h2 => by
  rcases Nat.lt_or_ge 224 d with h | h
  · exact tstTo_mem 32 tk44_0 d h (by omega)
  rcases Nat.lt_or_ge 192 d with h | h
  · exact tstTo_mem 32 tk44_1 d h (by omega)
  rcases Nat.lt_or_ge 160 d with h | h
  · exact tstTo_mem 32 tk44_2 d h (by omega)
  rcases Nat.lt_or_ge 112 d with h | h
  · exact tstTo_mem 48 tk44_3 d h (by omega)
  exact tstTo_mem 112 tk44_4 d (by omega) (by omega)
theorem tk45_0 : tstTo 135 272 121 45 224 32 = true := by decide +kernel
theorem tk45_1 : tstTo 135 272 121 45 192 32 = true := by decide +kernel
theorem tk45_2 : tstTo 135 272 121 45 160 32 = true := by decide +kernel
theorem tk45_3 : tstTo 135 272 121 45 112 48 = true := by decide +kernel
theorem tk45_4 : tstTo 135 272 121 45 0 112 = true := by decide +kernel
theorem tj45 : ∀ d, 1 ≤ d → d ≤ 256 → tst 135 272 121 45 d = true := fun d h1 h2 => by
  rcases Nat.lt_or_ge 224 d with h | h
  · exact tstTo_mem 32 tk45_0 d h (by omega)
  rcases Nat.lt_or_ge 192 d with h | h
  · exact tstTo_mem 32 tk45_1 d h (by omega)
  rcases Nat.lt_or_ge 160 d with h | h
  · exact tstTo_mem 32 tk45_2 d h (by omega)
  rcases Nat.lt_or_ge 112 d with h | h
  · exact tstTo_mem 48 tk45_3 d h (by omega)
  exact tstTo_mem 112 tk45_4 d (by omega) (by omega)
theorem tk46_0 : tstTo 135 272 123 46 224 32 = true := by decide +kernel
theorem tk46_1 : tstTo 135 272 123 46 192 32 = true := by decide +kernel
theorem tk46_2 : tstTo 135 272 123 46 160 32 = true := by decide +kernel
theorem tk46_3 : tstTo 135 272 123 46 112 48 = true := by decide +kernel
theorem tk46_4 : tstTo 135 272 123 46 0 112 = true := by decide +kernel
theorem tj46 : ∀ d, 1 ≤ d → d ≤ 256 → tst 135 272 123 46 d = true := fun d h1 h2 => by
  rcases Nat.lt_or_ge 224 d with h | h
  · exact tstTo_mem 32 tk46_0 d h (by omega)
  rcases Nat.lt_or_ge 192 d with h | h
  · exact tstTo_mem 32 tk46_1 d h (by omega)
  rcases Nat.lt_or_ge 160 d with h | h
  · exact tstTo_mem 32 tk46_2 d h (by omega)
  rcases Nat.lt_or_ge 112 d with h | h
  · exact tstTo_mem 48 tk46_3 d h (by omega)
  exact tstTo_mem 112 tk46_4 d (by omega) (by omega)
theorem tk47_0 : tstTo 135 272 124 47 224 32 = true := by decide +kernel
theorem tk47_1 : tstTo 135 272 124 47 192 32 = true := by decide +kernel
theorem tk47_2 : tstTo 135 272 124 47 160 32 = true := by decide +kernel
theorem tk47_3 : tstTo 135 272 124 47 112 48 = true := by decide +kernel
theorem tk47_4 : tstTo 135 272 124 47 0 112 = true := by decide +kernel
theorem tj47 : ∀ d, 1 ≤ d → d ≤ 256 → tst 135 272 124 47 d = true := fun d h1 h2 => by
  rcases Nat.lt_or_ge 224 d with h | h
  · exact tstTo_mem 32 tk47_0 d h (by omega)
  rcases Nat.lt_or_ge 192 d with h | h
  · exact tstTo_mem 32 tk47_1 d h (by omega)
  rcases Nat.lt_or_ge 160 d with h | h
  · exact tstTo_mem 32 tk47_2 d h (by omega)
  rcases Nat.lt_or_ge 112 d with h | h
  · exact tstTo_mem 48 tk47_3 d h (by omega)
  exact tstTo_mem 112 tk47_4 d (by omega) (by omega)
end Go.Proofs.Ytnmomigaedfdoaa
