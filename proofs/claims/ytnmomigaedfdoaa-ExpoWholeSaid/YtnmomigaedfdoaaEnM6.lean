/- Checked by the kernel for x in (48, 56], denominators up to 256: no sum and no weight has digits 65 to 112 that are all alike. No program in sight. -/
import Derived.Test.YtnmomigaedfdoaaEnQ
namespace Go.Proofs.Ytnmomigaedfdoaa
set_option maxRecDepth 100000

theorem tk48_0 : tstTo 135 272 126 48 224 32 = true := by decide +kernel
theorem tk48_1 : tstTo 135 272 126 48 192 32 = true := by decide +kernel
theorem tk48_2 : tstTo 135 272 126 48 160 32 = true := by decide +kernel
theorem tk48_3 : tstTo 135 272 126 48 112 48 = true := by decide +kernel
theorem tk48_4 : tstTo 135 272 126 48 0 112 = true := by decide +kernel
theorem tj48 : ∀ d, 1 ≤ d → d ≤ 256 → tst 135 272 126 48 d = true := fun d h1 h2 => by
  rcases Nat.lt_or_ge 224 d with h | h
  · exact tstTo_mem 32 tk48_0 d h (by omega)
  rcases Nat.lt_or_ge 192 d with h | h
  · exact tstTo_mem 32 tk48_1 d h (by omega)
  rcases Nat.lt_or_ge 160 d with h | h
  · exact tstTo_mem 32 tk48_2 d h (by omega)
  rcases Nat.lt_or_ge 112 d with h | h
  · exact tstTo_mem 48 tk48_3 d h (by omega)
  exact tstTo_mem 112 tk48_4 d (by omega) (by omega)
theorem tk49_0 : tstTo 135 272 128 49 224 32 = true := by decide +kernel
theorem tk49_1 : tstTo 135 272 128 49 192 32 = true := by decide +kernel
theorem tk49_2 : tstTo 135 272 128 49 160 32 = true := by decide +kernel
theorem tk49_3 : tstTo 135 272 128 49 112 48 = true := by decide +kernel
theorem tk49_4 : tstTo 135 272 128 49 0 112 = true := by decide +kernel
theorem tj49 : ∀ d, 1 ≤ d → d ≤ 256 → tst 135 272 128 49 d = true := fun d h1 h2 => by
  rcases Nat.lt_or_ge 224 d with h | h
  · exact tstTo_mem 32 tk49_0 d h (by omega)
  rcases Nat.lt_or_ge 192 d with h | h
  · exact tstTo_mem 32 tk49_1 d h (by omega)
  rcases Nat.lt_or_ge 160 d with h | h
  · exact tstTo_mem 32 tk49_2 d h (by omega)
  rcases Nat.lt_or_ge 112 d with h | h
  · exact tstTo_mem 48 tk49_3 d h (by omega)
  exact tstTo_mem 112 tk49_4 d (by omega) (by omega)
theorem tk50_0 : tstTo 135 272 129 50 224 32 = true := by decide +kernel
theorem tk50_1 : tstTo 135 272 129 50 192 32 = true := by decide +kernel
theorem tk50_2 : tstTo 135 272 129 50 160 32 = true := by decide +kernel
theorem tk50_3 : tstTo 135 272 129 50 112 48 = true := by decide +kernel
theorem tk50_4 : tstTo 135 272 129 50 0 112 = true := by decide +kernel
theorem tj50 : ∀ d, 1 ≤ d → d ≤ 256 → tst 135 272 129 50 d = true := fun d h1 h2 => by
  rcases Nat.lt_or_ge 224 d with h | h
  · exact tstTo_mem 32 tk50_0 d h (by omega)
  rcases Nat.lt_or_ge 192 d with h | h
  · exact tstTo_mem 32 tk50_1 d h (by omega)
  rcases Nat.lt_or_ge 160 d with h | h
  · exact tstTo_mem 32 tk50_2 d h (by omega)
  rcases Nat.lt_or_ge 112 d with h | h
  · exact tstTo_mem 48 tk50_3 d h (by omega)
  exact tstTo_mem 112 tk50_4 d (by omega) (by omega)
theorem tk51_0 : tstTo 135 272 131 51 224 32 = true := by decide +kernel
theorem tk51_1 : tstTo 135 272 131 51 192 32 = true := by decide +kernel
theorem tk51_2 : tstTo 135 272 131 51 160 32 = true := by decide +kernel
theorem tk51_3 : tstTo 135 272 131 51 112 48 = true := by decide +kernel
theorem tk51_4 : tstTo 135 272 131 51 0 112 = true := by decide +kernel
theorem tj51 : ∀ d, 1 ≤ d → d ≤ 256 → tst 135 272 131 51 d = true := fun d h1 h2 => by
  rcases Nat.lt_or_ge 224 d with h | h
  · exact tstTo_mem 32 tk51_0 d h (by omega)
  rcases Nat.lt_or_ge 192 d with h | h
  · exact tstTo_mem 32 tk51_1 d h (by omega)
  rcases Nat.lt_or_ge 160 d with h | h
  · exact tstTo_mem 32 tk51_2 d h (by omega)
  rcases Nat.lt_or_ge 112 d with h | h
  · exact tstTo_mem 48 tk51_3 d h (by omega)
  exact tstTo_mem 112 tk51_4 d (by omega) (by omega)
theorem tk52_0 : tstTo 135 272 133 52 224 32 = true := by decide +kernel
theorem tk52_1 : tstTo 135 272 133 52 192 32 = true := by decide +kernel
theorem tk52_2 : tstTo 135 272 133 52 160 32 = true := by decide +kernel
theorem tk52_3 : tstTo 135 272 133 52 112 48 = true := by decide +kernel
theorem tk52_4 : tstTo 135 272 133 52 0 112 = true := by decide +kernel
theorem tj52 : ∀ d, 1 ≤ d → d ≤ 256 → tst 135 272 133 52 d = true := fun d h1 h2 => by
  rcases Nat.lt_or_ge 224 d with h | h
  · exact tstTo_mem 32 tk52_0 d h (by omega)
  rcases Nat.lt_or_ge 192 d with h | h
  · exact tstTo_mem 32 tk52_1 d h (by omega)
  rcases Nat.lt_or_ge 160 d with h | h
  · exact tstTo_mem 32 tk52_2 d h (by omega)
  rcases Nat.lt_or_ge 112 d with h | h
  · exact tstTo_mem 48 tk52_3 d h (by omega)
  exact tstTo_mem 112 tk52_4 d (by omega) (by omega)
theorem tk53_0 : tstTo 135 272 134 53 224 32 = true := by decide +kernel
theorem tk53_1 : tstTo 135 272 134 53 192 32 = true := by decide +kernel
theorem tk53_2 : tstTo 135 272 134 53 160 32 = true := by decide +kernel
theorem tk53_3 : tstTo 135 272 134 53 112 48 = true := by decide +kernel
theorem tk53_4 : tstTo 135 272 134 53 0 112 = true := by decide +kernel
theorem tj53 : ∀ d, 1 ≤ d → d ≤ 256 → tst 135 272 134 53 d = true := fun d h1 h2 => by
  rcases Nat.lt_or_ge 224 d with h | h
  · exact tstTo_mem 32 tk53_0 d h (by omega)
  rcases Nat.lt_or_ge 192 d with h | h
  · exact tstTo_mem 32 tk53_1 d h (by omega)
  rcases Nat.lt_or_ge 160 d with h | h
  · exact tstTo_mem 32 tk53_2 d h (by omega)
  rcases Nat.lt_or_ge 112 d with h | h
  · exact tstTo_mem 48 tk53_3 d h (by omega)
  exact tstTo_mem 112 tk53_4 d (by omega) (by omega)
theorem tk54_0 : tstTo 135 272 136 54 224 32 = true := by decide +kernel
theorem tk54_1 : tstTo 135 272 136 54 192 32 = true := by decide +kernel
theorem tk54_2 : tstTo 135 272 136 54 160 32 = true := by decide +kernel
theorem tk54_3 : tstTo 135 272 136 54 112 48 = true := by decide +kernel
theorem tk54_4 : tstTo 135 272 136 54 0 112 = true := by decide +kernel
theorem tj54 : ∀ d, 1 ≤ d → d ≤ 256 → tst 135 272 136 54 d = true := fun d h1 h2 => by
  rcases Nat.lt_or_ge 224 d with h | h
  · exact tstTo_mem 32 tk54_0 d h (by omega)
  rcases Nat.lt_or_ge 192 d with h | h
  · exact tstTo_mem 32 tk54_1 d h (by omega)
  rcases Nat.lt_or_ge 160 d with h | h
  · exact tstTo_mem 32 tk54_2 d h (by omega)
  rcases Nat.lt_or_ge 112 d with h | h
  · exact tstTo_mem 48 tk54_3 d h (by omega)
  exact tstTo_mem 112 tk54_4 d (by omega) (by omega)
theorem tk55_0 : tstTo 135 272 137 55 224 32 = true := by decide +kernel
theorem tk55_1 : tstTo 135 272 137 55 192 32 = true := by decide +kernel
theorem tk55_2 : tstTo 135 272 137 55 160 32 = true := by decide +kernel
theorem tk55_3 : tstTo 135 272 137 55 112 48 = true := by decide +kernel
theorem tk55_4 : tstTo 135 272 137 55 0 112 = true := by decide +kernel
theorem tj55 : ∀ d, 1 ≤ d → d ≤ 256 → tst 135 272 137 55 d = true := fun d h1 h2 => by
  rcases Nat.lt_or_ge 224 d with h | h
  · exact tstTo_mem 32 tk55_0 d h (by omega)
  rcases Nat.lt_or_ge 192 d with h | h
  · exact tstTo_mem 32 tk55_1 d h (by omega)
  rcases Nat.lt_or_ge 160 d with h | h
  · exact tstTo_mem 32 tk55_2 d h (by omega)
  rcases Nat.lt_or_ge 112 d with h | h
  · exact tstTo_mem 48 tk55_3 d h (by omega)
  exact tstTo_mem 112 tk55_4 d (by omega) (by omega)
end Go.Proofs.Ytnmomigaedfdoaa
