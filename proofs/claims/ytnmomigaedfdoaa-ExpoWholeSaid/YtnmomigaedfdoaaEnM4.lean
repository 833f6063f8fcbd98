/- Checked by the kernel for x in (32, 40], denominators up to 256: no sum and no weight has digits 65 to 112 that are all alike. No program in sight. -/
import Derived.Test.YtnmomigaedfdoaaEnQ
namespace Go.Proofs.Ytnmomigaedfdoaa
set_option maxRecDepth 100000

theorem tk32_0 : tstTo 135 272 98 32 200 56 = true := by decide +kernel
theorem tk32_1 : tstTo 135 272 98 32 136 64 = true := by decide +kernel
theorem tk32_2 : tstTo 135 272 98 32 0 136 = true := by decide +kernel
theorem tj32 : ∀ d, 1 ≤ d → d ≤ 256 → tst 135 272 98 32 d = true := fun d h1 h2 => by
  rcases Nat.lt_or_ge 200 d with h | h
  · exact tstTo_mem 56 tk32_0 d h (by omega)
  rcases Nat.lt_or_ge 136 d with h | h
  · exact tstTo_mem 64 tk32_1 d h (by omega)
  exact tstTo_mem 136 tk32_2 d (by omega) (by omega)
theorem tk33_0 : tstTo 135 272 100 33 200 56 = true := by decide +kernel
theorem tk33_1 : tstTo 135 272 100 33 136 64 = true := by decide +kernel
theorem tk33_2 : tstTo 135 272 100 33 0 136 = true := by decide +kernel
theorem tj33 : ∀ d, 1 ≤ d → d ≤ 256 → tst 135 272 100 33 d = true := fun d h1 h2 => by
  rcases Nat.lt_or_ge 200 d with h | h
  · exact tstTo_mem 56 tk33_0 d h (by omega)
  rcases Nat.lt_or_ge 136 d with h | h
  · exact tstTo_mem 64 tk33_1 d h (by omega)
  exact tstTo_mem 136 tk33_2 d (by omega) (by omega)
theorem tk34_0 : tstTo 135 272 102 34 200 56 = true := by decide +kernel
theorem tk34_1 : tstTo 135 272 102 34 136 64 = true := by decide +kernel
theorem tk34_2 : tstTo 135 272 102 34 0 136 = true := by decide +kernel
theorem tj34 : ∀ d, 1 ≤ d → d ≤ 256 → tst 135 272 102 34 d = true := fun d h1 h2 => by
  rcases Nat.lt_or_ge 200 d with h | h
  · exact tstTo_mem 56 tk34_0 d h (by omega)
  rcases Nat.lt_or_ge 136 d with h | h
  · exact tstTo_mem 64 tk34_1 d h (by omega)
  exact tstTo_mem 136 tk34_2 d (by omega) (by omega)
theorem tk35_0 : tstTo 135 272 104 35 200 56 = true := by decide +kernel
theorem tk35_1 : tstTo 135 272 104 35 136 64 = true := by decide +kernel
theorem tk35_2 : tstTo 135 272 104 35 0 136 = true := by decide +kernel
theorem tj35 : ∀ d, 1 ≤ d → d ≤ 256 → tst 135 272 104 35 d = true := fun d h1 h2 => by
  rcases Nat.lt_or_ge 200 d with h | h
  · exact tstTo_mem 56 tk35_0 d h (by omega)
  rcases Nat.lt_or_ge 136 d with h | h
  · exact tstTo_mem 64 tk35_1 d h (by omega)
  exact tstTo_mem 136 tk35_2 d (by omega) (by omega)
theorem tk36_0 : tstTo 135 272 106 36 200 56 = true := by decide +kernel
theorem tk36_1 : tstTo 135 272 106 36 136 64 = true := by decide +kernel
theorem tk36_2 : tstTo 135 272 106 36 0 136 = true := by decide +kernel
theorem tj36 : ∀ d, 1 ≤ d → d ≤ 256 → tst 135 272 106 36 d = true := fun d h1 h2 => by
  rcases Nat.lt_or_ge 200 d with h | h
  · exact tstTo_mem 56 tk36_0 d h (by omega)
  rcases Nat.lt_or_ge 136 d with h | h
  · exact tstTo_mem 64 tk36_1 d h (by omega)
  exact tstTo_mem 136 tk36_2 d (by omega) (by omega)
theorem tk37_0 : tstTo 135 272 107 37 200 56 = true := by decide +kernel
theorem tk37_1 : tstTo 135 272 107 37 136 64 = true := by decide +kernel
theorem tk37_2 : tstTo 135 272 107 37 0 136 = true := by decide +kernel
theorem tj37 : ∀ d, 1 ≤ d → d ≤ 256 → tst 135 272 107 37 d = true := fun d h1 h2 => by
  rcases Nat.lt_or_ge 200 d with h | h
  · exact tstTo_mem 56 tk37_0 d h (by omega)
  rcases Nat.lt_or_ge 136 d with h | h
  · exact tstTo_mem 64 tk37_1 d h (by omega)
  exact tstTo_mem 136 tk37_2 d (by omega) (by omega)
theorem tk38_0 : tstTo 135 272 109 38 200 56 = true := by decide +kernel
theorem tk38_1 : tstTo 135 272 109 38 136 64 = true := by decide +kernel
theorem tk38_2 : tstTo 135 272 109 38 0 136 = true := by decide +kernel
theorem tj38 : ∀ d, 1 ≤ d → d ≤ 256 → tst 135 272 109 38 d = true := fun d h1 h2 => by
  rcases Nat.lt_or_ge 200 d with h | h
  · exact tstTo_mem 56 tk38_0 d h (by omega)
  rcases Nat.lt_or_ge 136 d with h | h
  · exact tstTo_mem 64 tk38_1 d h (by omega)
  exact tstTo_mem 136 tk38_2 d (by omega) (by omega)
theorem tk39_0 : tstTo 135 272 111 39 224 32 = true := by decide +kernel
theorem tk39_1 : tstTo 135 272 111 39 192 32 = true := by decide +kernel
theorem tk39_2 : tstTo 135 272 111 39 160 32 = true := by decide +kernel
theorem tk39_3 : tstTo 135 272 111 39 112 48 = true := by decide +kernel
theorem tk39_4 : tstTo 135 272 111 39 0 112 = true := by decide +kernel
theorem tj39 : ∀ d, 1 ≤ d → d ≤ 256 → tst 135 272 111 39 d = true := fun d h1 h2 => by
  rcases Nat.lt_or_ge 224 d with h | h
  · exact tstTo_mem 32 tk39_0 d h (by omega)
  rcases Nat.lt_or_ge 192 d with h | h
  · exact tstTo_mem 32 tk39_1 d h (by omega)
  rcases Nat.lt_or_ge 160 d with h | h
  · exact tstTo_mem 32 tk39_2 d h (by omega)
  rcases Nat.lt_or_ge 112 d with h | h
  · exact tstTo_mem 48 tk39_3 d h (by omega)
  exact tstTo_mem 112 tk39_4 d (by omega) (by omega)
end Go.Proofs.Ytnmomigaedfdoaa
