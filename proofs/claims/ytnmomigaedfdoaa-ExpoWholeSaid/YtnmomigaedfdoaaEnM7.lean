/- Checked by the kernel for x in (56, 64], denominators up to 256: no sum and no weight has digits 65 to 112 that are all alike. No program in sight. -/
import Derived.Test.YtnmomigaedfdoaaEnQ
namespace Go.Proofs.Ytnmomigaedfdoaa
set_option maxRecDepth 100000

theorem tk56_0 : tstTo 135 272 139 56 224 32 = true := by decide +kernel
theorem tk56_1 : tstTo 135 272 139 56 192 32 = true := by decide +kernel
theorem tk56_2 : tstTo 135 272 139 56 160 32 = true := by decide +kernel
theorem tk56_3 : tstTo 135 272 139 56 112 48 = true := by decide +kernel
theorem tk56_4 : tstTo 135 272 139 56 0 112 = true := by decide +kernel
theorem tj56 : ∀ d, 1 ≤ d → d ≤ 256 → tst 135 272 139 56 d = true := fun d h1 h2 => by
  rcases Nat.lt_or_ge 224 d with h | h
  · exact tstTo_mem 32 tk56_0 d h (by omega)
  rcases Nat.lt_or_ge 192 d with h | h
  · exact tstTo_mem 32 tk56_1 d h (by omega)
  rcases Nat.lt_or_ge 160 d with h | h
  · exact tstTo_mem 32 tk56_2 d h (by omega)
  rcases Nat.lt_or_ge 112 d with h | h
  · exact tstTo_mem 48 tk56_3 d h (by omega)
  exact tstTo_mem 112 tk56_4 d (by omega) (by omega)
theorem tk57_0 : tstTo 135 272 141 57 224 32 = true := by decide +kernel
theorem tk57_1 : tstTo 135 272 141 57 192 32 = true := by decide +kernel
theorem tk57_2 : tstTo 135 272 141 57 160 32 = true := by decide +kernel
theorem tk57_3 : tstTo 135 272 141 57 112 48 = true := by decide +kernel
theorem tk57_4 : tstTo 135 272 141 57 0 112 = true := by decide +kernel
theorem tj57 : ∀ d, 1 ≤ d → d ≤ 256 → tst 135 272 141 57 d = true := fun d h1 h2 => by
  rcases Nat.lt_or_ge 224 d with h | h
  · exact tstTo_mem 32 tk57_0 d h (by omega)
  rcases Nat.lt_or_ge 192 d with h | h
  · exact tstTo_mem 32 tk57_1 d h (by omega)
  rcases Nat.lt_or_ge 160 d with h | h
  · exact tstTo_mem 32 tk57_2 d h (by omega)
  rcases Nat.lt_or_ge 112 d with h | h
  · exact tstTo_mem 48 tk57_3 d h (by omega)
  exact tstTo_mem 112 tk57_4 d (by omega) (by omega)
theorem tk58_0 : tstTo 135 272 142 58 224 32 = true := by decide +kernel
theorem tk58_1 : tstTo 135 272 142 58 192 32 = true := by decide +kernel
theorem tk58_2 : tstTo 135 272 142 58 160 32 = true := by decide +kernel
theorem tk58_3 : tstTo 135 272 142 58 112 48 = true := by decide +kernel
theorem tk58_4 : tstTo 135 272 142 58 0 112 = true := by decide +kernel
theorem tj58 : ∀ d, 1 ≤ d → d ≤ 256 → tst 135 272 142 58 d = true := fun d h1 h2 => by
  rcases Nat.lt_or_ge 224 d with h | h
  · exact tstTo_mem 32 tk58_0 d h (by omega)
  rcases Nat.lt_or_ge 192 d with h | h
  · exact tstTo_mem 32 tk58_1 d h (by omega)
  rcases Nat.lt_or_ge 160 d with h | h
  · exact tstTo_mem 32 tk58_2 d h (by omega)
  rcases Nat.lt_or_ge 112 d with h | h
  · exact tstTo_mem 48 tk58_3 d h (by omega)
  exact tstTo_mem 112 tk58_4 d (by omega) (by omega)
theorem tk59_0 : tstTo 135 272 144 59 224 32 = true := by decide +kernel
theorem tk59_1 : tstTo 135 272 144 59 192 32 = true := by decide +kernel
theorem tk59_2 : tstTo 135 272 144 59 160 32 = true := by decide +kernel
theorem tk59_3 : tstTo 135 272 144 59 112 48 = true := by decide +kernel
theorem tk59_4 : tstTo 135 272 144 59 0 112 = true := by decide +kernel
theorem tj59 : ∀ d, 1 ≤ d → d ≤ 256 → tst 135 272 144 59 d = true := fun d h1 h2 => by
  rcases Nat.lt_or_ge 224 d with h | h
  · exact tstTo_mem 32 tk59_0 d h (by omega)
  rcases Nat.lt_or_ge 192 d with h | h
  · exact tstTo_mem 32 tk59_1 d h (by omega)
  rcases Nat.lt_or_ge 160 d with h | h
  · exact tstTo_mem 32 tk59_2 d h (by omega)
  rcases Nat.lt_or_ge 112 d with h | h
  · exact tstTo_mem 48 tk59_3 d h (by omega)
  exact tstTo_mem 112 tk59_4 d (by omega) (by omega)
theorem tk60_0 : tstTo 135 272 145 60 224 32 = true := by decide +kernel
theorem tk60_1 : tstTo 135 272 145 60 192 32 = true := by decide +kernel
theorem tk60_2 : tstTo 135 272 145 60 160 32 = true := by decide +kernel
theorem tk60_3 : tstTo 135 272 145 60 112 48 = true := by decide +kernel
theorem tk60_4 : tstTo 135 272 145 60 0 112 = true := by decide +kernel
theorem tj60 : ∀ d, 1 ≤ d → d ≤ 256 → tst 135 272 145 60 d = true := fun d h1 h2 => by
  rcases Nat.lt_or_ge 224 d with h | h
  · exact tstTo_mem 32 tk60_0 d h (by omega)
  rcases Nat.lt_or_ge 192 d with h | h
  · exact tstTo_mem 32 tk60_1 d h (by omega)
  rcases Nat.lt_or_ge 160 d with h | h
  · exact tstTo_mem 32 tk60_2 d h (by omega)
  rcases Nat.lt_or_ge 112 d with h | h
  · exact tstTo_mem 48 tk60_3 d h (by omega)
  exact tstTo_mem 112 tk60_4 d (by omega) (by omega)
theorem tk61_0 : tstTo 135 272 147 61 224 32 = true := by decide +kernel
theorem tk61_1 : tstTo 135 272 147 61 192 32 = true := by decide +kernel
theorem tk61_2 : tstTo 135 272 147 61 160 32 = true := by decide +kernel
theorem tk61_3 : tstTo 135 272 147 61 112 48 = true := by decide +kernel
theorem tk61_4 : tstTo 135 272 147 61 0 112 = true := by decide +kernel
theorem tj61 : ∀ d, 1 ≤ d → d ≤ 256 → tst 135 272 147 61 d = true := fun d h1 h2 => by
  rcases Nat.lt_or_ge 224 d with h | h
  · exact tstTo_mem 32 tk61_0 d h (by omega)
  rcases Nat.lt_or_ge 192 d with h | h
  · exact tstTo_mem 32 tk61_1 d h (by omega)
  rcases Nat.lt_or_ge 160 d with h | h
  · exact tstTo_mem 32 tk61_2 d h (by omega)
  rcases Nat.lt_or_ge 112 d with h | h
  · exact tstTo_mem 48 tk61_3 d h (by omega)
  exact tstTo_mem 112 tk61_4 d (by omega) (by omega)
theorem tk62_0 : tstTo 135 272 149 62 224 32 = true := by decide +kernel
theorem tk62_1 : tstTo 135 272 149 62 192 32 = true := by decide +kernel
theorem tk62_2 : tstTo 135 272 149 62 160 32 = true := by decide +kernel
theorem tk62_3 : tstTo 135 272 149 62 112 48 = true := by decide +kernel
theorem tk62_4 : tstTo 135 272 149 62 0 112 = true := by decide +kernel
theorem tj62 : ∀ d, 1 ≤ d → d ≤ 256 → tst 135 272 149 62 d = true := fun d h1 h2 => by
  rcases Nat.lt_or_ge 224 d with h | h
  · exact tstTo_mem 32 tk62_0 d h (by omega)
  rcases Nat.lt_or_ge 192 d with h | h
  · exact tstTo_mem 32 tk62_1 d h (by omega)
  rcases Nat.lt_or_ge 160 d with h | h
  · exact tstTo_mem 32 tk62_2 d h (by omega)
  rcases Nat.lt_or_ge 112 d with h | h
  · exact tstTo_mem 48 tk62_3 d h (by omega)
  exact tstTo_mem 112 tk62_4 d (by omega) (by omega)
theorem tk63_0 : tstTo 135 272 150 63 224 32 = true := by decide +kernel
theorem tk63_1 : tstTo 135 272 150 63 192 32 = true := by decide +kernel
theorem tk63_2 : tstTo 135 272 150 63 160 32 = true := by decide +kernel
theorem tk63_3 : tstTo 135 272 150 63 112 48 = true := by decide +kernel
theorem tk63_4 : tstTo 135 272 150 63 0 112 = true := by decide +kernel
theorem tj63 : ∀ d, 1 ≤ d → d ≤ 256 → tst 135 272 150 63 d = true := fun d h1 h2 => by
  rcases Nat.lt_or_ge 224 d with h | h
  · exact tstTo_mem 32 tk63_0 d h (by omega)
  rcases Nat.lt_or_ge 192 d with h | h
  · exact tstTo_mem 32 tk63_1 d h (by omega)
  rcases Nat.lt_or_ge 160 d with h | h
  · exact tstTo_mem 32 tk63_2 d h (by omega)
  rcases Nat.lt_or_ge 112 d with h | h
  · exact tstTo_mem 48 tk63_3 d h (by omega)
  exact tstTo_mem 112 tk63_4 d (by omega) (by omega)
end Go.Proofs.Ytnmomigaedfdoaa
