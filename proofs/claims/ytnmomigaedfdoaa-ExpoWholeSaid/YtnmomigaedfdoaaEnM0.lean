/- Checked by the kernel for x in (0, 8], denominators up to 256: no sum and no weight has digits 65 to 112 that are all alike. No program in sight. -/
import Derived.Test.YtnmomigaedfdoaaEnQ
namespace Go.Proofs.Ytnmomigaedfdoaa
set_option maxRecDepth 100000

theorem tk0_0 : tstTo 135 272 21 0 0 256 = true := by decide +kernel
theorem tj0 : ∀ d, 1 ≤ d → d ≤ 256 → tst 135 272 21 0 d = true := fun d h1 h2 => by
  exact tstTo_mem 256 tk0_0 d (by omega) (by omega)
theorem tk1_0 : tstTo 135 272 26 1 0 256 = true := by decide +kernel
theorem tj1 : ∀ d, 1 ≤ d → d ≤ 256 → tst 135 272 26 1 d = true := fun d h1 h2 => by
  exact tstTo_mem 256 tk1_0 d (by omega) (by omega)
theorem tk2_0 : tstTo 135 272 30 2 0 256 = true := by decide +kernel
theorem tj2 : ∀ d, 1 ≤ d → d ≤ 256 → tst 135 272 30 2 d = true := fun d h1 h2 => by
  exact tstTo_mem 256 tk2_0 d (by omega) (by omega)
theorem tk3_0 : tstTo 135 272 34 3 0 256 = true := by decide +kernel
theorem tj3 : ∀ d, 1 ≤ d → d ≤ 256 → tst 135 272 34 3 d = true := fun d h1 h2 => by
  exact tstTo_mem 256 tk3_0 d (by omega) (by omega)
theorem tk4_0 : tstTo 135 272 37 4 0 256 = true := by decide +kernel
theorem tj4 : ∀ d, 1 ≤ d → d ≤ 256 → tst 135 272 37 4 d = true := fun d h1 h2 => by
  exact tstTo_mem 256 tk4_0 d (by omega) (by omega)
theorem tk5_0 : tstTo 135 272 40 5 0 256 = true := by decide +kernel
theorem tj5 : ∀ d, 1 ≤ d → d ≤ 256 → tst 135 272 40 5 d = true := fun d h1 h2 => by
  exact tstTo_mem 256 tk5_0 d (by omega) (by omega)
theorem tk6_0 : tstTo 135 272 43 6 0 256 = true := by decide +kernel
theorem tj6 : ∀ d, 1 ≤ d → d ≤ 256 → tst 135 272 43 6 d = true := fun d h1 h2 => by
  exact tstTo_mem 256 tk6_0 d (by omega) (by omega)
theorem tk7_0 : tstTo 135 272 46 7 0 256 = true := by decide +kernel
theorem tj7 : ∀ d, 1 ≤ d → d ≤ 256 → tst 135 272 46 7 d = true := fun d h1 h2 => by
  exact tstTo_mem 256 tk7_0 d (by omega) (by omega)
end Go.Proofs.Ytnmomigaedfdoaa
