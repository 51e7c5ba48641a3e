/- Parts of the proof, laid together. No condition. -/
import Derived.Test.YteomkfapkfogcaaGreatKB5
set_option linter.unusedVariables false
set_option linter.unusedSimpArgs false
namespace Go.Proofs.YteomkfapkfogcaaGreat
set_option maxRecDepth 100000
theorem goCc03 : stepX Tryz.prog typesX funcsX [] memoX esc3 codeC stBc03 stCc03 = true := by kernel_rfl
theorem goEc030 : stepX Tryz.prog typesX funcsX [((5, 1), 0)] memoX esc3 [round3] stDc03 stEc030 = true := by kernel_rfl
theorem goEc031 : stepX Tryz.prog typesX funcsX [((5, 1), 1)] memoX esc3 [round3] stDc03 stEc031 = true := by kernel_rfl
end Go.Proofs.YteomkfapkfogcaaGreat
