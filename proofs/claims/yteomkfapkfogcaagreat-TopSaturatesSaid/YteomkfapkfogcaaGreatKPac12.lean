/- Parts of the proof, laid together. No condition. -/
import Derived.Test.YteomkfapkfogcaaGreatKB5
set_option linter.unusedVariables false
set_option linter.unusedSimpArgs false
namespace Go.Proofs.YteomkfapkfogcaaGreat
set_option maxRecDepth 100000
theorem goCc12 : stepX Tryz.prog typesX funcsX [] memoX esc3 codeC stBc12 stCc12 = true := by kernel_rfl
theorem goEc120 : stepX Tryz.prog typesX funcsX [((5, 1), 0)] memoX esc3 [round3] stDc12 stEc120 = true := by kernel_rfl
theorem goEc121 : stepX Tryz.prog typesX funcsX [((5, 1), 1)] memoX esc3 [round3] stDc12 stEc121 = true := by kernel_rfl
end Go.Proofs.YteomkfapkfogcaaGreat
