/- Parts of the proof, laid together. No condition. -/
import Derived.Test.YteomkfapkfogcaaGreatKB5
set_option linter.unusedVariables false
set_option linter.unusedSimpArgs false
namespace Go.Proofs.YteomkfapkfogcaaGreat
set_option maxRecDepth 100000
theorem goCc00 : stepX Tryz.prog typesX funcsX [] memoX esc3 codeC stBc00 stCc00 = true := by kernel_rfl
theorem goEc000 : stepX Tryz.prog typesX funcsX [((5, 1), 0)] memoX esc3 [round3] stDc00 stEc000 = true := by kernel_rfl
theorem goEc001 : stepX Tryz.prog typesX funcsX [((5, 1), 1)] memoX esc3 [round3] stDc00 stEc001 = true := by kernel_rfl
end Go.Proofs.YteomkfapkfogcaaGreat
