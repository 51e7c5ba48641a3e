/- Parts of the proof, laid together. No condition. -/
import Derived.Test.YteomkfapkfogcaaGreatKB5
set_option linter.unusedVariables false
set_option linter.unusedSimpArgs false
namespace Go.Proofs.YteomkfapkfogcaaGreat
set_option maxRecDepth 100000
theorem goCc13 : stepX Tryz.prog typesX funcsX [] memoX esc3 codeC stBc13 stCc13 = true := by kernel_rfl
theorem goEc130 : stepX Tryz.prog typesX funcsX [((5, 1), 0)] memoX esc3 [round3] stDc13 stEc130 = true := by kernel_rfl
theorem goEc131 : stepX Tryz.prog typesX funcsX [((5, 1), 1)] memoX esc3 [round3] stDc13 stEc131 = true := by kernel_rfl
end Go.Proofs.YteomkfapkfogcaaGreat
