/- Parts of the proof, laid together. No condition. -/
import Derived.Test.YteomkfapkfogcaaGreatKB5
set_option linter.unusedVariables false
set_option linter.unusedSimpArgs false
namespace Go.Proofs.YteomkfapkfogcaaGreat
set_option maxRecDepth 100000
theorem goCc11 : stepX Tryz.prog typesX funcsX [] memoX esc3 codeC stBc11 stCc11 = true := by kernel_rfl
theorem goEc110 : stepX Tryz.prog typesX funcsX [((5, 1), 0)] memoX esc3 [round3] stDc11 stEc110 = true := by kernel_rfl
theorem goEc111 : stepX Tryz.prog typesX funcsX [((5, 1), 1)] memoX esc3 [round3] stDc11 stEc111 = true := by kernel_rfl
end Go.Proofs.YteomkfapkfogcaaGreat
