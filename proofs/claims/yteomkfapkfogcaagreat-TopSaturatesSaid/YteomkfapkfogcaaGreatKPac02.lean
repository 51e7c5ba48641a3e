/- Parts of the proof, laid together. No condition. -/
import Derived.Test.YteomkfapkfogcaaGreatKB5
set_option linter.unusedVariables false
set_option linter.unusedSimpArgs false
namespace Go.Proofs.YteomkfapkfogcaaGreat
set_option maxRecDepth 100000
theorem goCc02 : stepX Tryz.prog typesX funcsX [] memoX esc3 codeC stBc02 stCc02 = true := by kernel_rfl
theorem goEc020 : stepX Tryz.prog typesX funcsX [((5, 1), 0)] memoX esc3 [round3] stDc02 stEc020 = true := by kernel_rfl
theorem goEc021 : stepX Tryz.prog typesX funcsX [((5, 1), 1)] memoX esc3 [round3] stDc02 stEc021 = true := by kernel_rfl
end Go.Proofs.YteomkfapkfogcaaGreat
