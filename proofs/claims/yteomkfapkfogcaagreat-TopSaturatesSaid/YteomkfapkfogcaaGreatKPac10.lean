/- Parts of the proof, laid together. No condition. -/
import Derived.Test.YteomkfapkfogcaaGreatKB5
set_option linter.unusedVariables false
set_option linter.unusedSimpArgs false
namespace Go.Proofs.YteomkfapkfogcaaGreat
set_option maxRecDepth 100000
theorem goCc10 : stepX Tryz.prog typesX funcsX [] memoX esc3 codeC stBc10 stCc10 = true := by kernel_rfl
theorem goEc100 : stepX Tryz.prog typesX funcsX [((5, 1), 0)] memoX esc3 [round3] stDc10 stEc100 = true := by kernel_rfl
theorem goEc101 : stepX Tryz.prog typesX funcsX [((5, 1), 1)] memoX esc3 [round3] stDc10 stEc101 = true := by kernel_rfl
end Go.Proofs.YteomkfapkfogcaaGreat
