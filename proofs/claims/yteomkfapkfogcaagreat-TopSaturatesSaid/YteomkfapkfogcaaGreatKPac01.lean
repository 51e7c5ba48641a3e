/- Parts of the proof, laid together. No condition. -/
import Derived.Test.YteomkfapkfogcaaGreatKB5
set_option linter.unusedVariables false
set_option linter.unusedSimpArgs false
namespace Go.Proofs.YteomkfapkfogcaaGreat
set_option maxRecDepth 100000
theorem goCc01 : stepX Tryz.prog typesX funcsX [] memoX esc3 codeC stBc01 stCc01 = true := by kernel_rfl
theorem goEc010 : stepX Tryz.prog typesX funcsX [((5, 1), 0)] memoX esc3 [round3] stDc01 stEc010 = true := by kernel_rfl
theorem goEc011 : stepX Tryz.prog typesX funcsX [((5, 1), 1)] memoX esc3 [round3] stDc01 stEc011 = true := by kernel_rfl
end Go.Proofs.YteomkfapkfogcaaGreat
