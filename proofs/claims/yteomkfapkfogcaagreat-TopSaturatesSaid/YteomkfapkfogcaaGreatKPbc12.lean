/- Parts of the proof, laid together. No condition. -/
import Derived.Test.YteomkfapkfogcaaGreatKB5
set_option linter.unusedVariables false
set_option linter.unusedSimpArgs false
namespace Go.Proofs.YteomkfapkfogcaaGreat
set_option maxRecDepth 100000
theorem goFc1200 : stepX Tryz.prog typesX funcsX [((6, 1), 0)] memoX esc3 [round3] stEc120 stFc12 = true := by kernel_rfl
theorem goFc1201 : stepX Tryz.prog typesX funcsX [((6, 1), 1)] memoX esc3 [round3] stEc120 stFc12 = true := by kernel_rfl
theorem goFc1210 : stepX Tryz.prog typesX funcsX [((6, 1), 0)] memoX esc3 [round3] stEc121 stFc12 = true := by kernel_rfl
theorem goFc1211 : stepX Tryz.prog typesX funcsX [((6, 1), 1)] memoX esc3 [round3] stEc121 stFc12 = true := by kernel_rfl
end Go.Proofs.YteomkfapkfogcaaGreat
