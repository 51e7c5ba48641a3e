/- Parts of the proof, laid together. No condition. -/
import Derived.Test.YteomkfapkfogcaaGreatKB5
set_option linter.unusedVariables false
set_option linter.unusedSimpArgs false
namespace Go.Proofs.YteomkfapkfogcaaGreat
set_option maxRecDepth 100000
theorem goFc1300 : stepX Tryz.prog typesX funcsX [((6, 1), 0)] memoX esc3 [round3] stEc130 stFc13 = true := by kernel_rfl
theorem goFc1301 : stepX Tryz.prog typesX funcsX [((6, 1), 1)] memoX esc3 [round3] stEc130 stFc13 = true := by kernel_rfl
theorem goFc1310 : stepX Tryz.prog typesX funcsX [((6, 1), 0)] memoX esc3 [round3] stEc131 stFc13 = true := by kernel_rfl
theorem goFc1311 : stepX Tryz.prog typesX funcsX [((6, 1), 1)] memoX esc3 [round3] stEc131 stFc13 = true := by kernel_rfl
end Go.Proofs.YteomkfapkfogcaaGreat
