/- Parts of the proof, laid together. No condition. -/
import Derived.Test.YteomkfapkfogcaaGreatKB5
set_option linter.unusedVariables false
set_option linter.unusedSimpArgs false
namespace Go.Proofs.YteomkfapkfogcaaGreat
set_option maxRecDepth 100000
theorem goFc1000 : stepX Tryz.prog typesX funcsX [((6, 1), 0)] memoX esc3 [round3] stEc100 stFc10 = true := by kernel_rfl
theorem goFc1001 : stepX Tryz.prog typesX funcsX [((6, 1), 1)] memoX esc3 [round3] stEc100 stFc10 = true := by kernel_rfl
theorem goFc1010 : stepX Tryz.prog typesX funcsX [((6, 1), 0)] memoX esc3 [round3] stEc101 stFc10 = true := by kernel_rfl
theorem goFc1011 : stepX Tryz.prog typesX funcsX [((6, 1), 1)] memoX esc3 [round3] stEc101 stFc10 = true := by kernel_rfl
end Go.Proofs.YteomkfapkfogcaaGreat
