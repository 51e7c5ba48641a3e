/- Parts of the proof, laid together. No condition. -/
import Derived.Test.YteomkfapkfogcaaGreatKB5
set_option linter.unusedVariables false
set_option linter.unusedSimpArgs false
namespace Go.Proofs.YteomkfapkfogcaaGreat
set_option maxRecDepth 100000
theorem goFc0100 : stepX Tryz.prog typesX funcsX [((6, 1), 0)] memoX esc3 [round3] stEc010 stFc01 = true := by kernel_rfl
theorem goFc0101 : stepX Tryz.prog typesX funcsX [((6, 1), 1)] memoX esc3 [round3] stEc010 stFc01 = true := by kernel_rfl
theorem goFc0110 : stepX Tryz.prog typesX funcsX [((6, 1), 0)] memoX esc3 [round3] stEc011 stFc01 = true := by kernel_rfl
theorem goFc0111 : stepX Tryz.prog typesX funcsX [((6, 1), 1)] memoX esc3 [round3] stEc011 stFc01 = true := by kernel_rfl
end Go.Proofs.YteomkfapkfogcaaGreat
