/- Parts of the proof, laid together. No condition. -/
import Derived.Test.YteomkfapkfogcaaGreatKB5
set_option linter.unusedVariables false
set_option linter.unusedSimpArgs false
namespace Go.Proofs.YteomkfapkfogcaaGreat
set_option maxRecDepth 100000
theorem goGc110 : stepX Tryz.prog typesX funcsX [((7, 1), 0)] memoX esc3 [round3] stFc11 stX = true := by kernel_rfl
theorem goGc111 : stepX Tryz.prog typesX funcsX [((7, 1), 1)] memoX esc3 [round3] stFc11 stX = true := by kernel_rfl
end Go.Proofs.YteomkfapkfogcaaGreat
