/- Parts of the proof, laid together. No condition. -/
import Derived.Test.YteomkfapkfogcaaGreatKB5
set_option linter.unusedVariables false
set_option linter.unusedSimpArgs false
namespace Go.Proofs.YteomkfapkfogcaaGreat
set_option maxRecDepth 100000
theorem goFt00 : stepX Tryz.prog typesX funcsX [((6, 1), 0)] memoX esc3 [round3] stEt0 stFt = true := by kernel_rfl
theorem goFt01 : stepX Tryz.prog typesX funcsX [((6, 1), 1)] memoX esc3 [round3] stEt0 stFt = true := by kernel_rfl
theorem goFt10 : stepX Tryz.prog typesX funcsX [((6, 1), 0)] memoX esc3 [round3] stEt1 stFt = true := by kernel_rfl
theorem goFt11 : stepX Tryz.prog typesX funcsX [((6, 1), 1)] memoX esc3 [round3] stEt1 stFt = true := by kernel_rfl
end Go.Proofs.YteomkfapkfogcaaGreat
