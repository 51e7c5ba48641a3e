/- Parts of the proof, laid together. No condition. -/
import Derived.Test.YteomkfapkfogcaaGreatKB5
set_option linter.unusedVariables false
set_option linter.unusedSimpArgs false
namespace Go.Proofs.YteomkfapkfogcaaGreat
set_option maxRecDepth 100000
theorem goCt : stepX Tryz.prog typesX funcsX [] memoX esc3 codeC stBt stCt = true := by kernel_rfl
theorem goEt0 : stepX Tryz.prog typesX funcsX [((5, 1), 0)] memoX esc3 [round3] stDt stEt0 = true := by kernel_rfl
theorem goEt1 : stepX Tryz.prog typesX funcsX [((5, 1), 1)] memoX esc3 [round3] stDt stEt1 = true := by kernel_rfl
end Go.Proofs.YteomkfapkfogcaaGreat
