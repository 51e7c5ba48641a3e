/- Parts of the proof, laid together. No condition. -/
import Derived.Test.YteomkfapkfogcaaGreatKB5
set_option linter.unusedVariables false
set_option linter.unusedSimpArgs false
namespace Go.Proofs.YteomkfapkfogcaaGreat
set_option maxRecDepth 100000
theorem known6 : memoR 6 Tryz.f6 [] = some [.c (.v (.bool true))] := by kernel_rfl
end Go.Proofs.YteomkfapkfogcaaGreat
