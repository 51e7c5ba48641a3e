/- Parts of the proof, laid together. No condition. -/
import Derived.Test.YteomkfapkfogcaaGreatKB5
set_option linter.unusedVariables false
set_option linter.unusedSimpArgs false
namespace Go.Proofs.YteomkfapkfogcaaGreat
set_option maxRecDepth 100000
theorem col01 : memoR 318 Tryz.f318 [.int .u64 9, .int .i64 (.ofNat 0), .int .i64 (.ofNat 1), .string ⟨#[97]⟩] = some [.c (.v (.int .i64 (.ofNat 0))), .c (.v (.int .i64 (.ofNat 0)))] := by kernel_rfl
theorem col02 : memoR 318 Tryz.f318 [.int .u64 9, .int .i64 (.ofNat 0), .int .i64 (.ofNat 2), .string ⟨#[97]⟩] = some [.c (.v (.int .i64 (.ofNat 0))), .c (.v (.int .i64 (.ofNat 0)))] := by kernel_rfl
theorem col03 : memoR 318 Tryz.f318 [.int .u64 9, .int .i64 (.ofNat 0), .int .i64 (.ofNat 3), .string ⟨#[97]⟩] = some [.c (.v (.int .i64 (.ofNat 1))), .c (.v (.int .i64 (.ofNat 0)))] := by kernel_rfl
theorem col04 : memoR 318 Tryz.f318 [.int .u64 9, .int .i64 (.ofNat 0), .int .i64 (.ofNat 4), .string ⟨#[97]⟩] = some [.c (.v (.int .i64 (.ofNat 0))), .c (.v (.int .i64 (.ofNat 0)))] := by kernel_rfl
end Go.Proofs.YteomkfapkfogcaaGreat
