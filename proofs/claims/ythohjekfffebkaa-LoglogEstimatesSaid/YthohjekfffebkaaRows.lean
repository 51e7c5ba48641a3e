/-
  No cell of these rows narrows 'for every input' (looked for: loops, veiled, ifaces, maps, wideKeys, modest, calm, conditions, laid).
  DERIVED. THE GIVEN ROWS OF THIS SEAT. 7 by the template 'for every input the law returns true; each argument reads behind the call as it read before'; 0 by the template 'total and deterministic' (their statements: YthohjekfffebkaaTotals.lean).
  GIVEN WITH THE SEED: the statements are not yours to turn. If you find one false, say at which input.
  Laid BY PROGRAM, IN A SANDBOX (cutbox-rows.mjs): the forced cells as the released guide's own fill.sh prints them over the translation 7d68b3844793a2af… (all of the seat's roots in one cut). By AI agents, Wed Nov 11 2026. No macro, syntax, notation, axiom, sorry.
-/
import Derived.Test.YthohjekfffebkaaChecked
import GoSem.Claim
import GoSem.ClaimJoined
import GoSem.ClaimMapViews
import Derived.JoinedTies
import Derived.KernelRfl
namespace Go.Proofs.Ythohjekfffebkaa
/- THE CELL 'sum', in the pinned program and in every row, IS THE sha256 OF THE DUMP (.gsa) THAT YthohjekfffebkaaProg.lean LOADS. Nothing in Lean hashes anything: it is a label: what it is worth is what the hold of that sum in a sandbox is worth. -/
noncomputable def Try.pinned : Pinned := { name := "ythohjekfffebkaa", sum := "7d68b3844793a2af9844bfdfea88fa177d95a50f554c43f8d486959220d7df03", checked := Try.checked }
namespace Rows
def none {H : Type} : Left H := { results := [], args := [] }

/-- 'sketchstorelaw8.LoglogNew': WHATEVER THE INPUT: true; the input reads as it did. -/
def loglogNewSpec : ChangeSpec := { name := "loglogNew", fn := fun _ => fun
  | [d1, d2, d3] => { results := [.lit (.bool true)], args := [d1, d2, d3] }
  | _ => none }
def loglogNewRow : OpenClaim := { program := "ythohjekfffebkaa", sum := "7d68b3844793a2af9844bfdfea88fa177d95a50f554c43f8d486959220d7df03", func := "sketchstore/sketchstorelaw8.LoglogNew", spec := "loglogNew", named := ["math/bits.divideError", "math/bits.overflowError"], apart := false }
def LoglogNewSaid : Prop := loglogNewRow.holds Try.pinned (OpenSpec.ofChange loglogNewSpec)

/-- ITS FALSE NEIGHBOUR: 'it returns false'. Refute it at one input. -/
def loglogNewWrong : ChangeSpec := { name := "loglogNew", fn := fun _ => fun
  | [d1, d2, d3] => { results := [.lit (.bool false)], args := [d1, d2, d3] }
  | _ => none }
def LoglogNewWrongFalsely : Prop := loglogNewRow.holds Try.pinned (OpenSpec.ofChange loglogNewWrong)

/-- 'sketchstorelaw8.LoglogInserts': WHATEVER THE INPUT: true; the input reads as it did. -/
def loglogInsertsSpec : ChangeSpec := { name := "loglogInserts", fn := fun _ => fun
  | [d1, d2, d3, d4] => { results := [.lit (.bool true)], args := [d1, d2, d3, d4] }
  | _ => none }
def loglogInsertsRow : OpenClaim := { program := "ythohjekfffebkaa", sum := "7d68b3844793a2af9844bfdfea88fa177d95a50f554c43f8d486959220d7df03", func := "sketchstore/sketchstorelaw8.LoglogInserts", spec := "loglogInserts", named := ["math/bits.divideError", "math/bits.overflowError"], apart := false }
def LoglogInsertsSaid : Prop := loglogInsertsRow.holds Try.pinned (OpenSpec.ofChange loglogInsertsSpec)

/-- ITS FALSE NEIGHBOUR: 'it returns false'. Refute it at one input. -/
def loglogInsertsWrong : ChangeSpec := { name := "loglogInserts", fn := fun _ => fun
  | [d1, d2, d3, d4] => { results := [.lit (.bool false)], args := [d1, d2, d3, d4] }
  | _ => none }
def LoglogInsertsWrongFalsely : Prop := loglogInsertsRow.holds Try.pinned (OpenSpec.ofChange loglogInsertsWrong)

/-- 'sketchstorelaw8.LoglogEstimates': WHATEVER THE INPUT: true; the input reads as it did. -/
def loglogEstimatesSpec : ChangeSpec := { name := "loglogEstimates", fn := fun _ => fun
  | [d1, d2, d3, d4, d5] => { results := [.lit (.bool true)], args := [d1, d2, d3, d4, d5] }
  | _ => none }
def loglogEstimatesRow : OpenClaim := { program := "ythohjekfffebkaa", sum := "7d68b3844793a2af9844bfdfea88fa177d95a50f554c43f8d486959220d7df03", func := "sketchstore/sketchstorelaw8.LoglogEstimates", spec := "loglogEstimates", named := ["math/bits.divideError", "math/bits.overflowError"], apart := false }
def LoglogEstimatesSaid : Prop := loglogEstimatesRow.holds Try.pinned (OpenSpec.ofChange loglogEstimatesSpec)

/-- ITS FALSE NEIGHBOUR: 'it returns false'. Refute it at one input. -/
def loglogEstimatesWrong : ChangeSpec := { name := "loglogEstimates", fn := fun _ => fun
  | [d1, d2, d3, d4, d5] => { results := [.lit (.bool false)], args := [d1, d2, d3, d4, d5] }
  | _ => none }
def LoglogEstimatesWrongFalsely : Prop := loglogEstimatesRow.holds Try.pinned (OpenSpec.ofChange loglogEstimatesWrong)

/-- 'sketchstorelaw8.LoglogRegisters': WHATEVER THE INPUT: true; the input reads as it did. -/
def loglogRegistersSpec : ChangeSpec := { name := "loglogRegisters", fn := fun _ => fun
  | [d1, d2, d3] => { results := [.lit (.bool true)], args := [d1, d2, d3] }
  | _ => none }
def loglogRegistersRow : OpenClaim := { program := "ythohjekfffebkaa", sum := "7d68b3844793a2af9844bfdfea88fa177d95a50f554c43f8d486959220d7df03", func := "sketchstore/sketchstorelaw8.LoglogRegisters", spec := "loglogRegisters", named := ["math/bits.divideError", "math/bits.overflowError"], apart := false }
def LoglogRegistersSaid : Prop := loglogRegistersRow.holds Try.pinned (OpenSpec.ofChange loglogRegistersSpec)

/-- ITS FALSE NEIGHBOUR: 'it returns false'. Refute it at one input. -/
def loglogRegistersWrong : ChangeSpec := { name := "loglogRegisters", fn := fun _ => fun
  | [d1, d2, d3] => { results := [.lit (.bool false)], args := [d1, d2, d3] }
  | _ => none }
def LoglogRegistersWrongFalsely : Prop := loglogRegistersRow.holds Try.pinned (OpenSpec.ofChange loglogRegistersWrong)

/-- 'sketchstorelaw8.LoglogMerges': WHATEVER THE INPUT: true; the input reads as it did. -/
def loglogMergesSpec : ChangeSpec := { name := "loglogMerges", fn := fun _ => fun
  | [d1, d2, d3, d4, d5] => { results := [.lit (.bool true)], args := [d1, d2, d3, d4, d5] }
  | _ => none }
def loglogMergesRow : OpenClaim := { program := "ythohjekfffebkaa", sum := "7d68b3844793a2af9844bfdfea88fa177d95a50f554c43f8d486959220d7df03", func := "sketchstore/sketchstorelaw8.LoglogMerges", spec := "loglogMerges", named := ["math/bits.divideError", "math/bits.overflowError"], apart := false }
def LoglogMergesSaid : Prop := loglogMergesRow.holds Try.pinned (OpenSpec.ofChange loglogMergesSpec)

/-- ITS FALSE NEIGHBOUR: 'it returns false'. Refute it at one input. -/
def loglogMergesWrong : ChangeSpec := { name := "loglogMerges", fn := fun _ => fun
  | [d1, d2, d3, d4, d5] => { results := [.lit (.bool false)], args := [d1, d2, d3, d4, d5] }
  | _ => none }
def LoglogMergesWrongFalsely : Prop := loglogMergesRow.holds Try.pinned (OpenSpec.ofChange loglogMergesWrong)

/-- 'sketchstorelaw8.LoglogUnion': WHATEVER THE INPUT: true; the input reads as it did. -/
def loglogUnionSpec : ChangeSpec := { name := "loglogUnion", fn := fun _ => fun
  | [d1, d2, d3, d4, d5] => { results := [.lit (.bool true)], args := [d1, d2, d3, d4, d5] }
  | _ => none }
def loglogUnionRow : OpenClaim := { program := "ythohjekfffebkaa", sum := "7d68b3844793a2af9844bfdfea88fa177d95a50f554c43f8d486959220d7df03", func := "sketchstore/sketchstorelaw8.LoglogUnion", spec := "loglogUnion", named := ["math/bits.divideError", "math/bits.overflowError"], apart := false }
def LoglogUnionSaid : Prop := loglogUnionRow.holds Try.pinned (OpenSpec.ofChange loglogUnionSpec)

/-- ITS FALSE NEIGHBOUR: 'it returns false'. Refute it at one input. -/
def loglogUnionWrong : ChangeSpec := { name := "loglogUnion", fn := fun _ => fun
  | [d1, d2, d3, d4, d5] => { results := [.lit (.bool false)], args := [d1, d2, d3, d4, d5] }
  | _ => none }
def LoglogUnionWrongFalsely : Prop := loglogUnionRow.holds Try.pinned (OpenSpec.ofChange loglogUnionWrong)

/-- 'sketchstorelaw8.LoglogCodes': WHATEVER THE INPUT: true; the input reads as it did. -/
def loglogCodesSpec : ChangeSpec := { name := "loglogCodes", fn := fun _ => fun
  | [d1, d2, d3, d4, d5] => { results := [.lit (.bool true)], args := [d1, d2, d3, d4, d5] }
  | _ => none }
def loglogCodesRow : OpenClaim := { program := "ythohjekfffebkaa", sum := "7d68b3844793a2af9844bfdfea88fa177d95a50f554c43f8d486959220d7df03", func := "sketchstore/sketchstorelaw8.LoglogCodes", spec := "loglogCodes", named := ["math/bits.divideError", "math/bits.overflowError"], apart := false }
def LoglogCodesSaid : Prop := loglogCodesRow.holds Try.pinned (OpenSpec.ofChange loglogCodesSpec)

/-- ITS FALSE NEIGHBOUR: 'it returns false'. Refute it at one input. -/
def loglogCodesWrong : ChangeSpec := { name := "loglogCodes", fn := fun _ => fun
  | [d1, d2, d3, d4, d5] => { results := [.lit (.bool false)], args := [d1, d2, d3, d4, d5] }
  | _ => none }
def LoglogCodesWrongFalsely : Prop := loglogCodesRow.holds Try.pinned (OpenSpec.ofChange loglogCodesWrong)

/- THE SECOND FORM. 'bulk': how many values and letters a reading holds, each counted each time it is reached (what is shared counts as often as it is met; a slice's spare places count too). A statement '..UptoSaid' is the law's where the arguments, and the package variables that the reading takes, are together of bulk at most 1048576: NARROWER than '..Said'. Prove '..Said' where nothing that the law and all that it calls make is longer than what came in: it says more and counts as full. Else prove '..UptoSaid'. A law counts once. -/
mutual
def uptoBulk {H : Type} : DataW H → Nat
  | .lit (.string bytes) => bytes.length + 1
  | .lit _ => 1
  | .nil => 1
  | .ptr d => uptoBulk d + 1
  | .slice elems spare => uptoBulkAll elems + uptoBulkAll spare + 1
  | .agg parts => uptoBulkAll parts + 1
  | .iface _ d => uptoBulk d + 1
  | .map entries => uptoBulkEntries entries + 1
  | .held _ => 1
def uptoBulkAll {H : Type} : List (DataW H) → Nat
  | [] => 0
  | d :: r => uptoBulk d + uptoBulkAll r
def uptoBulkEntries {H : Type} : List (Lit × DataW H) → Nat
  | [] => 0
  | x :: r => uptoBulkEntry x + uptoBulkEntries r
def uptoBulkEntry {H : Type} : Lit × DataW H → Nat
  | (.string bytes, d) => bytes.length + uptoBulk d + 1
  | (_, d) => uptoBulk d + 1
 end
def uptoSmall : (H : Type) → List (DataW H) → Bool := fun _ ds => decide (uptoBulkAll ds ≤ 1048576)
def OpenSpec.upto (s : _root_.Go.ChangeSpec) : _root_.Go.OpenSpec := { _root_.Go.OpenSpec.ofChange s with cond := some uptoSmall }

/-- 'sketchstorelaw8.LoglogNew', WHERE WHAT IT READS IS OF BULK AT MOST 1048576: true; the input reads as it did. -/
def loglogNewUptoRow : OpenClaim := { program := "ythohjekfffebkaa", sum := "7d68b3844793a2af9844bfdfea88fa177d95a50f554c43f8d486959220d7df03", func := "sketchstore/sketchstorelaw8.LoglogNew", spec := "loglogNew", named := ["math/bits.divideError", "math/bits.overflowError"], apart := false, narrowed := true }
def LoglogNewUptoSaid : Prop := loglogNewUptoRow.holds Try.pinned (OpenSpec.upto loglogNewSpec)

/-- 'sketchstorelaw8.LoglogInserts', WHERE WHAT IT READS IS OF BULK AT MOST 1048576: true; the input reads as it did. -/
def loglogInsertsUptoRow : OpenClaim := { program := "ythohjekfffebkaa", sum := "7d68b3844793a2af9844bfdfea88fa177d95a50f554c43f8d486959220d7df03", func := "sketchstore/sketchstorelaw8.LoglogInserts", spec := "loglogInserts", named := ["math/bits.divideError", "math/bits.overflowError"], apart := false, narrowed := true }
def LoglogInsertsUptoSaid : Prop := loglogInsertsUptoRow.holds Try.pinned (OpenSpec.upto loglogInsertsSpec)

/-- 'sketchstorelaw8.LoglogEstimates', WHERE WHAT IT READS IS OF BULK AT MOST 1048576: true; the input reads as it did. -/
def loglogEstimatesUptoRow : OpenClaim := { program := "ythohjekfffebkaa", sum := "7d68b3844793a2af9844bfdfea88fa177d95a50f554c43f8d486959220d7df03", func := "sketchstore/sketchstorelaw8.LoglogEstimates", spec := "loglogEstimates", named := ["math/bits.divideError", "math/bits.overflowError"], apart := false, narrowed := true }
def LoglogEstimatesUptoSaid : Prop := loglogEstimatesUptoRow.holds Try.pinned (OpenSpec.upto loglogEstimatesSpec)

/-- 'sketchstorelaw8.LoglogRegisters', WHERE WHAT IT READS IS OF BULK AT MOST 1048576: true; the input reads as it did. -/
def loglogRegistersUptoRow : OpenClaim := { program := "ythohjekfffebkaa", sum := "7d68b3844793a2af9844bfdfea88fa177d95a50f554c43f8d486959220d7df03", func := "sketchstore/sketchstorelaw8.LoglogRegisters", spec := "loglogRegisters", named := ["math/bits.divideError", "math/bits.overflowError"], apart := false, narrowed := true }
def LoglogRegistersUptoSaid : Prop := loglogRegistersUptoRow.holds Try.pinned (OpenSpec.upto loglogRegistersSpec)

/-- 'sketchstorelaw8.LoglogMerges', WHERE WHAT IT READS IS OF BULK AT MOST 1048576: true; the input reads as it did. -/
def loglogMergesUptoRow : OpenClaim := { program := "ythohjekfffebkaa", sum := "7d68b3844793a2af9844bfdfea88fa177d95a50f554c43f8d486959220d7df03", func := "sketchstore/sketchstorelaw8.LoglogMerges", spec := "loglogMerges", named := ["math/bits.divideError", "math/bits.overflowError"], apart := false, narrowed := true }
def LoglogMergesUptoSaid : Prop := loglogMergesUptoRow.holds Try.pinned (OpenSpec.upto loglogMergesSpec)

/-- 'sketchstorelaw8.LoglogUnion', WHERE WHAT IT READS IS OF BULK AT MOST 1048576: true; the input reads as it did. -/
def loglogUnionUptoRow : OpenClaim := { program := "ythohjekfffebkaa", sum := "7d68b3844793a2af9844bfdfea88fa177d95a50f554c43f8d486959220d7df03", func := "sketchstore/sketchstorelaw8.LoglogUnion", spec := "loglogUnion", named := ["math/bits.divideError", "math/bits.overflowError"], apart := false, narrowed := true }
def LoglogUnionUptoSaid : Prop := loglogUnionUptoRow.holds Try.pinned (OpenSpec.upto loglogUnionSpec)

/-- 'sketchstorelaw8.LoglogCodes', WHERE WHAT IT READS IS OF BULK AT MOST 1048576: true; the input reads as it did. -/
def loglogCodesUptoRow : OpenClaim := { program := "ythohjekfffebkaa", sum := "7d68b3844793a2af9844bfdfea88fa177d95a50f554c43f8d486959220d7df03", func := "sketchstore/sketchstorelaw8.LoglogCodes", spec := "loglogCodes", named := ["math/bits.divideError", "math/bits.overflowError"], apart := false, narrowed := true }
def LoglogCodesUptoSaid : Prop := loglogCodesUptoRow.holds Try.pinned (OpenSpec.upto loglogCodesSpec)

end Rows
end Go.Proofs.Ythohjekfffebkaa
