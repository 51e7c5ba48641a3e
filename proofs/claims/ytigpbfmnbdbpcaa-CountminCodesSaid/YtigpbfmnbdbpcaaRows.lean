/-
  No cell of these rows narrows 'for every input' (looked for: loops, veiled, ifaces, maps, wideKeys, modest, calm, conditions, laid).
  DERIVED. THE GIVEN ROWS OF THIS SEAT. 7 by the template 'for every input the law returns true; each argument reads behind the call as it read before'; 0 by the template 'total and deterministic' (their statements: YtigpbfmnbdbpcaaTotals.lean).
  GIVEN WITH THE SEED: the statements are not yours to turn. If you find one false, say at which input.
  Laid BY PROGRAM, IN A SANDBOX (cutbox-rows.mjs): the forced cells as the released guide's own fill.sh prints them over the translation f2946d2d37bda46f… (all of the seat's roots in one cut). By AI agents, Wed Nov 11 2026. No macro, syntax, notation, axiom, sorry.
-/
import Derived.Test.YtigpbfmnbdbpcaaChecked
import GoSem.Claim
import GoSem.ClaimJoined
import GoSem.ClaimMapViews
import Derived.JoinedTies
import Derived.KernelRfl
namespace Go.Proofs.Ytigpbfmnbdbpcaa
/- THE CELL 'sum', in the pinned program and in every row, IS THE sha256 OF THE DUMP (.gsa) THAT YtigpbfmnbdbpcaaProg.lean LOADS. Nothing in Lean hashes anything: it is a label: what it is worth is what the hold of that sum in a sandbox is worth. -/
noncomputable def Try.pinned : Pinned := { name := "ytigpbfmnbdbpcaa", sum := "f2946d2d37bda46fad4d36fff0d40797af3bd7542b1bc65f3b11a4ba21aa4964", checked := Try.checked }
namespace Rows
def none {H : Type} : Left H := { results := [], args := [] }

/-- 'sketchstorelaw7.CountminNew': WHATEVER THE INPUT: true; the input reads as it did. -/
def countminNewSpec : ChangeSpec := { name := "countminNew", fn := fun _ => fun
  | [d1, d2, d3, d4, d5] => { results := [.lit (.bool true)], args := [d1, d2, d3, d4, d5] }
  | _ => none }
def countminNewRow : OpenClaim := { program := "ytigpbfmnbdbpcaa", sum := "f2946d2d37bda46fad4d36fff0d40797af3bd7542b1bc65f3b11a4ba21aa4964", func := "sketchstore/sketchstorelaw7.CountminNew", spec := "countminNew", apart := false }
def CountminNewSaid : Prop := countminNewRow.holds Try.pinned (OpenSpec.ofChange countminNewSpec)

/-- ITS FALSE NEIGHBOUR: 'it returns false'. Refute it at one input. -/
def countminNewWrong : ChangeSpec := { name := "countminNew", fn := fun _ => fun
  | [d1, d2, d3, d4, d5] => { results := [.lit (.bool false)], args := [d1, d2, d3, d4, d5] }
  | _ => none }
def CountminNewWrongFalsely : Prop := countminNewRow.holds Try.pinned (OpenSpec.ofChange countminNewWrong)

/-- 'sketchstorelaw7.CountminInserts': WHATEVER THE INPUT: true; the input reads as it did. -/
def countminInsertsSpec : ChangeSpec := { name := "countminInserts", fn := fun _ => fun
  | [d1, d2, d3, d4, d5] => { results := [.lit (.bool true)], args := [d1, d2, d3, d4, d5] }
  | _ => none }
def countminInsertsRow : OpenClaim := { program := "ytigpbfmnbdbpcaa", sum := "f2946d2d37bda46fad4d36fff0d40797af3bd7542b1bc65f3b11a4ba21aa4964", func := "sketchstore/sketchstorelaw7.CountminInserts", spec := "countminInserts", apart := false }
def CountminInsertsSaid : Prop := countminInsertsRow.holds Try.pinned (OpenSpec.ofChange countminInsertsSpec)

/-- ITS FALSE NEIGHBOUR: 'it returns false'. Refute it at one input. -/
def countminInsertsWrong : ChangeSpec := { name := "countminInserts", fn := fun _ => fun
  | [d1, d2, d3, d4, d5] => { results := [.lit (.bool false)], args := [d1, d2, d3, d4, d5] }
  | _ => none }
def CountminInsertsWrongFalsely : Prop := countminInsertsRow.holds Try.pinned (OpenSpec.ofChange countminInsertsWrong)

/-- 'sketchstorelaw7.CountminEstimates': WHATEVER THE INPUT: true; the input reads as it did. -/
def countminEstimatesSpec : ChangeSpec := { name := "countminEstimates", fn := fun _ => fun
  | [d1, d2, d3, d4, d5, d6] => { results := [.lit (.bool true)], args := [d1, d2, d3, d4, d5, d6] }
  | _ => none }
def countminEstimatesRow : OpenClaim := { program := "ytigpbfmnbdbpcaa", sum := "f2946d2d37bda46fad4d36fff0d40797af3bd7542b1bc65f3b11a4ba21aa4964", func := "sketchstore/sketchstorelaw7.CountminEstimates", spec := "countminEstimates", apart := false }
def CountminEstimatesSaid : Prop := countminEstimatesRow.holds Try.pinned (OpenSpec.ofChange countminEstimatesSpec)

/-- ITS FALSE NEIGHBOUR: 'it returns false'. Refute it at one input. -/
def countminEstimatesWrong : ChangeSpec := { name := "countminEstimates", fn := fun _ => fun
  | [d1, d2, d3, d4, d5, d6] => { results := [.lit (.bool false)], args := [d1, d2, d3, d4, d5, d6] }
  | _ => none }
def CountminEstimatesWrongFalsely : Prop := countminEstimatesRow.holds Try.pinned (OpenSpec.ofChange countminEstimatesWrong)

/-- 'sketchstorelaw7.CountminBounds': WHATEVER THE INPUT: true; the input reads as it did. -/
def countminBoundsSpec : ChangeSpec := { name := "countminBounds", fn := fun _ => fun
  | [d1, d2, d3, d4, d5] => { results := [.lit (.bool true)], args := [d1, d2, d3, d4, d5] }
  | _ => none }
def countminBoundsRow : OpenClaim := { program := "ytigpbfmnbdbpcaa", sum := "f2946d2d37bda46fad4d36fff0d40797af3bd7542b1bc65f3b11a4ba21aa4964", func := "sketchstore/sketchstorelaw7.CountminBounds", spec := "countminBounds", apart := false }
def CountminBoundsSaid : Prop := countminBoundsRow.holds Try.pinned (OpenSpec.ofChange countminBoundsSpec)

/-- ITS FALSE NEIGHBOUR: 'it returns false'. Refute it at one input. -/
def countminBoundsWrong : ChangeSpec := { name := "countminBounds", fn := fun _ => fun
  | [d1, d2, d3, d4, d5] => { results := [.lit (.bool false)], args := [d1, d2, d3, d4, d5] }
  | _ => none }
def CountminBoundsWrongFalsely : Prop := countminBoundsRow.holds Try.pinned (OpenSpec.ofChange countminBoundsWrong)

/-- 'sketchstorelaw7.CountminMerges': WHATEVER THE INPUT: true; the input reads as it did. -/
def countminMergesSpec : ChangeSpec := { name := "countminMerges", fn := fun _ => fun
  | [d1, d2, d3, d4, d5, d6] => { results := [.lit (.bool true)], args := [d1, d2, d3, d4, d5, d6] }
  | _ => none }
def countminMergesRow : OpenClaim := { program := "ytigpbfmnbdbpcaa", sum := "f2946d2d37bda46fad4d36fff0d40797af3bd7542b1bc65f3b11a4ba21aa4964", func := "sketchstore/sketchstorelaw7.CountminMerges", spec := "countminMerges", apart := false }
def CountminMergesSaid : Prop := countminMergesRow.holds Try.pinned (OpenSpec.ofChange countminMergesSpec)

/-- ITS FALSE NEIGHBOUR: 'it returns false'. Refute it at one input. -/
def countminMergesWrong : ChangeSpec := { name := "countminMerges", fn := fun _ => fun
  | [d1, d2, d3, d4, d5, d6] => { results := [.lit (.bool false)], args := [d1, d2, d3, d4, d5, d6] }
  | _ => none }
def CountminMergesWrongFalsely : Prop := countminMergesRow.holds Try.pinned (OpenSpec.ofChange countminMergesWrong)

/-- 'sketchstorelaw7.CountminUnion': WHATEVER THE INPUT: true; the input reads as it did. -/
def countminUnionSpec : ChangeSpec := { name := "countminUnion", fn := fun _ => fun
  | [d1, d2, d3, d4, d5, d6] => { results := [.lit (.bool true)], args := [d1, d2, d3, d4, d5, d6] }
  | _ => none }
def countminUnionRow : OpenClaim := { program := "ytigpbfmnbdbpcaa", sum := "f2946d2d37bda46fad4d36fff0d40797af3bd7542b1bc65f3b11a4ba21aa4964", func := "sketchstore/sketchstorelaw7.CountminUnion", spec := "countminUnion", apart := false }
def CountminUnionSaid : Prop := countminUnionRow.holds Try.pinned (OpenSpec.ofChange countminUnionSpec)

/-- ITS FALSE NEIGHBOUR: 'it returns false'. Refute it at one input. -/
def countminUnionWrong : ChangeSpec := { name := "countminUnion", fn := fun _ => fun
  | [d1, d2, d3, d4, d5, d6] => { results := [.lit (.bool false)], args := [d1, d2, d3, d4, d5, d6] }
  | _ => none }
def CountminUnionWrongFalsely : Prop := countminUnionRow.holds Try.pinned (OpenSpec.ofChange countminUnionWrong)

/-- 'sketchstorelaw7.CountminCodes': WHATEVER THE INPUT: true; the input reads as it did. -/
def countminCodesSpec : ChangeSpec := { name := "countminCodes", fn := fun _ => fun
  | [d1, d2, d3, d4, d5, d6] => { results := [.lit (.bool true)], args := [d1, d2, d3, d4, d5, d6] }
  | _ => none }
def countminCodesRow : OpenClaim := { program := "ytigpbfmnbdbpcaa", sum := "f2946d2d37bda46fad4d36fff0d40797af3bd7542b1bc65f3b11a4ba21aa4964", func := "sketchstore/sketchstorelaw7.CountminCodes", spec := "countminCodes", apart := false }
def CountminCodesSaid : Prop := countminCodesRow.holds Try.pinned (OpenSpec.ofChange countminCodesSpec)

/-- ITS FALSE NEIGHBOUR: 'it returns false'. Refute it at one input. -/
def countminCodesWrong : ChangeSpec := { name := "countminCodes", fn := fun _ => fun
  | [d1, d2, d3, d4, d5, d6] => { results := [.lit (.bool false)], args := [d1, d2, d3, d4, d5, d6] }
  | _ => none }
def CountminCodesWrongFalsely : Prop := countminCodesRow.holds Try.pinned (OpenSpec.ofChange countminCodesWrong)

/- THE SECOND FORM. 'bulk': how many values and letters a reading holds, each counted each time it is reached (what is shared counts as often as it is met; a slice's spare places count too). A statement '..UptoSaid' is the law's where the arguments, and the package variables that the reading takes, are together of bulk at most 1048576: NARROWER than '..Said'. Prove '..Said' where nothing that the law and all that it calls make is longer than what came in: it says more and counts as full. Else prove '..UptoSaid'. A law counts once. -/
mutual
def uptoBulk {H : Type} : DataW H → Nat
  | .lit (.string bytes) => bytes.length + 1
  | .lit _ => 1
  | .nil => 1
  | .ptr d => uptoBulk d + 1
  | .slice elems spare => uptoBulkAll elems + uptoBulkAll spare + 1
  | .agg parts => uptoBulkAll parts + 1
  | .iface _ d => uptoBulk d + 1
  | .map entries => uptoBulkEntries entries + 1
  | .held _ => 1
def uptoBulkAll {H : Type} : List (DataW H) → Nat
  | [] => 0
  | d :: r => uptoBulk d + uptoBulkAll r
def uptoBulkEntries {H : Type} : List (Lit × DataW H) → Nat
  | [] => 0
  | x :: r => uptoBulkEntry x + uptoBulkEntries r
def uptoBulkEntry {H : Type} : Lit × DataW H → Nat
  | (.string bytes, d) => bytes.length + uptoBulk d + 1
  | (_, d) => uptoBulk d + 1
 end
def uptoSmall : (H : Type) → List (DataW H) → Bool := fun _ ds => decide (uptoBulkAll ds ≤ 1048576)
def OpenSpec.upto (s : _root_.Go.ChangeSpec) : _root_.Go.OpenSpec := { _root_.Go.OpenSpec.ofChange s with cond := some uptoSmall }

/-- 'sketchstorelaw7.CountminNew', WHERE WHAT IT READS IS OF BULK AT MOST 1048576: true; the input reads as it did. -/
def countminNewUptoRow : OpenClaim := { program := "ytigpbfmnbdbpcaa", sum := "f2946d2d37bda46fad4d36fff0d40797af3bd7542b1bc65f3b11a4ba21aa4964", func := "sketchstore/sketchstorelaw7.CountminNew", spec := "countminNew", apart := false, narrowed := true }
def CountminNewUptoSaid : Prop := countminNewUptoRow.holds Try.pinned (OpenSpec.upto countminNewSpec)

/-- 'sketchstorelaw7.CountminInserts', WHERE WHAT IT READS IS OF BULK AT MOST 1048576: true; the input reads as it did. -/
def countminInsertsUptoRow : OpenClaim := { program := "ytigpbfmnbdbpcaa", sum := "f2946d2d37bda46fad4d36fff0d40797af3bd7542b1bc65f3b11a4ba21aa4964", func := "sketchstore/sketchstorelaw7.CountminInserts", spec := "countminInserts", apart := false, narrowed := true }
def CountminInsertsUptoSaid : Prop := countminInsertsUptoRow.holds Try.pinned (OpenSpec.upto countminInsertsSpec)

/-- 'sketchstorelaw7.CountminEstimates', WHERE WHAT IT READS IS OF BULK AT MOST 1048576: true; the input reads as it did. -/
def countminEstimatesUptoRow : OpenClaim := { program := "ytigpbfmnbdbpcaa", sum := "f2946d2d37bda46fad4d36fff0d40797af3bd7542b1bc65f3b11a4ba21aa4964", func := "sketchstore/sketchstorelaw7.CountminEstimates", spec := "countminEstimates", apart := false, narrowed := true }
def CountminEstimatesUptoSaid : Prop := countminEstimatesUptoRow.holds Try.pinned (OpenSpec.upto countminEstimatesSpec)

/-- 'sketchstorelaw7.CountminBounds', WHERE WHAT IT READS IS OF BULK AT MOST 1048576: true; the input reads as it did. -/
def countminBoundsUptoRow : OpenClaim := { program := "ytigpbfmnbdbpcaa", sum := "f2946d2d37bda46fad4d36fff0d40797af3bd7542b1bc65f3b11a4ba21aa4964", func := "sketchstore/sketchstorelaw7.CountminBounds", spec := "countminBounds", apart := false, narrowed := true }
def CountminBoundsUptoSaid : Prop := countminBoundsUptoRow.holds Try.pinned (OpenSpec.upto countminBoundsSpec)

/-- 'sketchstorelaw7.CountminMerges', WHERE WHAT IT READS IS OF BULK AT MOST 1048576: true; the input reads as it did. -/
def countminMergesUptoRow : OpenClaim := { program := "ytigpbfmnbdbpcaa", sum := "f2946d2d37bda46fad4d36fff0d40797af3bd7542b1bc65f3b11a4ba21aa4964", func := "sketchstore/sketchstorelaw7.CountminMerges", spec := "countminMerges", apart := false, narrowed := true }
def CountminMergesUptoSaid : Prop := countminMergesUptoRow.holds Try.pinned (OpenSpec.upto countminMergesSpec)

/-- 'sketchstorelaw7.CountminUnion', WHERE WHAT IT READS IS OF BULK AT MOST 1048576: true; the input reads as it did. -/
def countminUnionUptoRow : OpenClaim := { program := "ytigpbfmnbdbpcaa", sum := "f2946d2d37bda46fad4d36fff0d40797af3bd7542b1bc65f3b11a4ba21aa4964", func := "sketchstore/sketchstorelaw7.CountminUnion", spec := "countminUnion", apart := false, narrowed := true }
def CountminUnionUptoSaid : Prop := countminUnionUptoRow.holds Try.pinned (OpenSpec.upto countminUnionSpec)

/-- 'sketchstorelaw7.CountminCodes', WHERE WHAT IT READS IS OF BULK AT MOST 1048576: true; the input reads as it did. -/
def countminCodesUptoRow : OpenClaim := { program := "ytigpbfmnbdbpcaa", sum := "f2946d2d37bda46fad4d36fff0d40797af3bd7542b1bc65f3b11a4ba21aa4964", func := "sketchstore/sketchstorelaw7.CountminCodes", spec := "countminCodes", apart := false, narrowed := true }
def CountminCodesUptoSaid : Prop := countminCodesUptoRow.holds Try.pinned (OpenSpec.upto countminCodesSpec)

end Rows
end Go.Proofs.Ytigpbfmnbdbpcaa
