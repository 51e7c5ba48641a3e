/-
  No cell of these rows narrows 'for every input' (looked for: loops, veiled, ifaces, maps, wideKeys, modest, calm, conditions, laid).
  DERIVED. THE GIVEN ROWS OF THIS SEAT. 4 by the template 'for every input the law returns true; each argument reads behind the call as it read before'; 0 by the template 'total and deterministic' (their statements: YtikagchjeogchaaGreatTotals.lean).
  GIVEN WITH THE SEED: the statements are not yours to turn. If you find one false, say at which input.
  Laid BY PROGRAM, IN A SANDBOX (cutbox-rows.mjs): the forced cells as the released guide's own fill.sh prints them over the translation d06783b94e55788c… (all of the seat's roots in one cut). By AI agents, Wed Nov 11 2026. No macro, syntax, notation, axiom, sorry.
-/
import Derived.Test.YtikagchjeogchaaGreatChecked
import GoSem.Claim
import GoSem.ClaimJoined
import GoSem.ClaimMapViews
import Derived.JoinedTies
import Derived.KernelRfl
namespace Go.Proofs.YtikagchjeogchaaGreat
/- THE CELL 'sum', in the pinned program and in every row, IS THE sha256 OF THE DUMP (.gsa) THAT YtikagchjeogchaaGreatProg.lean LOADS. Nothing in Lean hashes anything: it is a label: what it is worth is what the hold of that sum in a sandbox is worth. -/
noncomputable def Tryz.pinned : Pinned := { name := "ytikagchjeogchaagreat", sum := "d06783b94e55788c4d19683f0a8733ab16ac72cd4bafc92ba457f5f123a3fbcf", checked := Tryz.checked }
namespace Rows
def none {H : Type} : Left H := { results := [], args := [] }

/-- 'sketchstorelaw31.HistoryValidates': WHATEVER THE INPUT: true; the input reads as it did. -/
def historyValidatesSpec : ChangeSpec := { name := "historyValidates", fn := fun _ => fun
  | [d1, d2, d3] => { results := [.lit (.bool true)], args := [d1, d2, d3] }
  | _ => none }
def historyValidatesRow : OpenClaim := { program := "ytikagchjeogchaagreat", sum := "d06783b94e55788c4d19683f0a8733ab16ac72cd4bafc92ba457f5f123a3fbcf", func := "sketchstore/sketchstorelaw31.HistoryValidates", spec := "historyValidates", apart := false }
def HistoryValidatesSaid : Prop := historyValidatesRow.holds Tryz.pinned (OpenSpec.ofChange historyValidatesSpec)

/-- ITS FALSE NEIGHBOUR: 'it returns false'. Refute it at one input. -/
def historyValidatesWrong : ChangeSpec := { name := "historyValidates", fn := fun _ => fun
  | [d1, d2, d3] => { results := [.lit (.bool false)], args := [d1, d2, d3] }
  | _ => none }
def HistoryValidatesWrongFalsely : Prop := historyValidatesRow.holds Tryz.pinned (OpenSpec.ofChange historyValidatesWrong)

/-- 'sketchstorelaw31.HistoryOrders': WHATEVER THE INPUT: true; the input reads as it did. -/
def historyOrdersSpec : ChangeSpec := { name := "historyOrders", fn := fun _ => fun
  | [d1, d2, d3, d4] => { results := [.lit (.bool true)], args := [d1, d2, d3, d4] }
  | _ => none }
def historyOrdersRow : OpenClaim := { program := "ytikagchjeogchaagreat", sum := "d06783b94e55788c4d19683f0a8733ab16ac72cd4bafc92ba457f5f123a3fbcf", func := "sketchstore/sketchstorelaw31.HistoryOrders", spec := "historyOrders", apart := false }
def HistoryOrdersSaid : Prop := historyOrdersRow.holds Tryz.pinned (OpenSpec.ofChange historyOrdersSpec)

/-- ITS FALSE NEIGHBOUR: 'it returns false'. Refute it at one input. -/
def historyOrdersWrong : ChangeSpec := { name := "historyOrders", fn := fun _ => fun
  | [d1, d2, d3, d4] => { results := [.lit (.bool false)], args := [d1, d2, d3, d4] }
  | _ => none }
def HistoryOrdersWrongFalsely : Prop := historyOrdersRow.holds Tryz.pinned (OpenSpec.ofChange historyOrdersWrong)

/-- 'sketchstorelaw31.HistoryTrue': WHATEVER THE INPUT: true; the input reads as it did. -/
def historyTrueSpec : ChangeSpec := { name := "historyTrue", fn := fun _ => fun
  | [d1, d2] => { results := [.lit (.bool true)], args := [d1, d2] }
  | _ => none }
def historyTrueRow : OpenClaim := { program := "ytikagchjeogchaagreat", sum := "d06783b94e55788c4d19683f0a8733ab16ac72cd4bafc92ba457f5f123a3fbcf", func := "sketchstore/sketchstorelaw31.HistoryTrue", spec := "historyTrue", apart := false }
def HistoryTrueSaid : Prop := historyTrueRow.holds Tryz.pinned (OpenSpec.ofChange historyTrueSpec)

/-- ITS FALSE NEIGHBOUR: 'it returns false'. Refute it at one input. -/
def historyTrueWrong : ChangeSpec := { name := "historyTrue", fn := fun _ => fun
  | [d1, d2] => { results := [.lit (.bool false)], args := [d1, d2] }
  | _ => none }
def HistoryTrueWrongFalsely : Prop := historyTrueRow.holds Tryz.pinned (OpenSpec.ofChange historyTrueWrong)

/-- 'sketchstorelaw31.HistoryPartial': WHATEVER THE INPUT: true; the input reads as it did. -/
def historyPartialSpec : ChangeSpec := { name := "historyPartial", fn := fun _ => fun
  | [d1, d2, d3] => { results := [.lit (.bool true)], args := [d1, d2, d3] }
  | _ => none }
def historyPartialRow : OpenClaim := { program := "ytikagchjeogchaagreat", sum := "d06783b94e55788c4d19683f0a8733ab16ac72cd4bafc92ba457f5f123a3fbcf", func := "sketchstore/sketchstorelaw31.HistoryPartial", spec := "historyPartial", apart := false }
def HistoryPartialSaid : Prop := historyPartialRow.holds Tryz.pinned (OpenSpec.ofChange historyPartialSpec)

/-- ITS FALSE NEIGHBOUR: 'it returns false'. Refute it at one input. -/
def historyPartialWrong : ChangeSpec := { name := "historyPartial", fn := fun _ => fun
  | [d1, d2, d3] => { results := [.lit (.bool false)], args := [d1, d2, d3] }
  | _ => none }
def HistoryPartialWrongFalsely : Prop := historyPartialRow.holds Tryz.pinned (OpenSpec.ofChange historyPartialWrong)

/- THE SECOND FORM. 'bulk': how many values and letters a reading holds, each counted each time it is reached (what is shared counts as often as it is met; a slice's spare places count too). A statement '..UptoSaid' is the law's where the arguments, and the package variables that the reading takes, are together of bulk at most 1048576: NARROWER than '..Said'. Prove '..Said' where nothing that the law and all that it calls make is longer than what came in: it says more and counts as full. Else prove '..UptoSaid'. A law counts once. -/
mutual
def uptoBulk {H : Type} : DataW H → Nat
  | .lit (.string bytes) => bytes.length + 1
  | .lit _ => 1
  | .nil => 1
  | .ptr d => uptoBulk d + 1
  | .slice elems spare => uptoBulkAll elems + uptoBulkAll spare + 1
  | .agg parts => uptoBulkAll parts + 1
  | .iface _ d => uptoBulk d + 1
  | .map entries => uptoBulkEntries entries + 1
  | .held _ => 1
def uptoBulkAll {H : Type} : List (DataW H) → Nat
  | [] => 0
  | d :: r => uptoBulk d + uptoBulkAll r
def uptoBulkEntries {H : Type} : List (Lit × DataW H) → Nat
  | [] => 0
  | x :: r => uptoBulkEntry x + uptoBulkEntries r
def uptoBulkEntry {H : Type} : Lit × DataW H → Nat
  | (.string bytes, d) => bytes.length + uptoBulk d + 1
  | (_, d) => uptoBulk d + 1
 end
def uptoSmall : (H : Type) → List (DataW H) → Bool := fun _ ds => decide (uptoBulkAll ds ≤ 1048576)
def OpenSpec.upto (s : _root_.Go.ChangeSpec) : _root_.Go.OpenSpec := { _root_.Go.OpenSpec.ofChange s with cond := some uptoSmall }

/-- 'sketchstorelaw31.HistoryValidates', WHERE WHAT IT READS IS OF BULK AT MOST 1048576: true; the input reads as it did. -/
def historyValidatesUptoRow : OpenClaim := { program := "ytikagchjeogchaagreat", sum := "d06783b94e55788c4d19683f0a8733ab16ac72cd4bafc92ba457f5f123a3fbcf", func := "sketchstore/sketchstorelaw31.HistoryValidates", spec := "historyValidates", apart := false, narrowed := true }
def HistoryValidatesUptoSaid : Prop := historyValidatesUptoRow.holds Tryz.pinned (OpenSpec.upto historyValidatesSpec)

/-- 'sketchstorelaw31.HistoryOrders', WHERE WHAT IT READS IS OF BULK AT MOST 1048576: true; the input reads as it did. -/
def historyOrdersUptoRow : OpenClaim := { program := "ytikagchjeogchaagreat", sum := "d06783b94e55788c4d19683f0a8733ab16ac72cd4bafc92ba457f5f123a3fbcf", func := "sketchstore/sketchstorelaw31.HistoryOrders", spec := "historyOrders", apart := false, narrowed := true }
def HistoryOrdersUptoSaid : Prop := historyOrdersUptoRow.holds Tryz.pinned (OpenSpec.upto historyOrdersSpec)

/-- 'sketchstorelaw31.HistoryTrue', WHERE WHAT IT READS IS OF BULK AT MOST 1048576: true; the input reads as it did. -/
def historyTrueUptoRow : OpenClaim := { program := "ytikagchjeogchaagreat", sum := "d06783b94e55788c4d19683f0a8733ab16ac72cd4bafc92ba457f5f123a3fbcf", func := "sketchstore/sketchstorelaw31.HistoryTrue", spec := "historyTrue", apart := false, narrowed := true }
def HistoryTrueUptoSaid : Prop := historyTrueUptoRow.holds Tryz.pinned (OpenSpec.upto historyTrueSpec)

/-- 'sketchstorelaw31.HistoryPartial', WHERE WHAT IT READS IS OF BULK AT MOST 1048576: true; the input reads as it did. -/
def historyPartialUptoRow : OpenClaim := { program := "ytikagchjeogchaagreat", sum := "d06783b94e55788c4d19683f0a8733ab16ac72cd4bafc92ba457f5f123a3fbcf", func := "sketchstore/sketchstorelaw31.HistoryPartial", spec := "historyPartial", apart := false, narrowed := true }
def HistoryPartialUptoSaid : Prop := historyPartialUptoRow.holds Tryz.pinned (OpenSpec.upto historyPartialSpec)

end Rows
end Go.Proofs.YtikagchjeogchaaGreat
