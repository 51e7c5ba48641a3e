/-
  No cell of these rows narrows 'for every input' (looked for: loops, veiled, ifaces, maps, wideKeys, modest, calm, conditions, laid).
  DERIVED. THE GIVEN ROWS OF THIS SEAT. 3 by the template 'for every input the law returns true; each argument reads behind the call as it read before'; 0 by the template 'total and deterministic' (their statements: YtimfmcpbkdpmoaaGreatTotals.lean).
  GIVEN WITH THE SEED: the statements are not yours to turn. If you find one false, say at which input.
  Laid BY PROGRAM, IN A SANDBOX (cutbox-rows.mjs): the forced cells as the released guide's own fill.sh prints them over the translation 02060b889f542e01… (all of the seat's roots in one cut). By AI agents, Wed Nov 11 2026. No macro, syntax, notation, axiom, sorry.
-/
import Derived.Test.YtimfmcpbkdpmoaaGreatChecked
import GoSem.Claim
import GoSem.ClaimJoined
import GoSem.ClaimMapViews
import Derived.JoinedTies
import Derived.KernelRfl
namespace Go.Proofs.YtimfmcpbkdpmoaaGreat
/- THE CELL 'sum', in the pinned program and in every row, IS THE sha256 OF THE DUMP (.gsa) THAT YtimfmcpbkdpmoaaGreatProg.lean LOADS. Nothing in Lean hashes anything: it is a label: what it is worth is what the hold of that sum in a sandbox is worth. -/
noncomputable def Tryz.pinned : Pinned := { name := "ytimfmcpbkdpmoaagreat", sum := "02060b889f542e01940a9aaebcce1aa47684371b0622a875deeea215660e14e4", checked := Tryz.checked }
namespace Rows
def none {H : Type} : Left H := { results := [], args := [] }

/-- 'sketchstorelaw34.BoundEnds': WHATEVER THE INPUT: true; the input reads as it did. -/
def boundEndsSpec : ChangeSpec := { name := "boundEnds", fn := fun _ => fun
  | [d1, d2, d3] => { results := [.lit (.bool true)], args := [d1, d2, d3] }
  | _ => none }
def boundEndsRow : OpenClaim := { program := "ytimfmcpbkdpmoaagreat", sum := "02060b889f542e01940a9aaebcce1aa47684371b0622a875deeea215660e14e4", func := "sketchstore/sketchstorelaw34.BoundEnds", spec := "boundEnds", apart := false }
def BoundEndsSaid : Prop := boundEndsRow.holds Tryz.pinned (OpenSpec.ofChange boundEndsSpec)

/-- ITS FALSE NEIGHBOUR: 'it returns false'. Refute it at one input. -/
def boundEndsWrong : ChangeSpec := { name := "boundEnds", fn := fun _ => fun
  | [d1, d2, d3] => { results := [.lit (.bool false)], args := [d1, d2, d3] }
  | _ => none }
def BoundEndsWrongFalsely : Prop := boundEndsRow.holds Tryz.pinned (OpenSpec.ofChange boundEndsWrong)

/-- 'sketchstorelaw34.BoundTotal': WHATEVER THE INPUT: true; the input reads as it did. -/
def boundTotalSpec : ChangeSpec := { name := "boundTotal", fn := fun _ => fun
  | [d1, d2] => { results := [.lit (.bool true)], args := [d1, d2] }
  | _ => none }
def boundTotalRow : OpenClaim := { program := "ytimfmcpbkdpmoaagreat", sum := "02060b889f542e01940a9aaebcce1aa47684371b0622a875deeea215660e14e4", func := "sketchstore/sketchstorelaw34.BoundTotal", spec := "boundTotal", apart := false }
def BoundTotalSaid : Prop := boundTotalRow.holds Tryz.pinned (OpenSpec.ofChange boundTotalSpec)

/-- ITS FALSE NEIGHBOUR: 'it returns false'. Refute it at one input. -/
def boundTotalWrong : ChangeSpec := { name := "boundTotal", fn := fun _ => fun
  | [d1, d2] => { results := [.lit (.bool false)], args := [d1, d2] }
  | _ => none }
def BoundTotalWrongFalsely : Prop := boundTotalRow.holds Tryz.pinned (OpenSpec.ofChange boundTotalWrong)

/-- 'sketchstorelaw34.BoundTight': WHATEVER THE INPUT: true; the input reads as it did. -/
def boundTightSpec : ChangeSpec := { name := "boundTight", fn := fun _ => fun
  | [d1, d2, d3] => { results := [.lit (.bool true)], args := [d1, d2, d3] }
  | _ => none }
def boundTightRow : OpenClaim := { program := "ytimfmcpbkdpmoaagreat", sum := "02060b889f542e01940a9aaebcce1aa47684371b0622a875deeea215660e14e4", func := "sketchstore/sketchstorelaw34.BoundTight", spec := "boundTight", apart := false }
def BoundTightSaid : Prop := boundTightRow.holds Tryz.pinned (OpenSpec.ofChange boundTightSpec)

/-- ITS FALSE NEIGHBOUR: 'it returns false'. Refute it at one input. -/
def boundTightWrong : ChangeSpec := { name := "boundTight", fn := fun _ => fun
  | [d1, d2, d3] => { results := [.lit (.bool false)], args := [d1, d2, d3] }
  | _ => none }
def BoundTightWrongFalsely : Prop := boundTightRow.holds Tryz.pinned (OpenSpec.ofChange boundTightWrong)

/- THE SECOND FORM. 'bulk': how many values and letters a reading holds, each counted each time it is reached (what is shared counts as often as it is met; a slice's spare places count too). A statement '..UptoSaid' is the law's where the arguments, and the package variables that the reading takes, are together of bulk at most 1048576: NARROWER than '..Said'. Prove '..Said' where nothing that the law and all that it calls make is longer than what came in: it says more and counts as full. Else prove '..UptoSaid'. A law counts once. -/
mutual
def uptoBulk {H : Type} : DataW H → Nat
  | .lit (.string bytes) => bytes.length + 1
  | .lit _ => 1
  | .nil => 1
  | .ptr d => uptoBulk d + 1
  | .slice elems spare => uptoBulkAll elems + uptoBulkAll spare + 1
  | .agg parts => uptoBulkAll parts + 1
  | .iface _ d => uptoBulk d + 1
  | .map entries => uptoBulkEntries entries + 1
  | .held _ => 1
def uptoBulkAll {H : Type} : List (DataW H) → Nat
  | [] => 0
  | d :: r => uptoBulk d + uptoBulkAll r
def uptoBulkEntries {H : Type} : List (Lit × DataW H) → Nat
  | [] => 0
  | x :: r => uptoBulkEntry x + uptoBulkEntries r
def uptoBulkEntry {H : Type} : Lit × DataW H → Nat
  | (.string bytes, d) => bytes.length + uptoBulk d + 1
  | (_, d) => uptoBulk d + 1
 end
def uptoSmall : (H : Type) → List (DataW H) → Bool := fun _ ds => decide (uptoBulkAll ds ≤ 1048576)
def OpenSpec.upto (s : _root_.Go.ChangeSpec) : _root_.Go.OpenSpec := { _root_.Go.OpenSpec.ofChange s with cond := some uptoSmall }

/-- 'sketchstorelaw34.BoundEnds', WHERE WHAT IT READS IS OF BULK AT MOST 1048576: true; the input reads as it did. -/
def boundEndsUptoRow : OpenClaim := { program := "ytimfmcpbkdpmoaagreat", sum := "02060b889f542e01940a9aaebcce1aa47684371b0622a875deeea215660e14e4", func := "sketchstore/sketchstorelaw34.BoundEnds", spec := "boundEnds", apart := false, narrowed := true }
def BoundEndsUptoSaid : Prop := boundEndsUptoRow.holds Tryz.pinned (OpenSpec.upto boundEndsSpec)

/-- 'sketchstorelaw34.BoundTotal', WHERE WHAT IT READS IS OF BULK AT MOST 1048576: true; the input reads as it did. -/
def boundTotalUptoRow : OpenClaim := { program := "ytimfmcpbkdpmoaagreat", sum := "02060b889f542e01940a9aaebcce1aa47684371b0622a875deeea215660e14e4", func := "sketchstore/sketchstorelaw34.BoundTotal", spec := "boundTotal", apart := false, narrowed := true }
def BoundTotalUptoSaid : Prop := boundTotalUptoRow.holds Tryz.pinned (OpenSpec.upto boundTotalSpec)

/-- 'sketchstorelaw34.BoundTight', WHERE WHAT IT READS IS OF BULK AT MOST 1048576: true; the input reads as it did. -/
def boundTightUptoRow : OpenClaim := { program := "ytimfmcpbkdpmoaagreat", sum := "02060b889f542e01940a9aaebcce1aa47684371b0622a875deeea215660e14e4", func := "sketchstore/sketchstorelaw34.BoundTight", spec := "boundTight", apart := false, narrowed := true }
def BoundTightUptoSaid : Prop := boundTightUptoRow.holds Tryz.pinned (OpenSpec.upto boundTightSpec)

end Rows
end Go.Proofs.YtimfmcpbkdpmoaaGreat
