/-
  No cell of these rows narrows 'for every input' (looked for: loops, veiled, ifaces, maps, wideKeys, modest, calm, conditions, laid).
  DERIVED. THE GIVEN ROWS OF THIS SEAT. 1 by the template 'for every input the law returns true; each argument reads behind the call as it read before'; 0 by the template 'total and deterministic' (their statements: YteomkfapkfogcaaGreatTotals.lean).
  GIVEN WITH THE SEED: the statements are not yours to turn. If you find one false, say at which input.
  Laid BY PROGRAM, IN A SANDBOX (cutbox-rows.mjs): the forced cells as the released guide's own fill.sh prints them over the translation 1da340259521bb10… (all of the seat's roots in one cut). By AI agents, Wed Nov 11 2026. No macro, syntax, notation, axiom, sorry.
-/
import Derived.Test.YteomkfapkfogcaaGreatChecked
import GoSem.Claim
import GoSem.ClaimJoined
import GoSem.ClaimMapViews
import Derived.JoinedTies
import Derived.KernelRfl
namespace Go.Proofs.YteomkfapkfogcaaGreat
/- THE CELL 'sum', in the pinned program and in every row, IS THE sha256 OF THE DUMP (.gsa) THAT YteomkfapkfogcaaGreatProg.lean LOADS. Nothing in Lean hashes anything: it is a label: what it is worth is what the hold of that sum in a sandbox is worth. -/
noncomputable def Tryz.pinned : Pinned := { name := "yteomkfapkfogcaagreat", sum := "1da340259521bb1096a41050bb2079f848879c9083fd68026d3af623f45bef90", checked := Tryz.checked }
namespace Rows
def none {H : Type} : Left H := { results := [], args := [] }

/-- 'sketchstoretop.TopSaturates': WHATEVER THE INPUT: true; the input reads as it did. -/
def topSaturatesSpec : ChangeSpec := { name := "topSaturates", fn := fun _ => fun
  | [d] => { results := [.lit (.bool true)], args := [d] }
  | _ => none }
def topSaturatesRow : OpenClaim := { program := "yteomkfapkfogcaagreat", sum := "1da340259521bb1096a41050bb2079f848879c9083fd68026d3af623f45bef90", func := "sketchstore/sketchstoretop.TopSaturates", spec := "topSaturates", inPlace := ["internal/bytealg.abigen_runtime_cmpstring", "slices.overlaps[sketchstore/api.Pin]", "slices.overlaps[sketchstore/api.Entry]", "slices.overlaps[sketchstore/api.Binding]"], unfollowed := true, recurses := true, named := ["math/bits.divideError", "math/bits.overflowError"], apart := false }
def TopSaturatesSaid : Prop := topSaturatesRow.holds Tryz.pinned (OpenSpec.ofChange topSaturatesSpec)

/-- ITS FALSE NEIGHBOUR: 'it returns false'. Refute it at one input. -/
def topSaturatesWrong : ChangeSpec := { name := "topSaturates", fn := fun _ => fun
  | [d] => { results := [.lit (.bool false)], args := [d] }
  | _ => none }
def TopSaturatesWrongFalsely : Prop := topSaturatesRow.holds Tryz.pinned (OpenSpec.ofChange topSaturatesWrong)

/- THE SECOND FORM. 'bulk': how many values and letters a reading holds, each counted each time it is reached (what is shared counts as often as it is met; a slice's spare places count too). A statement '..UptoSaid' is the law's where the arguments, and the package variables that the reading takes, are together of bulk at most 1048576: NARROWER than '..Said'. Prove '..Said' where nothing that the law and all that it calls make is longer than what came in: it says more and counts as full. Else prove '..UptoSaid'. A law counts once. -/
mutual
def uptoBulk {H : Type} : DataW H → Nat
  | .lit (.string bytes) => bytes.length + 1
  | .lit _ => 1
  | .nil => 1
  | .ptr d => uptoBulk d + 1
  | .slice elems spare => uptoBulkAll elems + uptoBulkAll spare + 1
  | .agg parts => uptoBulkAll parts + 1
  | .iface _ d => uptoBulk d + 1
  | .map entries => uptoBulkEntries entries + 1
  | .held _ => 1
def uptoBulkAll {H : Type} : List (DataW H) → Nat
  | [] => 0
  | d :: r => uptoBulk d + uptoBulkAll r
def uptoBulkEntries {H : Type} : List (Lit × DataW H) → Nat
  | [] => 0
  | x :: r => uptoBulkEntry x + uptoBulkEntries r
def uptoBulkEntry {H : Type} : Lit × DataW H → Nat
  | (.string bytes, d) => bytes.length + uptoBulk d + 1
  | (_, d) => uptoBulk d + 1
 end
def uptoSmall : (H : Type) → List (DataW H) → Bool := fun _ ds => decide (uptoBulkAll ds ≤ 1048576)
def OpenSpec.upto (s : _root_.Go.ChangeSpec) : _root_.Go.OpenSpec := { _root_.Go.OpenSpec.ofChange s with cond := some uptoSmall }

/-- 'sketchstoretop.TopSaturates', WHERE WHAT IT READS IS OF BULK AT MOST 1048576: true; the input reads as it did. -/
def topSaturatesUptoRow : OpenClaim := { program := "yteomkfapkfogcaagreat", sum := "1da340259521bb1096a41050bb2079f848879c9083fd68026d3af623f45bef90", func := "sketchstore/sketchstoretop.TopSaturates", spec := "topSaturates", inPlace := ["internal/bytealg.abigen_runtime_cmpstring", "slices.overlaps[sketchstore/api.Pin]", "slices.overlaps[sketchstore/api.Entry]", "slices.overlaps[sketchstore/api.Binding]"], unfollowed := true, recurses := true, named := ["math/bits.divideError", "math/bits.overflowError"], apart := false, narrowed := true }
def TopSaturatesUptoSaid : Prop := topSaturatesUptoRow.holds Tryz.pinned (OpenSpec.upto topSaturatesSpec)

end Rows
end Go.Proofs.YteomkfapkfogcaaGreat
