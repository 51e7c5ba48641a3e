/-
  No cell of these rows narrows 'for every input' (looked for: loops, veiled, ifaces, maps, wideKeys, modest, calm, conditions, laid).
  DERIVED. THE GIVEN ROWS OF THIS SEAT. 5 by the template 'for every input the law returns true; each argument reads behind the call as it read before'; 0 by the template 'total and deterministic' (their statements: YtcjklklbklopnaaTotals.lean).
  GIVEN WITH THE SEED: the statements are not yours to turn. If you find one false, say at which input.
  Laid BY PROGRAM, IN A SANDBOX (cutbox-rows.mjs): the forced cells as the released guide's own fill.sh prints them over the translation 65fb380f0abbea9a… (all of the seat's roots in one cut). By AI agents, Wed Nov 11 2026. No macro, syntax, notation, axiom, sorry.
-/
import Derived.Test.YtcjklklbklopnaaChecked
import GoSem.Claim
import GoSem.ClaimJoined
import GoSem.ClaimMapViews
import Derived.JoinedTies
import Derived.KernelRfl
namespace Go.Proofs.Ytcjklklbklopnaa
/- THE CELL 'sum', in the pinned program and in every row, IS THE sha256 OF THE DUMP (.gsa) THAT YtcjklklbklopnaaProg.lean LOADS. Nothing in Lean hashes anything: it is a label: what it is worth is what the hold of that sum in a sandbox is worth. -/
noncomputable def Try.pinned : Pinned := { name := "ytcjklklbklopnaa", sum := "65fb380f0abbea9a1c723f937b519015091737b38f2f681be66edba39e8c15e3", checked := Try.checked }
namespace Rows
def none {H : Type} : Left H := { results := [], args := [] }

/-- 'sketchstorelaw1.SaturSums': WHATEVER THE INPUT: true; the input reads as it did. -/
def saturSumsSpec : ChangeSpec := { name := "saturSums", fn := fun _ => fun
  | [d1, d2, d3] => { results := [.lit (.bool true)], args := [d1, d2, d3] }
  | _ => none }
def saturSumsRow : OpenClaim := { program := "ytcjklklbklopnaa", sum := "65fb380f0abbea9a1c723f937b519015091737b38f2f681be66edba39e8c15e3", func := "sketchstore/sketchstorelaw1.SaturSums", spec := "saturSums", named := ["math/bits.overflowError", "math/bits.divideError"], apart := false }
def SaturSumsSaid : Prop := saturSumsRow.holds Try.pinned (OpenSpec.ofChange saturSumsSpec)

/-- ITS FALSE NEIGHBOUR: 'it returns false'. Refute it at one input. -/
def saturSumsWrong : ChangeSpec := { name := "saturSums", fn := fun _ => fun
  | [d1, d2, d3] => { results := [.lit (.bool false)], args := [d1, d2, d3] }
  | _ => none }
def SaturSumsWrongFalsely : Prop := saturSumsRow.holds Try.pinned (OpenSpec.ofChange saturSumsWrong)

/-- 'sketchstorelaw1.SaturBits': WHATEVER THE INPUT: true; the input reads as it did. -/
def saturBitsSpec : ChangeSpec := { name := "saturBits", fn := fun _ => fun
  | [d1, d2] => { results := [.lit (.bool true)], args := [d1, d2] }
  | _ => none }
def saturBitsRow : OpenClaim := { program := "ytcjklklbklopnaa", sum := "65fb380f0abbea9a1c723f937b519015091737b38f2f681be66edba39e8c15e3", func := "sketchstore/sketchstorelaw1.SaturBits", spec := "saturBits", named := ["math/bits.overflowError", "math/bits.divideError"], apart := false }
def SaturBitsSaid : Prop := saturBitsRow.holds Try.pinned (OpenSpec.ofChange saturBitsSpec)

/-- ITS FALSE NEIGHBOUR: 'it returns false'. Refute it at one input. -/
def saturBitsWrong : ChangeSpec := { name := "saturBits", fn := fun _ => fun
  | [d1, d2] => { results := [.lit (.bool false)], args := [d1, d2] }
  | _ => none }
def SaturBitsWrongFalsely : Prop := saturBitsRow.holds Try.pinned (OpenSpec.ofChange saturBitsWrong)

/-- 'sketchstorelaw1.SaturOrder': WHATEVER THE INPUT: true; the input reads as it did. -/
def saturOrderSpec : ChangeSpec := { name := "saturOrder", fn := fun _ => fun
  | [d1, d2, d3, d4] => { results := [.lit (.bool true)], args := [d1, d2, d3, d4] }
  | _ => none }
def saturOrderRow : OpenClaim := { program := "ytcjklklbklopnaa", sum := "65fb380f0abbea9a1c723f937b519015091737b38f2f681be66edba39e8c15e3", func := "sketchstore/sketchstorelaw1.SaturOrder", spec := "saturOrder", named := ["math/bits.overflowError", "math/bits.divideError"], apart := false }
def SaturOrderSaid : Prop := saturOrderRow.holds Try.pinned (OpenSpec.ofChange saturOrderSpec)

/-- ITS FALSE NEIGHBOUR: 'it returns false'. Refute it at one input. -/
def saturOrderWrong : ChangeSpec := { name := "saturOrder", fn := fun _ => fun
  | [d1, d2, d3, d4] => { results := [.lit (.bool false)], args := [d1, d2, d3, d4] }
  | _ => none }
def SaturOrderWrongFalsely : Prop := saturOrderRow.holds Try.pinned (OpenSpec.ofChange saturOrderWrong)

/-- 'sketchstorelaw1.SaturDivides': WHATEVER THE INPUT: true; the input reads as it did. -/
def saturDividesSpec : ChangeSpec := { name := "saturDivides", fn := fun _ => fun
  | [d1, d2, d3] => { results := [.lit (.bool true)], args := [d1, d2, d3] }
  | _ => none }
def saturDividesRow : OpenClaim := { program := "ytcjklklbklopnaa", sum := "65fb380f0abbea9a1c723f937b519015091737b38f2f681be66edba39e8c15e3", func := "sketchstore/sketchstorelaw1.SaturDivides", spec := "saturDivides", named := ["math/bits.overflowError", "math/bits.divideError"], apart := false }
def SaturDividesSaid : Prop := saturDividesRow.holds Try.pinned (OpenSpec.ofChange saturDividesSpec)

/-- ITS FALSE NEIGHBOUR: 'it returns false'. Refute it at one input. -/
def saturDividesWrong : ChangeSpec := { name := "saturDivides", fn := fun _ => fun
  | [d1, d2, d3] => { results := [.lit (.bool false)], args := [d1, d2, d3] }
  | _ => none }
def SaturDividesWrongFalsely : Prop := saturDividesRow.holds Try.pinned (OpenSpec.ofChange saturDividesWrong)

/-- 'sketchstorelaw1.SaturInverse': WHATEVER THE INPUT: true; the input reads as it did. -/
def saturInverseSpec : ChangeSpec := { name := "saturInverse", fn := fun _ => fun
  | [d1, d2, d3] => { results := [.lit (.bool true)], args := [d1, d2, d3] }
  | _ => none }
def saturInverseRow : OpenClaim := { program := "ytcjklklbklopnaa", sum := "65fb380f0abbea9a1c723f937b519015091737b38f2f681be66edba39e8c15e3", func := "sketchstore/sketchstorelaw1.SaturInverse", spec := "saturInverse", named := ["math/bits.overflowError", "math/bits.divideError"], apart := false }
def SaturInverseSaid : Prop := saturInverseRow.holds Try.pinned (OpenSpec.ofChange saturInverseSpec)

/-- ITS FALSE NEIGHBOUR: 'it returns false'. Refute it at one input. -/
def saturInverseWrong : ChangeSpec := { name := "saturInverse", fn := fun _ => fun
  | [d1, d2, d3] => { results := [.lit (.bool false)], args := [d1, d2, d3] }
  | _ => none }
def SaturInverseWrongFalsely : Prop := saturInverseRow.holds Try.pinned (OpenSpec.ofChange saturInverseWrong)

/- THE SECOND FORM. 'bulk': how many values and letters a reading holds, each counted each time it is reached (what is shared counts as often as it is met; a slice's spare places count too). A statement '..UptoSaid' is the law's where the arguments, and the package variables that the reading takes, are together of bulk at most 1048576: NARROWER than '..Said'. Prove '..Said' where nothing that the law and all that it calls make is longer than what came in: it says more and counts as full. Else prove '..UptoSaid'. A law counts once. -/
mutual
def uptoBulk {H : Type} : DataW H → Nat
  | .lit (.string bytes) => bytes.length + 1
  | .lit _ => 1
  | .nil => 1
  | .ptr d => uptoBulk d + 1
  | .slice elems spare => uptoBulkAll elems + uptoBulkAll spare + 1
  | .agg parts => uptoBulkAll parts + 1
  | .iface _ d => uptoBulk d + 1
  | .map entries => uptoBulkEntries entries + 1
  | .held _ => 1
def uptoBulkAll {H : Type} : List (DataW H) → Nat
  | [] => 0
  | d :: r => uptoBulk d + uptoBulkAll r
def uptoBulkEntries {H : Type} : List (Lit × DataW H) → Nat
  | [] => 0
  | x :: r => uptoBulkEntry x + uptoBulkEntries r
def uptoBulkEntry {H : Type} : Lit × DataW H → Nat
  | (.string bytes, d) => bytes.length + uptoBulk d + 1
  | (_, d) => uptoBulk d + 1
 end
def uptoSmall : (H : Type) → List (DataW H) → Bool := fun _ ds => decide (uptoBulkAll ds ≤ 1048576)
def OpenSpec.upto (s : _root_.Go.ChangeSpec) : _root_.Go.OpenSpec := { _root_.Go.OpenSpec.ofChange s with cond := some uptoSmall }

/-- 'sketchstorelaw1.SaturSums', WHERE WHAT IT READS IS OF BULK AT MOST 1048576: true; the input reads as it did. -/
def saturSumsUptoRow : OpenClaim := { program := "ytcjklklbklopnaa", sum := "65fb380f0abbea9a1c723f937b519015091737b38f2f681be66edba39e8c15e3", func := "sketchstore/sketchstorelaw1.SaturSums", spec := "saturSums", named := ["math/bits.overflowError", "math/bits.divideError"], apart := false, narrowed := true }
def SaturSumsUptoSaid : Prop := saturSumsUptoRow.holds Try.pinned (OpenSpec.upto saturSumsSpec)

/-- 'sketchstorelaw1.SaturBits', WHERE WHAT IT READS IS OF BULK AT MOST 1048576: true; the input reads as it did. -/
def saturBitsUptoRow : OpenClaim := { program := "ytcjklklbklopnaa", sum := "65fb380f0abbea9a1c723f937b519015091737b38f2f681be66edba39e8c15e3", func := "sketchstore/sketchstorelaw1.SaturBits", spec := "saturBits", named := ["math/bits.overflowError", "math/bits.divideError"], apart := false, narrowed := true }
def SaturBitsUptoSaid : Prop := saturBitsUptoRow.holds Try.pinned (OpenSpec.upto saturBitsSpec)

/-- 'sketchstorelaw1.SaturOrder', WHERE WHAT IT READS IS OF BULK AT MOST 1048576: true; the input reads as it did. -/
def saturOrderUptoRow : OpenClaim := { program := "ytcjklklbklopnaa", sum := "65fb380f0abbea9a1c723f937b519015091737b38f2f681be66edba39e8c15e3", func := "sketchstore/sketchstorelaw1.SaturOrder", spec := "saturOrder", named := ["math/bits.overflowError", "math/bits.divideError"], apart := false, narrowed := true }
def SaturOrderUptoSaid : Prop := saturOrderUptoRow.holds Try.pinned (OpenSpec.upto saturOrderSpec)

/-- 'sketchstorelaw1.SaturDivides', WHERE WHAT IT READS IS OF BULK AT MOST 1048576: true; the input reads as it did. -/
def saturDividesUptoRow : OpenClaim := { program := "ytcjklklbklopnaa", sum := "65fb380f0abbea9a1c723f937b519015091737b38f2f681be66edba39e8c15e3", func := "sketchstore/sketchstorelaw1.SaturDivides", spec := "saturDivides", named := ["math/bits.overflowError", "math/bits.divideError"], apart := false, narrowed := true }
def SaturDividesUptoSaid : Prop := saturDividesUptoRow.holds Try.pinned (OpenSpec.upto saturDividesSpec)

/-- 'sketchstorelaw1.SaturInverse', WHERE WHAT IT READS IS OF BULK AT MOST 1048576: true; the input reads as it did. -/
def saturInverseUptoRow : OpenClaim := { program := "ytcjklklbklopnaa", sum := "65fb380f0abbea9a1c723f937b519015091737b38f2f681be66edba39e8c15e3", func := "sketchstore/sketchstorelaw1.SaturInverse", spec := "saturInverse", named := ["math/bits.overflowError", "math/bits.divideError"], apart := false, narrowed := true }
def SaturInverseUptoSaid : Prop := saturInverseUptoRow.holds Try.pinned (OpenSpec.upto saturInverseSpec)

end Rows
end Go.Proofs.Ytcjklklbklopnaa
