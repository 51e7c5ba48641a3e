/-
  No cell of these rows narrows 'for every input' (looked for: loops, veiled, ifaces, maps, wideKeys, modest, calm, conditions, laid).
  DERIVED. THE GIVEN ROWS OF THIS SEAT. 3 by the template 'for every input the law returns true; each argument reads behind the call as it read before'; 0 by the template 'total and deterministic' (their statements: YtpnpodbihdiegaaGreatTotals.lean).
  GIVEN WITH THE SEED: the statements are not yours to turn. If you find one false, say at which input.
  Laid BY PROGRAM, IN A SANDBOX (cutbox-rows.mjs): the forced cells as the released guide's own fill.sh prints them over the translation c8524cdf85269858… (all of the seat's roots in one cut). By AI agents, Wed Nov 11 2026. No macro, syntax, notation, axiom, sorry.
-/
import Derived.Test.YtpnpodbihdiegaaGreatChecked
import GoSem.Claim
import GoSem.ClaimJoined
import GoSem.ClaimMapViews
import Derived.JoinedTies
import Derived.KernelRfl
namespace Go.Proofs.YtpnpodbihdiegaaGreat
/- THE CELL 'sum', in the pinned program and in every row, IS THE sha256 OF THE DUMP (.gsa) THAT YtpnpodbihdiegaaGreatProg.lean LOADS. Nothing in Lean hashes anything: it is a label: what it is worth is what the hold of that sum in a sandbox is worth. -/
noncomputable def Tryz.pinned : Pinned := { name := "ytpnpodbihdiegaagreat", sum := "c8524cdf8526985821d80d715f6341be9f7c8eb308b62df5a4408b02ef1654ca", checked := Tryz.checked }
namespace Rows
def none {H : Type} : Left H := { results := [], args := [] }

/-- 'sketchstorelaw29.SessionsBegin': WHATEVER THE INPUT: true; the input reads as it did. -/
def sessionsBeginSpec : ChangeSpec := { name := "sessionsBegin", fn := fun _ => fun
  | [d1, d2, d3, d4] => { results := [.lit (.bool true)], args := [d1, d2, d3, d4] }
  | _ => none }
def sessionsBeginRow : OpenClaim := { program := "ytpnpodbihdiegaagreat", sum := "c8524cdf8526985821d80d715f6341be9f7c8eb308b62df5a4408b02ef1654ca", func := "sketchstore/sketchstorelaw29.SessionsBegin", spec := "sessionsBegin", apart := false }
def SessionsBeginSaid : Prop := sessionsBeginRow.holds Tryz.pinned (OpenSpec.ofChange sessionsBeginSpec)

/-- ITS FALSE NEIGHBOUR: 'it returns false'. Refute it at one input. -/
def sessionsBeginWrong : ChangeSpec := { name := "sessionsBegin", fn := fun _ => fun
  | [d1, d2, d3, d4] => { results := [.lit (.bool false)], args := [d1, d2, d3, d4] }
  | _ => none }
def SessionsBeginWrongFalsely : Prop := sessionsBeginRow.holds Tryz.pinned (OpenSpec.ofChange sessionsBeginWrong)

/-- 'sketchstorelaw29.SessionsEnd': WHATEVER THE INPUT: true; the input reads as it did. -/
def sessionsEndSpec : ChangeSpec := { name := "sessionsEnd", fn := fun _ => fun
  | [d1, d2, d3] => { results := [.lit (.bool true)], args := [d1, d2, d3] }
  | _ => none }
def sessionsEndRow : OpenClaim := { program := "ytpnpodbihdiegaagreat", sum := "c8524cdf8526985821d80d715f6341be9f7c8eb308b62df5a4408b02ef1654ca", func := "sketchstore/sketchstorelaw29.SessionsEnd", spec := "sessionsEnd", apart := false }
def SessionsEndSaid : Prop := sessionsEndRow.holds Tryz.pinned (OpenSpec.ofChange sessionsEndSpec)

/-- ITS FALSE NEIGHBOUR: 'it returns false'. Refute it at one input. -/
def sessionsEndWrong : ChangeSpec := { name := "sessionsEnd", fn := fun _ => fun
  | [d1, d2, d3] => { results := [.lit (.bool false)], args := [d1, d2, d3] }
  | _ => none }
def SessionsEndWrongFalsely : Prop := sessionsEndRow.holds Tryz.pinned (OpenSpec.ofChange sessionsEndWrong)

/-- 'sketchstorelaw29.SessionsBack': WHATEVER THE INPUT: true; the input reads as it did. -/
def sessionsBackSpec : ChangeSpec := { name := "sessionsBack", fn := fun _ => fun
  | [d1, d2, d3, d4] => { results := [.lit (.bool true)], args := [d1, d2, d3, d4] }
  | _ => none }
def sessionsBackRow : OpenClaim := { program := "ytpnpodbihdiegaagreat", sum := "c8524cdf8526985821d80d715f6341be9f7c8eb308b62df5a4408b02ef1654ca", func := "sketchstore/sketchstorelaw29.SessionsBack", spec := "sessionsBack", apart := false }
def SessionsBackSaid : Prop := sessionsBackRow.holds Tryz.pinned (OpenSpec.ofChange sessionsBackSpec)

/-- ITS FALSE NEIGHBOUR: 'it returns false'. Refute it at one input. -/
def sessionsBackWrong : ChangeSpec := { name := "sessionsBack", fn := fun _ => fun
  | [d1, d2, d3, d4] => { results := [.lit (.bool false)], args := [d1, d2, d3, d4] }
  | _ => none }
def SessionsBackWrongFalsely : Prop := sessionsBackRow.holds Tryz.pinned (OpenSpec.ofChange sessionsBackWrong)

/- THE SECOND FORM. 'bulk': how many values and letters a reading holds, each counted each time it is reached (what is shared counts as often as it is met; a slice's spare places count too). A statement '..UptoSaid' is the law's where the arguments, and the package variables that the reading takes, are together of bulk at most 1048576: NARROWER than '..Said'. Prove '..Said' where nothing that the law and all that it calls make is longer than what came in: it says more and counts as full. Else prove '..UptoSaid'. A law counts once. -/
mutual
def uptoBulk {H : Type} : DataW H → Nat
  | .lit (.string bytes) => bytes.length + 1
  | .lit _ => 1
  | .nil => 1
  | .ptr d => uptoBulk d + 1
  | .slice elems spare => uptoBulkAll elems + uptoBulkAll spare + 1
  | .agg parts => uptoBulkAll parts + 1
  | .iface _ d => uptoBulk d + 1
  | .map entries => uptoBulkEntries entries + 1
  | .held _ => 1
def uptoBulkAll {H : Type} : List (DataW H) → Nat
  | [] => 0
  | d :: r => uptoBulk d + uptoBulkAll r
def uptoBulkEntries {H : Type} : List (Lit × DataW H) → Nat
  | [] => 0
  | x :: r => uptoBulkEntry x + uptoBulkEntries r
def uptoBulkEntry {H : Type} : Lit × DataW H → Nat
  | (.string bytes, d) => bytes.length + uptoBulk d + 1
  | (_, d) => uptoBulk d + 1
 end
def uptoSmall : (H : Type) → List (DataW H) → Bool := fun _ ds => decide (uptoBulkAll ds ≤ 1048576)
def OpenSpec.upto (s : _root_.Go.ChangeSpec) : _root_.Go.OpenSpec := { _root_.Go.OpenSpec.ofChange s with cond := some uptoSmall }

/-- 'sketchstorelaw29.SessionsBegin', WHERE WHAT IT READS IS OF BULK AT MOST 1048576: true; the input reads as it did. -/
def sessionsBeginUptoRow : OpenClaim := { program := "ytpnpodbihdiegaagreat", sum := "c8524cdf8526985821d80d715f6341be9f7c8eb308b62df5a4408b02ef1654ca", func := "sketchstore/sketchstorelaw29.SessionsBegin", spec := "sessionsBegin", apart := false, narrowed := true }
def SessionsBeginUptoSaid : Prop := sessionsBeginUptoRow.holds Tryz.pinned (OpenSpec.upto sessionsBeginSpec)

/-- 'sketchstorelaw29.SessionsEnd', WHERE WHAT IT READS IS OF BULK AT MOST 1048576: true; the input reads as it did. -/
def sessionsEndUptoRow : OpenClaim := { program := "ytpnpodbihdiegaagreat", sum := "c8524cdf8526985821d80d715f6341be9f7c8eb308b62df5a4408b02ef1654ca", func := "sketchstore/sketchstorelaw29.SessionsEnd", spec := "sessionsEnd", apart := false, narrowed := true }
def SessionsEndUptoSaid : Prop := sessionsEndUptoRow.holds Tryz.pinned (OpenSpec.upto sessionsEndSpec)

/-- 'sketchstorelaw29.SessionsBack', WHERE WHAT IT READS IS OF BULK AT MOST 1048576: true; the input reads as it did. -/
def sessionsBackUptoRow : OpenClaim := { program := "ytpnpodbihdiegaagreat", sum := "c8524cdf8526985821d80d715f6341be9f7c8eb308b62df5a4408b02ef1654ca", func := "sketchstore/sketchstorelaw29.SessionsBack", spec := "sessionsBack", apart := false, narrowed := true }
def SessionsBackUptoSaid : Prop := sessionsBackUptoRow.holds Tryz.pinned (OpenSpec.upto sessionsBackSpec)

end Rows
end Go.Proofs.YtpnpodbihdiegaaGreat
