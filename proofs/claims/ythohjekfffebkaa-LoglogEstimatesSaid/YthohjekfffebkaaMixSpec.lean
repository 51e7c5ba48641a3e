/- The plain functions that the mixer computes. No condition. -/
import Derived.WalkKit
namespace Go.Proofs.Ythohjekfffebkaa
open Go.RowKit
set_option linter.unusedVariables false
set_option linter.unusedSimpArgs false
def bx (x y : Int) : Int := bits BinOp.xor IntKind.u64 x y
def mixF (x : Int) : Int :=
  let a := IntKind.u64.wrap (bx x (x / 1073741824) * 13787848793156543929)
  let b := IntKind.u64.wrap (bx a (a / 134217728) * 10723151780598845931)
  bx b (b / 2147483648)
def tabE (seed : Int) (i : Nat) : Int := mixF (IntKind.u64.wrap (seed + IntKind.u64.wrap (((i : Int) + 1) * 11400714819323198485)))
def tab (seed : Int) : List Int := (List.range 256).map (tabE seed)
def rowF (seed row : Int) : Int := mixF (bx seed (IntKind.u64.wrap (IntKind.u64.wrap (IntKind.u64.wrap row + 1) * 15074714826142052245)))
def rot5 (h : Int) : Int := bits BinOp.or IntKind.u64 (IntKind.u64.wrap (h * 32)) (h / 576460752303423488)
/-- The hash behind k bytes of the key. -/
def hashK (t : List Int) (s : ByteArray) : Nat → Int
  | 0 => t.getD (s.size % 256) 0
  | k + 1 => IntKind.u64.wrap (bx (rot5 (hashK t s k)) (t.getD (((s.data.toList.getD k 0).toNat + k) % 256) 0) * 1099511628211)
def hashF (t : List Int) (s : ByteArray) : Int := mixF (hashK t s s.size)
theorem length_tab (s : Int) : (tab s).length = 256 := by simp [tab]
end Go.Proofs.Ythohjekfffebkaa
