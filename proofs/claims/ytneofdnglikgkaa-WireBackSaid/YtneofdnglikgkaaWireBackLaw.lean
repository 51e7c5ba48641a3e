/- Plain laws: an encoded string is read back, a proper prefix is cut. Condition: the string is within its limit. -/
import Derived.Test.YtneofdnglikgkaaWireLaw
import Derived.Test.YtneofdnglikgkaaWireEnc
namespace Go.Proofs.Ytneofdnglikgkaa
open Go.RowKit Go.ChangeShapes Go.WideShapes
set_option linter.unusedVariables false
set_option linter.unusedSimpArgs false
theorem decT_enc (s : ByteArray) (hs : s.size ≤ 65536) (rest : List Int) : decT (encT s ++ rest) = (s, ((encT s).length : Int), 0) := by
  have hL : encT s = encU s.size ++ sI s := by unfold encT; rw [if_neg (by omega)]
  have hl := length_sI s
  unfold decT
  rw [hL, List.append_assoc, decU_enc _ (by omega) (by omega)]
  unfold decTx
  simp only [Int.toNat_natCast]
  rw [if_neg (by simp), if_neg (by omega), if_neg (by simp only [List.length_append, hl]; omega), List.drop_left, show s.size = (sI s).length from hl.symm, List.take_left, strOfNums_sI, List.length_append]
  simp
theorem decT_cut (s : ByteArray) (hs : s.size ≤ 65536) (k : Nat) (hk : k < (encT s).length) : decT ((encT s).take k) = (⟨#[]⟩, 0, 3) := by
  have hL : encT s = encU s.size ++ sI s := by unfold encT; rw [if_neg (by omega)]
  have hl := length_sI s
  rw [hL] at hk ⊢
  unfold decT
  by_cases hc : k < (encU (s.size : Int)).length
  · rw [List.take_append_of_le_length (by omega), decU_cut _ (by omega) (by omega) k hc]
    rfl
  · rw [List.take_append, List.take_of_length_le (by omega), decU_enc _ (by omega) (by omega)]
    simp only [List.length_append, hl] at hk
    unfold decTx
    rw [if_neg (by simp), if_neg (by simp only; omega), if_pos (by simp only [List.length_append, List.length_take, hl]; omega)]
end Go.Proofs.Ytneofdnglikgkaa
