/- Plain laws of frames: a frame is read back, a prefix is cut, a changed byte is noticed. Conditions: bytes are from 0 to 255, the body is within its limit. -/
import Derived.Test.YtneofdnglikgkaaWireLaw
namespace Go.Proofs.Ytneofdnglikgkaa
open Go.RowKit Go.ChangeShapes Go.WideShapes
set_option linter.unusedVariables false
set_option linter.unusedSimpArgs false
def isum : List Int → Int
  | [] => 0
  | c :: l => c + isum l
theorem isum_append (a b : List Int) : isum (a ++ b) = isum a + isum b := by
  induction a with
  | nil => simp [isum]
  | cons c a ih => simp [isum, ih]; omega
theorem isum_set (l : List Int) : ∀ (q : Nat) (c : Int), q < l.length → isum (l.set q c) = isum l + c - gI l q := by
  induction l with
  | nil => intro q c h; simp at h
  | cons d l ih =>
    intro q c h
    cases q with
    | zero => simp [isum, gI]; omega
    | succ q =>
      have := ih q c (by simpa using h)
      have e : gI (d :: l) (q + 1) = gI l q := rfl
      rw [List.set_cons_succ, isum, isum, this, e]
      omega
theorem chkS_sum (l : List Int) : ∀ p : Int × Int, (l.foldl chkS p).1 % 65521 = (p.1 + isum l) % 65521 := by
  induction l with
  | nil => intro p; simp [isum]
  | cons c l ih =>
    intro p
    rw [List.foldl_cons, ih]
    simp only [chkS, isum]
    omega
theorem chk_low (l : List Int) : chk l % 65536 = (1 + isum l) % 65521 := by
  have hr := chkP_range l
  have hs : (chkP l).1 % 65521 = (1 + isum l) % 65521 := chkS_sum l (1, 0)
  unfold chk
  omega
theorem unf_form (hd : Int) (bd s rest : List Int) (hb : bd.length ≤ 1048576) (hs : s.length = 4) :
    unf (hd :: (encU bd.length ++ (bd ++ (s ++ rest)))) =
      if beV s ≠ chk (headL hd bd) then (0, [], 0, 4) else (hd, bd, ((headL hd bd).length : Int) + 4, 0) := by
  unfold unf
  rw [if_neg (by simp), List.tail_cons, decU_enc _ (by omega) (by omega)]
  have e0 : (hd :: (encU bd.length ++ (bd ++ (s ++ rest)))) = headL hd bd ++ (s ++ rest) := by simp [headL]
  have hl := length_headL hd bd
  have hT : (headL hd bd ++ (s ++ rest)).take (1 + (encU bd.length).length + bd.length) = headL hd bd := by
    rw [← hl, List.take_left]
  have hD : (headL hd bd ++ (s ++ rest)).drop (1 + (encU bd.length).length + bd.length) = s ++ rest := by
    rw [← hl, List.drop_left]
  have hS : (s ++ rest).take 4 = s := by rw [← hs, List.take_left]
  have hB : ((headL hd bd ++ (s ++ rest)).drop (1 + (encU bd.length).length)).take bd.length = bd := by
    have : headL hd bd ++ (s ++ rest) = (hd :: encU bd.length) ++ (bd ++ (s ++ rest)) := by simp [headL]
    rw [this, show 1 + (encU bd.length).length = (hd :: encU bd.length).length from by simp; omega, List.drop_left, List.take_left]
  have hG : gI (headL hd bd ++ (s ++ rest)) 0 = hd := rfl
  rw [e0]
  unfold unfR
  simp only [Int.toNat_natCast]
  rw [if_neg (by simp), if_neg (by omega), if_neg (by simp only [List.length_append, hl, hs]; omega), hT, hD, hS, hB, hG, hl]
  congr 3
theorem unf_frame (hd : Int) (bd rest : List Int) (hb : bd.length ≤ 1048576) : unf (frameL hd bd ++ rest) = (hd, bd, ((frameL hd bd).length : Int), 0) := by
  have hX := chk_range (headL hd bd)
  have hf : frameL hd bd = headL hd bd ++ beB 4 (chk (headL hd bd)) := by unfold frameL; rw [if_neg (by omega)]
  have hx : beV (beB 4 (chk (headL hd bd))) = chk (headL hd bd) := beV_beB 4 _ hX.1 (by simpa using hX.2)
  have := unf_form hd bd (beB 4 (chk (headL hd bd))) rest hb (length_beB 4 _)
  rw [if_neg (by rw [hx]; simp)] at this
  rw [hf, List.length_append, length_beB]
  have e : headL hd bd ++ beB 4 (chk (headL hd bd)) ++ rest = hd :: (encU bd.length ++ (bd ++ (beB 4 (chk (headL hd bd)) ++ rest))) := by simp [headL]
  rw [e, this]
  simp
theorem unf_cut (hd : Int) (bd : List Int) (hb : bd.length ≤ 1048576) (k : Nat) (hk : k < (frameL hd bd).length) : unf ((frameL hd bd).take k) = (0, [], 0, 3) := by
  have hf : frameL hd bd = headL hd bd ++ beB 4 (chk (headL hd bd)) := by unfold frameL; rw [if_neg (by omega)]
  have hs := length_beB 4 (chk (headL hd bd))
  generalize beB 4 (chk (headL hd bd)) = s at hf hs
  have e : frameL hd bd = hd :: (encU bd.length ++ (bd ++ s)) := by rw [hf]; simp [headL]
  cases k with
  | zero => rfl
  | succ k =>
    rw [e] at hk ⊢
    rw [List.take_succ_cons]
    unfold unf
    rw [if_neg (by simp), List.tail_cons]
    by_cases hc : k < (encU bd.length).length
    · rw [List.take_append_of_le_length (by omega), decU_cut _ (by omega) (by omega) k hc]
      rfl
    · rw [List.take_append, List.take_of_length_le (by omega), decU_enc _ (by omega) (by omega)]
      unfold unfR
      simp only [List.length_cons, List.length_append] at hk
      rw [if_neg (by simp), if_neg (by simp only; omega), if_pos (by simp only [List.length_cons, List.length_append, List.length_take]; omega)]
theorem gI_append_right (a b : List Int) (i : Nat) : gI (a ++ b) (a.length + i) = gI b i := by
  simp only [gI, List.getD_eq_getElem?_getD]
  rw [List.getElem?_append_right (by omega), Nat.add_sub_cancel_left]
theorem unf_torn (hd : Int) (bd : List Int) (hb : bd.length ≤ 1048576) (q : Nat) (hq : q < bd.length) (c : Int) (hc : 0 ≤ c ∧ c ≤ 255) (ho : 0 ≤ gI bd q ∧ gI bd q ≤ 255) (hne : c ≠ gI bd q) :
    unf ((frameL hd bd).set (1 + (encU bd.length).length + q) c) = (0, [], 0, 4) := by
  have hX := chk_range (headL hd bd)
  have hf : frameL hd bd = headL hd bd ++ beB 4 (chk (headL hd bd)) := by unfold frameL; rw [if_neg (by omega)]
  have hx : beV (beB 4 (chk (headL hd bd))) = chk (headL hd bd) := beV_beB 4 _ hX.1 (by simpa using hX.2)
  have hlb : (bd.set q c).length = bd.length := by simp
  have e : (frameL hd bd).set (1 + (encU bd.length).length + q) c = hd :: (encU (bd.set q c).length ++ (bd.set q c ++ (beB 4 (chk (headL hd bd)) ++ []))) := by
    rw [hf, hlb, List.append_nil]
    have e1 : headL hd bd ++ beB 4 (chk (headL hd bd)) = (hd :: encU bd.length) ++ (bd ++ beB 4 (chk (headL hd bd))) := by simp [headL]
    rw [e1, List.set_append_right _ _ (by simp; omega), show 1 + (encU bd.length).length + q - (hd :: encU bd.length).length = q from by simp; omega, List.set_append_left _ _ hq]
    simp
  rw [e, unf_form hd (bd.set q c) _ [] (by omega) (length_beB 4 _), if_pos]
  rw [hx]
  intro h
  have h1 := chk_low (headL hd bd)
  have h2 := chk_low (headL hd (bd.set q c))
  rw [h] at h1
  have e3 : isum (headL hd (bd.set q c)) = isum (headL hd bd) + c - gI bd q := by
    unfold headL
    rw [hlb]
    simp only [isum, isum_append]
    rw [isum_set _ _ _ hq]
    omega
  rw [e3] at h2
  omega
end Go.Proofs.Ytneofdnglikgkaa
