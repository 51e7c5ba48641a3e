/- Parts of the proof, laid together. No condition. -/
import Derived.Test.YthlaenafkihjiaaK5
import Derived.Deep.Slices
import Derived.ChangeArms
import Derived.Below
/- Plain laws of frames: a frame is read back, a prefix is cut, a changed byte is noticed. Conditions: bytes are from 0 to 255, the body is within its limit. -/
namespace Go.Proofs.Ythlaenafkihjiaa
open Go.RowKit Go.ChangeShapes Go.WideShapes
set_option linter.unusedVariables false
set_option linter.unusedSimpArgs false
def isum : List Int → Int
  | [] => 0
  | c :: l => c + isum l
theorem isum_append (a b : List Int) : isum (a ++ b) = isum a + isum b := by
  induction a with
  | nil => simp [isum]
  | cons c a ih => simp [isum, ih]; omega
theorem isum_set (l : List Int) : ∀ (q : Nat) (c : Int), q < l.length → isum (l.set q c) = isum l + c - gI l q := by
  induction l with
  | nil => intro q c h; simp at h
  | cons d l ih =>
    intro q c h
    cases q with
    | zero => simp [isum, gI]; omega
    | succ q =>
      have := ih q c (by simpa using h)
      have e : gI (d :: l) (q + 1) = gI l q := rfl
      rw [List.set_cons_succ, isum, isum, this, e]
      omega
theorem chkS_sum (l : List Int) : ∀ p : Int × Int, (l.foldl chkS p).1 % 65521 = (p.1 + isum l) % 65521 := by
  induction l with
  | nil => intro p; simp [isum]
  | cons c l ih =>
    intro p
    rw [List.foldl_cons, ih]
    simp only [chkS, isum]
    omega
theorem chk_low (l : List Int) : chk l % 65536 = (1 + isum l) % 65521 := by
  have hr := chkP_range l
  have hs : (chkP l).1 % 65521 = (1 + isum l) % 65521 := chkS_sum l (1, 0)
  unfold chk
  omega
theorem unf_form (hd : Int) (bd s rest : List Int) (hb : bd.length ≤ 1048576) (hs : s.length = 4) :
    unf (hd :: (encU bd.length ++ (bd ++ (s ++ rest)))) =
      if beV s ≠ chk (headL hd bd) then (0, [], 0, 4) else (hd, bd, ((headL hd bd).length : Int) + 4, 0) := by
  unfold unf
  rw [if_neg (by simp), List.tail_cons, decU_enc _ (by omega) (by omega)]
  have e0 : (hd :: (encU bd.length ++ (bd ++ (s ++ rest)))) = headL hd bd ++ (s ++ rest) := by simp [headL]
  have hl := length_headL hd bd
  have hT : (headL hd bd ++ (s ++ rest)).take (1 + (encU bd.length).length + bd.length) = headL hd bd := by
    rw [← hl, List.take_left]
  have hD : (headL hd bd ++ (s ++ rest)).drop (1 + (encU bd.length).length + bd.length) = s ++ rest := by
    rw [← hl, List.drop_left]
  have hS : (s ++ rest).take 4 = s := by rw [← hs, List.take_left]
  have hB : ((headL hd bd ++ (s ++ rest)).drop (1 + (encU bd.length).length)).take bd.length = bd := by
    have : headL hd bd ++ (s ++ rest) = (hd :: encU bd.length) ++ (bd ++ (s ++ rest)) := by simp [headL]
    rw [this, show 1 + (encU bd.length).length = (hd :: encU bd.length).length from by simp; omega, List.drop_left, List.take_left]
  have hG : gI (headL hd bd ++ (s ++ rest)) 0 = hd := rfl
  rw [e0]
  unfold unfR
  simp only [Int.toNat_natCast]
  rw [if_neg (by simp), if_neg (by omega), if_neg (by simp only [List.length_append, hl, hs]; omega), hT, hD, hS, hB, hG, hl]
  congr 3
theorem unf_frame (hd : Int) (bd rest : List Int) (hb : bd.length ≤ 1048576) : unf (frameL hd bd ++ rest) = (hd, bd, ((frameL hd bd).length : Int), 0) := by
  have hX := chk_range (headL hd bd)
  have hf : frameL hd bd = headL hd bd ++ beB 4 (chk (headL hd bd)) := by unfold frameL; rw [if_neg (by omega)]
  have hx : beV (beB 4 (chk (headL hd bd))) = chk (headL hd bd) := beV_beB 4 _ hX.1 (by simpa using hX.2)
  have := unf_form hd bd (beB 4 (chk (headL hd bd))) rest hb (length_beB 4 _)
  rw [if_neg (by rw [hx]; simp)] at this
  rw [hf, List.length_append, length_beB]
  have e : headL hd bd ++ beB 4 (chk (headL hd bd)) ++ rest = hd :: (encU bd.length ++ (bd ++ (beB 4 (chk (headL hd bd)) ++ rest))) := by simp [headL]
  rw [e, this]
  simp
theorem unf_cut (hd : Int) (bd : List Int) (hb : bd.length ≤ 1048576) (k : Nat) (hk : k < (frameL hd bd).length) : unf ((frameL hd bd).take k) = (0, [], 0, 3) := by
  have hf : frameL hd bd = headL hd bd ++ beB 4 (chk (headL hd bd)) := by unfold frameL; rw [if_neg (by omega)]
  have hs := length_beB 4 (chk (headL hd bd))
  generalize beB 4 (chk (headL hd bd)) = s at hf hs
  have e : frameL hd bd = hd :: (encU bd.length ++ (bd ++ s)) := by rw [hf]; simp [headL]
  cases k with
  | zero => rfl
  | succ k =>
    rw [e] at hk ⊢
    rw [List.take_succ_cons]
    unfold unf
    rw [if_neg (by simp), List.tail_cons]
    by_cases hc : k < (encU bd.length).length
    · rw [List.take_append_of_le_length (by omega), decU_cut _ (by omega) (by omega) k hc]
      rfl
    · rw [List.take_append, List.take_of_length_le (by omega), decU_enc _ (by omega) (by omega)]
      unfold unfR
      simp only [List.length_cons, List.length_append] at hk
      rw [if_neg (by simp), if_neg (by simp only; omega), if_pos (by simp only [List.length_cons, List.length_append, List.length_take]; omega)]
theorem gI_append_right (a b : List Int) (i : Nat) : gI (a ++ b) (a.length + i) = gI b i := by
  simp only [gI, List.getD_eq_getElem?_getD]
  rw [List.getElem?_append_right (by omega), Nat.add_sub_cancel_left]
theorem unf_torn (hd : Int) (bd : List Int) (hb : bd.length ≤ 1048576) (q : Nat) (hq : q < bd.length) (c : Int) (hc : 0 ≤ c ∧ c ≤ 255) (ho : 0 ≤ gI bd q ∧ gI bd q ≤ 255) (hne : c ≠ gI bd q) :
    unf ((frameL hd bd).set (1 + (encU bd.length).length + q) c) = (0, [], 0, 4) := by
  have hX := chk_range (headL hd bd)
  have hf : frameL hd bd = headL hd bd ++ beB 4 (chk (headL hd bd)) := by unfold frameL; rw [if_neg (by omega)]
  have hx : beV (beB 4 (chk (headL hd bd))) = chk (headL hd bd) := beV_beB 4 _ hX.1 (by simpa using hX.2)
  have hlb : (bd.set q c).length = bd.length := by simp
  have e : (frameL hd bd).set (1 + (encU bd.length).length + q) c = hd :: (encU (bd.set q c).length ++ (bd.set q c ++ (beB 4 (chk (headL hd bd)) ++ []))) := by
    rw [hf, hlb, List.append_nil]
    have e1 : headL hd bd ++ beB 4 (chk (headL hd bd)) = (hd :: encU bd.length) ++ (bd ++ beB 4 (chk (headL hd bd))) := by simp [headL]
    rw [e1, List.set_append_right _ _ (by simp; omega), show 1 + (encU bd.length).length + q - (hd :: encU bd.length).length = q from by simp; omega, List.set_append_left _ _ hq]
    simp
  rw [e, unf_form hd (bd.set q c) _ [] (by omega) (length_beB 4 _), if_pos]
  rw [hx]
  intro h
  have h1 := chk_low (headL hd bd)
  have h2 := chk_low (headL hd (bd.set q c))
  rw [h] at h1
  have e3 : isum (headL hd (bd.set q c)) = isum (headL hd bd) + c - gI bd q := by
    unfold headL
    rw [hlb]
    simp only [isum, isum_append]
    rw [isum_set _ _ _ hq]
    omega
  rw [e3] at h2
  omega
end Go.Proofs.Ythlaenafkihjiaa
/- DecodeUint, DecodeWord, DecodeText and Unframe of the program answer the plain functions decU, decW, decT, unf. Condition: bytes are from 0 to 255. -/
namespace Go.Proofs.Ythlaenafkihjiaa
open Go.RowKit
set_option linter.unusedVariables false
set_option linter.unusedSimpArgs false
/-- A list of bytes, not longer than the memory. -/
def Byt (l : List Int) : Prop := l.length ≤ 140737488355328 ∧ ∀ c ∈ l, (Lit.int .u8 c).wf = true
theorem Byt.drop {l : List Int} (h : Byt l) (n : Nat) : Byt (l.drop n) := ⟨by have := h.1; rw [List.length_drop]; omega, fun c hc => h.2 c (List.mem_of_mem_drop hc)⟩
theorem Byt.take {l : List Int} (h : Byt l) (n : Nat) : Byt (l.take n) := ⟨by have := h.1; rw [List.length_take]; omega, fun c hc => h.2 c (List.mem_of_mem_take hc)⟩
theorem Byt.b {l : List Int} (h : Byt l) : ∀ c ∈ l, 0 ≤ c ∧ c ≤ 255 := fun c hc => bounds_u8 (h.2 c hc)
theorem Byt.of {l : List Int} (hl : l.length ≤ 140737488355328) (h : ∀ c ∈ l, 0 ≤ c ∧ c ≤ 255) : Byt l := ⟨hl, fun c hc => wf_u8 (h c hc).1 (h c hc).2⟩
theorem gI_ix {l : List Int} {j : Nat} (h : j < l.length) : ix l (j : Int) (gI l j) := ⟨by omega, by simp [gI, h]⟩
theorem ishl8 (X : Int) : iShl .u64 X 8 = IntKind.u64.wrap (X * 256) := rfl
theorem ishl8w (X : Int) : iShl .u32 X 8 = IntKind.u32.wrap (X * 256) := rfl
theorem shl_or {X c : Int} (h0 : 0 ≤ X) (h1 : X < 72057594037927936) (c0 : 0 ≤ c) (c1 : c ≤ 255) : bOr .u64 (iShl .u64 X 8) (IntKind.u64.wrap c) = X * 256 + c := by
  rw [ishl8, wrapu (by omega), wrapu (by omega)]
  exact beV_step h0 h1 c0 c1
theorem shl_orw {X c : Int} (h0 : 0 ≤ X) (h1 : X < 16777216) (c0 : 0 ≤ c) (c1 : c ≤ 255) : bOr .u32 (iShl .u32 X 8) (IntKind.u32.wrap c) = X * 256 + c := by
  rw [ishl8w, u32r (by omega), u32r (by omega)]
  exact beV32_step h0 h1 c0 c1
/-- The loop that joins up to eight bytes. -/
theorem be_loop {q : List Int} (h8 : q.length ≤ 8) (hw : ∀ c ∈ q, (Lit.int .u8 c).wf = true) {J : Int × Int → Prop} (hJ : ∀ i, J (beV q, i)) :
    lp (fun (X : Int × Int → Prop) (s : Int × Int) => (((decide ((s.2) < ((q.length : Int)))) = true → ∃ (v : Int), ix q (s.2) v ∧ X ((bOr .u64 (iShl .u64 (s.1) (8)) (IntKind.u64.wrap (v))), (IntKind.i64.wrap ((s.2) + (1))))) ∧ ((decide ((s.2) < ((q.length : Int)))) = false → J s))) ((0), (0)) := by
  refine lp_up (I := fun k s => ∃ j : Nat, s.2 = (j : Int) ∧ j ≤ q.length ∧ k = q.length - j ∧ s.1 = beV (q.take j)) ?_ (k := q.length) ⟨0, rfl, by omega, by omega, rfl⟩
  rintro k ⟨x, i⟩ ⟨j, hj, hj1, hk, hx⟩ X hX
  simp only at hj hx ⊢
  subst hj; subst hx
  refine ⟨fun h => ?_, fun h => ?_⟩
  · have hj2 : j < q.length := by simp at h; omega
    obtain ⟨c, hc, hg⟩ := ix_any (l := q) (n := (j : Int)) (by omega) (by omega)
    have hcw := bounds_u8 (hw c (List.mem_of_getElem? hg))
    have hb := beV_take q hw j (by omega)
    refine ⟨c, hc, ?_⟩
    rw [wr64 (by omega), shl_or hb.1 hb.2 hcw.1 hcw.2]
    refine hX (q.length - (j+1)) _ (by omega) ⟨j+1, by simp, by omega, rfl, ?_⟩
    have e : q.take (j+1) = q.take j ++ [c] := by rw [List.take_add_one]; simp at hg; simp [hg]
    simp only
    rw [e, beV_snoc]
  · have hj2 : j = q.length := by simp at h; omega
    rw [List.take_of_length_le (by omega)]
    exact hJ _
theorem be_loopw {q : List Int} (h8 : q.length ≤ 4) (hw : ∀ c ∈ q, (Lit.int .u8 c).wf = true) {J : Int × Int → Prop} (hJ : ∀ i, J (beV q, i)) :
    lp (fun (X : Int × Int → Prop) (s : Int × Int) => (((decide ((s.2) < ((q.length : Int)))) = true → ∃ (v : Int), ix q (s.2) v ∧ X ((bOr .u32 (iShl .u32 (s.1) (8)) (IntKind.u32.wrap (v))), (IntKind.i64.wrap ((s.2) + (1))))) ∧ ((decide ((s.2) < ((q.length : Int)))) = false → J s))) ((0), (0)) := by
  refine lp_up (I := fun k s => ∃ j : Nat, s.2 = (j : Int) ∧ j ≤ q.length ∧ k = q.length - j ∧ s.1 = beV (q.take j)) ?_ (k := q.length) ⟨0, rfl, by omega, by omega, rfl⟩
  rintro k ⟨x, i⟩ ⟨j, hj, hj1, hk, hx⟩ X hX
  simp only at hj hx ⊢
  subst hj; subst hx
  refine ⟨fun h => ?_, fun h => ?_⟩
  · have hj2 : j < q.length := by simp at h; omega
    obtain ⟨c, hc, hg⟩ := ix_any (l := q) (n := (j : Int)) (by omega) (by omega)
    have hcw := bounds_u8 (hw c (List.mem_of_getElem? hg))
    have hb := beV_take3 q hw j (by omega)
    refine ⟨c, hc, ?_⟩
    rw [wr64 (by omega), shl_orw hb.1 hb.2 hcw.1 hcw.2]
    refine hX (q.length - (j+1)) _ (by omega) ⟨j+1, by simp, by omega, rfl, ?_⟩
    have e : q.take (j+1) = q.take j ++ [c] := by rw [List.take_add_one]; simp at hg; simp [hg]
    simp only
    rw [e, beV_snoc]
  · have hj2 : j = q.length := by simp at h; omega
    rw [List.take_of_length_le (by omega)]
    exact hJ _
theorem f_wire_DecodeUint (l : List Int) (B : Byt l) : R_wire_DecodeUint l (decU l) := by
  obtain ⟨hl, hw⟩ := B
  unfold R_wire_DecodeUint W_wire_DecodeUint
  simp only [jn, bif_or]
  refine ⟨fun h => ?_, fun h => ?_⟩
  · have : l = [] := by simpa using h
    subst this; rfl
  have h0 : l ≠ [] := by intro e; subst e; simp at h
  have hp : 0 < l.length := List.length_pos_iff.2 h0
  have g0 := gI_u8 hw 0
  have i0 : ix l 0 (gI l 0) := gI_ix (j := 0) hp
  refine ⟨_, i0, fun h => ?_, fun h => ?_⟩
  · have h1 : gI l 0 < 248 := by simpa using h
    refine ⟨_, i0, ?_⟩
    unfold decU; rw [if_neg h0, if_pos h1, wr64 (by omega)]
  have h1 : ¬ gI l 0 < 248 := by simpa using h
  refine ⟨_, i0, ?_⟩
  have e1 : IntKind.i64.wrap (1 + IntKind.i64.wrap (IntKind.i64.wrap (IntKind.i64.wrap (gI l 0) - 248) + 1)) = gI l 0 - 246 := by
    rw [wr64 (n := gI l 0) (by omega), wr64 (n := gI l 0 - 248) (by omega), wr64 (n := gI l 0 - 248 + 1) (by omega), wr64 (by omega)]; omega
  rw [e1]
  refine ⟨fun h => ?_, fun h => ?_⟩
  · have h2 : (l.length : Int) ≤ gI l 0 - 247 := by simp at h; omega
    unfold decU; rw [if_neg h0, if_neg h1, if_pos h2]
  have h2 : ¬ (l.length : Int) ≤ gI l 0 - 247 := by simp at h; omega
  refine ⟨by omega, ?_⟩
  obtain ⟨m, hm⟩ : ∃ m : Nat, gI l 0 - 247 = (m : Int) := ⟨(gI l 0 - 247).toNat, by omega⟩
  have e2 : List.drop (Int.toNat 1) (List.take (Int.toNat (gI l 0 - 246)) l) = l.tail.take m := by
    have e3 : (gI l 0 - 246).toNat = m + 1 := by omega
    rw [e3]
    cases l with
    | nil => exact absurd rfl h0
    | cons c r => rfl
  rw [e2]
  have lm : (l.tail.take m).length = m := by simp; omega
  have wm : ∀ c ∈ l.tail.take m, (Lit.int .u8 c).wf = true := fun c hc => hw c (List.mem_of_mem_tail (List.mem_of_mem_take hc))
  have hd : decU l = if gI l 1 = 0 ∨ beV (l.tail.take m) < 248 ∨ beV (l.tail.take m) > 4611686018427387904 then (0,0,2) else (beV (l.tail.take m), gI l 0 - 246, 0) := by
    unfold decU; rw [if_neg h0, if_neg h1, if_neg h2, hm]; rfl
  have hx0 := (beV_lt _ wm).1
  refine be_loop ?_ wm (fun i => ?_)
  · omega
  simp only
  refine ⟨gI l 1, gI_ix (j := 1) (by omega), fun h => ?_, fun h => ?_⟩
  · rw [hd, if_pos (by simpa [or_assoc] using h)]
  · have h3 : ¬ (gI l 1 = 0 ∨ beV (l.tail.take m) < 248 ∨ beV (l.tail.take m) > 4611686018427387904) := by
      intro c; simp only [Bool.or_eq_false_iff, decide_eq_false_iff_not, beq_eq_false_iff_ne] at h; omega
    rw [hd, if_neg h3, wr64 (by omega)]
theorem f_wire_DecodeWord (l : List Int) (B : Byt l) : R_wire_DecodeWord l (decW l) := by
  obtain ⟨hl, hw⟩ := B
  unfold R_wire_DecodeWord W_wire_DecodeWord
  simp only [jn]
  refine ⟨fun h => ?_, fun h => ?_⟩
  · have h' : l.length < 8 := by simp at h; omega
    unfold decW; rw [if_pos h']
  have h' : ¬ l.length < 8 := by simp at h; omega
  refine ⟨by omega, ?_⟩
  have e : List.take (Int.toNat 8) l = l.take 8 := rfl
  rw [e]
  refine be_loop ?_ (fun c hc => hw c (List.mem_of_mem_take hc)) (fun i => ?_)
  · simp; omega
  unfold decW; rw [if_neg h']
theorem f_wire_DecodeText (l : List Int) (B : Byt l) : R_wire_DecodeText l (decT l) := by
  obtain ⟨hl, hw⟩ := B
  unfold R_wire_DecodeText W_wire_DecodeText
  obtain ⟨n, k, e, hd⟩ : ∃ n k e, decU l = (n, k, e) := ⟨_, _, _, rfl⟩
  have ht : decT l = decTx l (n, k, e) := by unfold decT; rw [hd]
  refine ⟨decU l, f_wire_DecodeUint l ⟨hl, hw⟩, ?_⟩
  rw [hd, ht]
  simp only
  refine ⟨fun h => ?_, fun h => ?_⟩
  · have he : e ≠ 0 := by simpa using h
    unfold decTx; rw [if_pos he]
  have he : e = 0 := by simpa using h
  subst he
  have hk := decU_ok hw hd
  refine ⟨fun h => ?_, fun h => ?_⟩
  · have h1 : n > 65536 := by simpa using h
    unfold decTx; rw [if_neg (by simp), if_pos h1]
  have h1 : ¬ n > 65536 := by simpa using h
  have e1 : IntKind.i64.wrap ((l.length : Int) - k) = (l.length : Int) - k := wr64 (by omega)
  have e2 : IntKind.i64.wrap (k + n) = k + n := wr64 (by omega)
  rw [e1, e2]
  refine ⟨fun h => ?_, fun h => ?_⟩
  · have h2 : (l.length : Int) - k < n := by simpa using h
    unfold decTx; rw [if_neg (by simp), if_neg h1, if_pos h2]
  have h2 : ¬ (l.length : Int) - k < n := by simpa using h
  refine ⟨by omega, ?_⟩
  unfold decTx; rw [if_neg (by simp), if_neg h1, if_neg h2]
  have e3 : (k + n).toNat = k.toNat + n.toNat := by omega
  have e4 : List.drop k.toNat (List.take (k.toNat + n.toNat) l) = List.take n.toNat (List.drop k.toNat l) := by
    rw [List.drop_take]; congr 1; omega
  rw [e3, e4]
theorem f_wire_Unframe (l : List Int) (B : Byt l) : R_wire_Unframe l (unf l) := by
  have B' := B
  obtain ⟨hl, hw⟩ := B
  unfold R_wire_Unframe W_wire_Unframe
  simp only [jn]
  refine ⟨fun h => ?_, fun h => ?_⟩
  · have : l = [] := by simpa using h
    subst this; rfl
  have h0 : l ≠ [] := by intro e; subst e; simp at h
  have hp : 0 < l.length := List.length_pos_iff.2 h0
  have et : List.drop (Int.toNat 1) l = l.tail := by cases l <;> rfl
  rw [et]
  have Bt : Byt l.tail := by rw [← et]; exact B'.drop _
  obtain ⟨n, k, e, hd⟩ : ∃ n k e, decU l.tail = (n, k, e) := ⟨_, _, _, rfl⟩
  have hu : unf l = unfR l (n, k, e) := by unfold unf; rw [if_neg h0, hd]
  refine ⟨by omega, decU l.tail, f_wire_DecodeUint _ Bt, ?_⟩
  rw [hd, hu]
  simp only
  refine ⟨fun h => ?_, fun h => ?_⟩
  · have he : e ≠ 0 := by simpa using h
    unfold unfR; rw [if_pos he]
  have he : e = 0 := by simpa using h
  subst he
  have hk := decU_ok Bt.2 hd
  have lt : l.tail.length = l.length - 1 := by simp
  refine ⟨fun h => ?_, fun h => ?_⟩
  · have h1 : n > 1048576 := by simpa using h
    unfold unfR; rw [if_neg (by simp), if_pos h1]
  have h1 : ¬ n > 1048576 := by simpa using h
  have e1 : IntKind.i64.wrap (1 + k) = 1 + k := wr64 (by omega)
  have e2 : IntKind.i64.wrap (1 + k + n) = 1 + k + n := wr64 (by omega)
  have e3 : IntKind.i64.wrap (1 + k + n + 4) = 1 + k + n + 4 := wr64 (by omega)
  rw [e1, e2, e3]
  refine ⟨fun h => ?_, fun h => ?_⟩
  · have h2 : (l.length : Int) < 1 + k + n + 4 := by simpa using h
    unfold unfR; rw [if_neg (by simp), if_neg h1, if_pos h2]
  have h2 : ¬ (l.length : Int) < 1 + k + n + 4 := by simpa using h
  refine ⟨by omega, ?_⟩
  obtain ⟨K, hK⟩ : ∃ K : Nat, k = (K : Int) := ⟨k.toNat, by omega⟩
  obtain ⟨M, hM⟩ : ∃ M : Nat, n = (M : Int) := ⟨n.toNat, by omega⟩
  subst hK; subst hM
  have a1 : Int.toNat (1 + (K : Int) + (M : Int)) = 1 + K + M := by omega
  have a2 : Int.toNat (1 + (K : Int) + (M : Int) + 4) = 1 + K + M + 4 := by omega
  have a3 : Int.toNat (1 + (K : Int)) = 1 + K := by omega
  rw [a1, a2, a3]
  have d1 : List.drop (1 + K + M) (List.take (1 + K + M + 4) l) = List.take 4 (List.drop (1 + K + M) l) := by
    rw [List.drop_take]; congr 1; omega
  have d2 : List.drop (1 + K) (List.take (1 + K + M) l) = List.take M (List.drop (1 + K) l) := by
    rw [List.drop_take]; congr 1; omega
  rw [d1, d2]
  refine be_loopw ?_ (fun c hc => hw c (List.mem_of_mem_drop (List.mem_of_mem_take hc))) (fun i => ?_)
  · simp; omega
  simp only
  refine ⟨by omega, chk (l.take (1 + K + M)), f_wire_Checksum _ ?_ ?_, fun h => ?_, fun h => ?_⟩
  · simp; omega
  · exact (B'.take _).b
  · have h3 : beV (List.take 4 (List.drop (1 + K + M) l)) ≠ chk (List.take (1 + K + M) l) := by simpa using h
    unfold unfR; simp only [Int.toNat_natCast]; rw [if_neg (by simp), if_neg h1, if_neg h2, if_pos h3]
  · have h3 : ¬ beV (List.take 4 (List.drop (1 + K + M) l)) ≠ chk (List.take (1 + K + M) l) := by simpa using h
    refine ⟨gI l 0, gI_ix (j := 0) hp, by omega, ?_, ?_⟩
    · simp; omega
    · unfold unfR; simp only [Int.toNat_natCast]; rw [if_neg (by simp), if_neg h1, if_neg h2, if_neg h3]; simp
end Go.Proofs.Ythlaenafkihjiaa
/- Validate of operations in the program and in the reference answer one plain function. No condition. -/
namespace Go.Proofs.Ythlaenafkihjiaa
open Go.RowKit
set_option linter.unusedVariables false
set_option linter.unusedSimpArgs false
def rngE (n lo hi : Int) : Int := if lo ≤ n ∧ n ≤ hi then 0 else 5
def shoE (n m : Int) : Int := if n > m then 11 else 0
/-- What check answers for a field. -/
def chkE (x : T_api_Op) (f : Nat) : Int :=
  match f with
  | 0 => nm6 x.fName
  | 1 => nm6 x.fOther
  | 2 => nlE x.fNames
  | 3 => parE x.fParams.fKind x.fParams.fSize x.fParams.fDepth x.fParams.fSeed
  | 4 => ilE x.fItems
  | 5 => shoE x.fCoins.length 64
  | 6 => rngE x.fExpected 1 1048576
  | 7 => rngE x.fSource 1 1048576
  | 8 => rngE x.fHandle 0 3
  | 9 => rngE x.fIndex 0 15
  | 10 => rngE x.fCursor 0 3
  | 11 => rngE x.fCount 0 32
  | 12 => qryE x.fQuery.fKind x.fQuery.fKey x.fQuery.fCount x.fQuery.fNum x.fQuery.fDen
  | _ => shoE x.fData.length 65536
theorem f_operation_between (n lo hi : Int) : R_operation_between n lo hi (rngE n lo hi) := i_operation_between.2 rfl
theorem f_operation_short (l : List Int) (m : Int) : R_operation_short l m (shoE l.length m) := by
  unfold R_operation_short W_operation_short shoE
  by_cases h : (l.length : Int) > m <;> simp [h]
theorem f_operation_check (x : T_api_Op) {f : Nat} (hf : f < 14) : R_operation_check x (f : Int) (chkE x f) := by
  unfold R_operation_check W_operation_check
  rcases fld14 hf with rfl | rfl | rfl | rfl | rfl | rfl | rfl | rfl | rfl | rfl | rfl | rfl | rfl | rfl
  · simp; exact f_operation_name x.fName
  · simp; exact f_operation_name x.fOther
  · simp; exact f_operation_list x.fNames
  · simp; exact f_sketch_ValidateParams x.fParams
  · simp; exact f_operation_items x.fItems
  · simp; exact f_operation_short x.fCoins 64
  · simp; exact f_operation_between x.fExpected 1 1048576
  · simp; exact f_operation_between x.fSource 1 1048576
  · simp; exact f_operation_between x.fHandle 0 3
  · simp; exact f_operation_between x.fIndex 0 15
  · simp; exact f_operation_between x.fCursor 0 3
  · simp; exact f_operation_between x.fCount 0 32
  · simp; exact f_query_Validate x.fQuery
  · simp; exact f_operation_short x.fData 65536
theorem fst0_le {α : Type} {f : α → Int} (h : ∀ x, 0 ≤ f x ∧ f x ≤ 18) (l : List α) : 0 ≤ fst0 f l ∧ fst0 f l ≤ 18 := by
  induction l with
  | nil => simp [fst0]
  | cons a r ih => (unfold fst0; split; exact h a; exact ih)
theorem chkE_le (x : T_api_Op) (f : Nat) : 0 ≤ chkE x f ∧ chkE x f ≤ 18 := by
  have hn : ∀ s, 0 ≤ nm6 s ∧ nm6 s ≤ 18 := by intro s; unfold nm6; split <;> decide
  have hi : ∀ s, 0 ≤ itE s ∧ itE s ≤ 18 := by intro s; unfold itE; repeat' split
                                              all_goals decide
  have hs : ∀ n m, 0 ≤ shoE n m ∧ shoE n m ≤ 18 := by intro n m; unfold shoE; split <;> decide
  have hr : ∀ n a b, 0 ≤ rngE n a b ∧ rngE n a b ≤ 18 := by intro n a b; unfold rngE; split <;> decide
  have hl := fst0_le hn
  have hl2 := fst0_le hi
  unfold chkE
  split
  · exact hn _
  · exact hn _
  · unfold nlE; (split; decide; exact hl _)
  · unfold parE; repeat' split
    all_goals decide
  · unfold ilE; (split; decide; exact hl2 _)
  · exact hs _ _
  · exact hr _ _ _
  · exact hr _ _ _
  · exact hr _ _ _
  · exact hr _ _ _
  · exact hr _ _ _
  · exact hr _ _ _
  · unfold qryE; repeat' split
    all_goals decide
  · exact hs _ _
theorem fnz_le {L : List Int} (h : ∀ e ∈ L, 0 ≤ e ∧ e ≤ 18) : 0 ≤ fnz L ∧ fnz L ≤ 18 := by
  induction L with
  | nil => simp [fnz]
  | cons a r ih => (unfold fnz; split; exact h a (by simp); exact ih fun e he => h e (by simp [he]))
def vldE (x : T_api_Op) : Int := valO (opD x) (chkE x)
theorem vldE_le (x : T_api_Op) : 0 ≤ vldE x ∧ vldE x ≤ 18 := by
  have h : 0 ≤ fnz (mchk (opD x).kind (chkE x)) ∧ fnz (mchk (opD x).kind (chkE x)) ≤ 18 := by
    refine fnz_le fun e he => ?_
    unfold mchk at he
    obtain ⟨f, _, rfl⟩ := List.mem_map.1 he
    (split; exact chkE_le _ _; decide)
  unfold vldE valO
  split
  · decide
  · split
    · exact h
    · split <;> decide
theorem f_operation_Validate (x : T_api_Op) : R_operation_Validate x (vldE x) := by
  refine ⟨?_, chkE x, fun f hf _ => f_operation_check x hf, rfl⟩
  have h := vldE_le x
  simp [Lit.wf, IntKind.min, IntKind.max, IntKind.signed, IntKind.bits]; omega
theorem mine_useT {k : Int} (hk : kindB k) : [mineB k 0, mineB k 1, mineB k 2, mineB k 3, mineB k 4, mineB k 5, mineB k 6, mineB k 7, mineB k 8, mineB k 9, mineB k 10, mineB k 11, mineB k 12, mineB k 13] = [(useT k).fe0, (useT k).fe1, (useT k).fe2, (useT k).fe3, (useT k).fe4, (useT k).fe5, (useT k).fe6, (useT k).fe6, (useT k).fe7, (useT k).fe8, (useT k).fe9, (useT k).fe10, (useT k).fe11, (useT k).fe12] := by
  rcases kind17 hk with rfl | rfl | rfl | rfl | rfl | rfl | rfl | rfl | rfl | rfl | rfl | rfl | rfl | rfl | rfl | rfl | rfl <;> decide
theorem vld_kind {x : T_api_Op} (h : ¬ kindB x.fKind) : vldE x = 8 := by unfold vldE valO; rw [if_pos (by simpa [opD] using h)]
theorem vld_list {x : T_api_Op} (hk : kindB x.fKind) {b0 b1 b2 b3 b4 b5 b6 b7 b8 b9 b10 b11 b12 : Bool} (hu : useT x.fKind = T_A13_Bool.mk b0 b1 b2 b3 b4 b5 b6 b7 b8 b9 b10 b11 b12) :
    vldE x = if fnz [if b0 = true then chkE x 0 else 0, if b1 = true then chkE x 1 else 0, if b2 = true then chkE x 2 else 0, if b3 = true then chkE x 3 else 0, if b4 = true then chkE x 4 else 0, if b5 = true then chkE x 5 else 0, if b6 = true then chkE x 6 else 0, if b6 = true then chkE x 7 else 0, if b7 = true then chkE x 8 else 0, if b8 = true then chkE x 9 else 0, if b9 = true then chkE x 10 else 0, if b10 = true then chkE x 11 else 0, if b11 = true then chkE x 12 else 0, if b12 = true then chkE x 13 else 0] ≠ 0 then fnz [if b0 = true then chkE x 0 else 0, if b1 = true then chkE x 1 else 0, if b2 = true then chkE x 2 else 0, if b3 = true then chkE x 3 else 0, if b4 = true then chkE x 4 else 0, if b5 = true then chkE x 5 else 0, if b6 = true then chkE x 6 else 0, if b6 = true then chkE x 7 else 0, if b7 = true then chkE x 8 else 0, if b8 = true then chkE x 9 else 0, if b9 = true then chkE x 10 else 0, if b10 = true then chkE x 11 else 0, if b11 = true then chkE x 12 else 0, if b12 = true then chkE x 13 else 0]
      else if ((b0 || x.fName.toList == []) && (b1 || x.fOther.toList == []) && (b2 || decide (x.fNames.length = 0)) && (b3 || decide (x.fParams.fKind = 0 ∧ x.fParams.fSize = 0 ∧ x.fParams.fDepth = 0 ∧ x.fParams.fSeed = 0)) && (b4 || decide (x.fItems.length = 0)) && (b5 || decide (x.fCoins.length = 0)) && (b6 || decide (x.fExpected = 0)) && (b6 || decide (x.fSource = 0)) && (b7 || decide (x.fHandle = 0)) && (b8 || decide (x.fIndex = 0)) && (b9 || decide (x.fCursor = 0)) && (b10 || decide (x.fCount = 0)) && (b11 || decide (x.fQuery.fKind = 0 ∧ x.fQuery.fKey.toList = [] ∧ x.fQuery.fCount = 0 ∧ x.fQuery.fNum = 0 ∧ x.fQuery.fDen = 0)) && (b12 || decide (x.fData.length = 0))) = true then 0 else 18 := by
  have h := mine_useT hk
  rw [hu] at h
  simp only [List.cons.injEq, and_true] at h
  obtain ⟨m0, m1, m2, m3, m4, m5, m6, m7, m8, m9, m10, m11, m12, m13⟩ := h
  have r14 : List.range 14 = [0, 1, 2, 3, 4, 5, 6, 7, 8, 9, 10, 11, 12, 13] := by decide
  have e : mchk x.fKind (chkE x) = [if b0 = true then chkE x 0 else 0, if b1 = true then chkE x 1 else 0, if b2 = true then chkE x 2 else 0, if b3 = true then chkE x 3 else 0, if b4 = true then chkE x 4 else 0, if b5 = true then chkE x 5 else 0, if b6 = true then chkE x 6 else 0, if b6 = true then chkE x 7 else 0, if b7 = true then chkE x 8 else 0, if b8 = true then chkE x 9 else 0, if b9 = true then chkE x 10 else 0, if b10 = true then chkE x 11 else 0, if b11 = true then chkE x 12 else 0, if b12 = true then chkE x 13 else 0] := by
    unfold mchk; rw [r14]
    simp only [List.map_cons, List.map_nil, m0, m1, m2, m3, m4, m5, m6, m7, m8, m9, m10, m11, m12, m13]
  have z : ((List.range 14).all fun f => mineB x.fKind f || zro (opD x) f) = ((b0 || x.fName.toList == []) && (b1 || x.fOther.toList == []) && (b2 || decide (x.fNames.length = 0)) && (b3 || decide (x.fParams.fKind = 0 ∧ x.fParams.fSize = 0 ∧ x.fParams.fDepth = 0 ∧ x.fParams.fSeed = 0)) && (b4 || decide (x.fItems.length = 0)) && (b5 || decide (x.fCoins.length = 0)) && (b6 || decide (x.fExpected = 0)) && (b6 || decide (x.fSource = 0)) && (b7 || decide (x.fHandle = 0)) && (b8 || decide (x.fIndex = 0)) && (b9 || decide (x.fCursor = 0)) && (b10 || decide (x.fCount = 0)) && (b11 || decide (x.fQuery.fKind = 0 ∧ x.fQuery.fKey.toList = [] ∧ x.fQuery.fCount = 0 ∧ x.fQuery.fNum = 0 ∧ x.fQuery.fDen = 0)) && (b12 || decide (x.fData.length = 0))) := by
    rw [r14]
    simp only [List.all_cons, List.all_nil, Bool.and_true, m0, m1, m2, m3, m4, m5, m6, m7, m8, m9, m10, m11, m12, m13, Bool.and_assoc]
    simp only [zro, opD, List.length_map]
    rfl
  unfold vldE valO
  rw [if_neg (by simpa [opD] using hk)]
  change (if fnz (mchk x.fKind (chkE x)) ≠ 0 then fnz (mchk x.fKind (chkE x)) else if (List.range 14).all (fun f => mineB x.fKind f || zro (opD x) f) = true then 0 else 18) = _
  rw [e, z]
theorem fnz_last (L : List Int) (t : Int) : fnz (L ++ [t]) = if fnz L ≠ 0 then fnz L else t := by
  induction L with
  | nil => by_cases h : t = 0 <;> simp [fnz, h]
  | cons a r ih =>
    by_cases h : a ≠ 0
    · simp [fnz, h]
    · have h0 : a = 0 := by simpa using h
      simp only [List.cons_append, fnz, h0, ne_eq, not_true, if_false]; exact ih
theorem f_stp {V a : Int} {r : List Int} (h : V = fnz (a :: r)) (h0 : a = 0) : V = fnz r := by rw [h, fnz, if_neg (by simp [h0])]
theorem f_fin {V a : Int} {r : List Int} (h : V = fnz (a :: r)) (h0 : a ≠ 0) : V = a := by rw [h, fnz, if_pos h0]
theorem f_fin5 {V a b : Int} {r : List Int} (h : V = fnz (a :: r)) (h0 : a = b) (hb : b ≠ 0) : V = b := by rw [f_fin h (by rw [h0]; exact hb), h0]
def bz (b : Bool) (c : Int) : Int := if b = true then c else 0
theorem bz_t {b : Bool} {c : Int} (h : b = true) : bz b c = c := by rw [bz, if_pos h]
theorem bz_f {b : Bool} {c : Int} (h : b = false) : bz b c = 0 := by rw [bz, if_neg (by simp [h])]
theorem d_ne {b w : Bool} {c : Int} (h : ¬ bz b (if w = true then 0 else c) = 0) : bz b (if w = true then 0 else c) = c := by cases b <;> cases w <;> simp_all [bz]
theorem d_or1 {b0 b1 n0 n1 : Bool} {c : Int} (hc : c ≠ 0) (h : (b0 && !n0 || b1 && !n1) = true) (h0 : bz b0 (if n0 = true then 0 else c) = 0) : bz b1 (if n1 = true then 0 else c) = c := by
  cases b0 <;> cases b1 <;> cases n0 <;> cases n1 <;> simp_all [bz]
theorem d_z {b w : Bool} {c : Int} (h : (b && !w) = false) : bz b (if w = true then 0 else c) = 0 := by cases b <;> cases w <;> simp_all [bz]
theorem d_or4 {b0 b1 b2 b3 n0 n1 n2 n3 : Bool} {c : Int} (hc : c ≠ 0) (h : (b0 && !n0 || b1 && !n1 || b2 && !n2 || b3 && !n3) = true) (h0 : bz b0 (if n0 = true then 0 else c) = 0) (h1 : bz b1 (if n1 = true then 0 else c) = 0) (h2 : bz b2 (if n2 = true then 0 else c) = 0) : bz b3 (if n3 = true then 0 else c) = c := by
  cases b0 <;> cases n0 <;> cases b1 <;> cases n1 <;> cases b2 <;> cases n2 <;> simp_all [bz]
def rstE (x : T_api_Op) (u : T_A13_Bool) : Int := if ((u.fe0 || x.fName.toList == []) && (u.fe1 || x.fOther.toList == []) && (u.fe2 || decide (x.fNames.length = 0)) && (u.fe3 || decide (x.fParams.fKind = 0 ∧ x.fParams.fSize = 0 ∧ x.fParams.fDepth = 0 ∧ x.fParams.fSeed = 0)) && (u.fe4 || decide (x.fItems.length = 0)) && (u.fe5 || decide (x.fCoins.length = 0)) && (u.fe6 || decide (x.fExpected = 0)) && (u.fe6 || decide (x.fSource = 0)) && (u.fe7 || decide (x.fHandle = 0)) && (u.fe8 || decide (x.fIndex = 0)) && (u.fe9 || decide (x.fCursor = 0)) && (u.fe10 || decide (x.fCount = 0)) && (u.fe11 || decide (x.fQuery.fKind = 0 ∧ x.fQuery.fKey.toList = [] ∧ x.fQuery.fCount = 0 ∧ x.fQuery.fNum = 0 ∧ x.fQuery.fDen = 0)) && (u.fe12 || decide (x.fData.length = 0))) = true then 0 else 18
theorem vld_fnz {x : T_api_Op} (hk : kindB x.fKind) {b0 b1 b2 b3 b4 b5 b6 b7 b8 b9 b10 b11 b12 : Bool} (hu : useT x.fKind = T_A13_Bool.mk b0 b1 b2 b3 b4 b5 b6 b7 b8 b9 b10 b11 b12) :
    vldE x = fnz [bz b0 (chkE x 0), bz b1 (chkE x 1), bz b2 (chkE x 2), bz b3 (chkE x 3), bz b4 (chkE x 4), bz b5 (chkE x 5), bz b6 (chkE x 6), bz b6 (chkE x 7), bz b7 (chkE x 8), bz b8 (chkE x 9), bz b9 (chkE x 10), bz b10 (chkE x 11), bz b11 (chkE x 12), bz b12 (chkE x 13), rstE x (T_A13_Bool.mk b0 b1 b2 b3 b4 b5 b6 b7 b8 b9 b10 b11 b12)] :=
  (vld_list hk hu).trans (fnz_last [bz b0 (chkE x 0), bz b1 (chkE x 1), bz b2 (chkE x 2), bz b3 (chkE x 3), bz b4 (chkE x 4), bz b5 (chkE x 5), bz b6 (chkE x 6), bz b6 (chkE x 7), bz b7 (chkE x 8), bz b8 (chkE x 9), bz b9 (chkE x 10), bz b10 (chkE x 11), bz b11 (chkE x 12), bz b12 (chkE x 13)] _).symm
theorem f_ref22_Validate (x : T_api_Op) : R_ref22_Validate x (vldE x) := by
  unfold R_ref22_Validate W_ref22_Validate
  simp only [i_ref22_within, exists_eq_left, jn, bif_and, bif_or]
  by_cases hk : kindB x.fKind
  case neg =>
    have hw : wI x.fKind 1 17 = false := by simpa [wI, kindB] using hk
    rw [hw]
    exact ⟨fun _ => vld_kind hk, fun h => by simp at h⟩
  have hw : wI x.fKind 1 17 = true := by simpa [wI, kindB] using hk
  refine ⟨fun h => by simp [hw] at h, fun _ => ?_⟩
  refine ⟨useT x.fKind, f_ref22_Uses _, nmB x.fName, fun _ => f_ref1_IsName _, nmB x.fOther, fun _ => f_ref1_IsName _, ?_⟩
  rcases hU : useT x.fKind with ⟨b0, b1, b2, b3, b4, b5, b6, b7, b8, b9, b10, b11, b12⟩
  have hv := vld_fnz hk hU
  generalize vldE x = V at hv ⊢
  simp only
  have l1 : R_ref22_lists x b2 false (bz b2 (chkE x 2)) := by
    have := f_ref22_lists x b2 false
    have e : lstE x b2 false = bz b2 (chkE x 2) := by unfold lstE bz; show _ = if b2 = true then nlE x.fNames else 0; grind
    rwa [e] at this
  have l2 : R_ref22_lists x false b4 (bz b4 (chkE x 4)) := by
    have := f_ref22_lists x false b4
    have e : lstE x false b4 = bz b4 (chkE x 4) := by unfold lstE bz; show _ = if b4 = true then ilE x.fItems else 0; grind
    rwa [e] at this
  have p3 := f_ref12_ValidateParams x.fParams
  have p12 := f_ref12_ValidateQuery x.fQuery
  change R_ref12_ValidateParams x.fParams (chkE x 3) at p3
  change R_ref12_ValidateQuery x.fQuery (chkE x 12) at p12
  refine ⟨fun h => ?_, fun h => ?_⟩
  · by_cases h0 : bz b0 (chkE x 0) = 0
    · exact f_fin5 (f_stp hv h0) (d_or1 (c := 6) (by decide) h h0) (by decide)
    · exact f_fin5 hv (d_ne (c := 6) h0) (by decide)
  have hh := Bool.or_eq_false_iff.1 h
  have z0 : bz b0 (chkE x 0) = 0 := d_z (c := 6) hh.1
  have z1 : bz b1 (chkE x 1) = 0 := d_z (c := 6) hh.2
  replace hv := f_stp (f_stp hv z0) z1
  clear h hh z0 z1
  refine ⟨_, l1, fun h => f_fin hv (by simpa using h), fun h => ?_⟩
  replace hv := f_stp hv (by simpa using h)
  clear h l1
  suffices rest : V = fnz [bz b4 (chkE x 4), bz b5 (chkE x 5), bz b6 (chkE x 6), bz b6 (chkE x 7), bz b7 (chkE x 8), bz b8 (chkE x 9), bz b9 (chkE x 10), bz b10 (chkE x 11), bz b11 (chkE x 12), bz b12 (chkE x 13), rstE x (T_A13_Bool.mk b0 b1 b2 b3 b4 b5 b6 b7 b8 b9 b10 b11 b12)] → _ by
    refine ⟨fun hb => ⟨_, p3, fun h => ?_, fun h => rest (f_stp hv ?_)⟩, fun hb => rest (f_stp hv (bz_f hb))⟩
    · rw [f_fin hv (by rw [bz_t hb]; simpa using h), bz_t hb]
    · rw [bz_t hb]; simpa using h
  clear hv p3
  intro hv
  refine ⟨_, l2, fun h => f_fin hv (by simpa using h), fun h => ?_⟩
  replace hv := f_stp hv (by simpa using h)
  clear h l2
  have e5 : chkE x 5 = if (x.fCoins.length : Int) > 64 then 11 else 0 := rfl
  refine ⟨fun h => ?_, fun h => ?_⟩
  · have h := Bool.and_eq_true_iff.1 h
    exact f_fin5 hv (by rw [bz_t h.1, e5, if_pos (by simpa using h.2)]) (by decide)
  have z5 : bz b5 (chkE x 5) = 0 := by
    cases b5
    · exact bz_f rfl
    · rw [bz_t rfl, e5, if_neg (by simpa using h)]
  replace hv := f_stp hv z5
  clear h z5 e5
  have er : ∀ n lo hi, rngE n lo hi = if wI n lo hi = true then 0 else 5 := by intro n lo hi; unfold rngE wI; simp
  have e6 : chkE x 6 = if wI x.fExpected 1 1048576 = true then 0 else 5 := er _ _ _
  have e7 : chkE x 7 = if wI x.fSource 1 1048576 = true then 0 else 5 := er _ _ _
  have e8 : chkE x 8 = if wI x.fHandle 0 3 = true then 0 else 5 := er _ _ _
  have e9 : chkE x 9 = if wI x.fIndex 0 15 = true then 0 else 5 := er _ _ _
  have e10 : chkE x 10 = if wI x.fCursor 0 3 = true then 0 else 5 := er _ _ _
  have e11 : chkE x 11 = if wI x.fCount 0 32 = true then 0 else 5 := er _ _ _
  clear er
  rw [e6, e7, e8, e9, e10, e11] at hv
  clear e6 e7 e8 e9 e10 e11
  generalize wI x.fExpected 1 1048576 = w6 at *
  generalize wI x.fSource 1 1048576 = w7 at *
  generalize wI x.fHandle 0 3 = w8 at *
  generalize wI x.fIndex 0 15 = w9 at *
  generalize wI x.fCursor 0 3 = w10 at *
  generalize wI x.fCount 0 32 = w11 at *
  refine ⟨w6, fun _ => rfl, w7, fun _ => rfl, fun h => ?_, fun h => ?_⟩
  · have h' : (b6 && !w6 || b6 && !w7) = true := by rw [← Bool.and_or_distrib_left]; exact h
    by_cases h0 : bz b6 (if w6 = true then 0 else 5) = 0
    · exact f_fin5 (f_stp hv h0) (d_or1 (by decide) h' h0) (by decide)
    · exact f_fin5 hv (d_ne h0) (by decide)
  have hh : (b6 && !w6) = false ∧ (b6 && !w7) = false := by rw [← Bool.or_eq_false_iff, ← Bool.and_or_distrib_left]; exact h
  replace hv := f_stp (f_stp hv (d_z hh.1)) (d_z hh.2)
  clear h hh
  refine ⟨w8, fun _ => rfl, w9, fun _ => rfl, w10, fun _ => rfl, w11, fun _ => rfl, fun h => ?_, fun h => ?_⟩
  · by_cases h0 : bz b7 (if w8 = true then 0 else 5) = 0
    · replace hv := f_stp hv h0
      by_cases h1 : bz b8 (if w9 = true then 0 else 5) = 0
      · replace hv := f_stp hv h1
        by_cases h2 : bz b9 (if w10 = true then 0 else 5) = 0
        · exact f_fin5 (f_stp hv h2) (d_or4 (by decide) h h0 h1 h2) (by decide)
        · exact f_fin5 hv (d_ne h2) (by decide)
      · exact f_fin5 hv (d_ne h1) (by decide)
    · exact f_fin5 hv (d_ne h0) (by decide)
  have k1 := Bool.or_eq_false_iff.1 h
  have k2 := Bool.or_eq_false_iff.1 k1.1
  have k3 := Bool.or_eq_false_iff.1 k2.1
  replace hv := f_stp (f_stp (f_stp (f_stp hv (d_z k3.1)) (d_z k3.2)) (d_z k2.2)) (d_z k1.2)
  clear h k1 k2 k3
  suffices rest : V = fnz [bz b12 (chkE x 13), rstE x (T_A13_Bool.mk b0 b1 b2 b3 b4 b5 b6 b7 b8 b9 b10 b11 b12)] → _ by
    refine ⟨fun hb => ⟨_, p12, fun h => ?_, fun h => rest (f_stp hv ?_)⟩, fun hb => rest (f_stp hv (bz_f hb))⟩
    · rw [f_fin hv (by rw [bz_t hb]; simpa using h), bz_t hb]
    · rw [bz_t hb]; simpa using h
  clear hv p12
  intro hv
  have e13 : chkE x 13 = if (x.fData.length : Int) > 65536 then 11 else 0 := rfl
  refine ⟨fun h => ?_, fun h => ?_⟩
  · have h := Bool.and_eq_true_iff.1 h
    exact f_fin5 hv (by rw [bz_t h.1, e13, if_pos (by simpa using h.2)]) (by decide)
  have z13 : bz b12 (chkE x 13) = 0 := by
    cases b12
    · exact bz_f rfl
    · rw [bz_t rfl, e13, if_neg (by simpa using h)]
  replace hv := f_stp hv z13
  clear h z13 e13
  have hv2 : V = rstE x (T_A13_Bool.mk b0 b1 b2 b3 b4 b5 b6 b7 b8 b9 b10 b11 b12) := by
    rw [hv]; unfold fnz; split <;> simp_all [fnz]
  subst hv2
  unfold rstE
  simp only
  have n0 : (ByteArray.empty).toList = [] := nil_toList
  have lg : ∀ n : Nat, decide ((n : Int) > 0) = !decide (n = 0) := by
    intro n; by_cases h : n = 0
    · subst h; rfl
    · have : (n : Int) > 0 := by omega
      simp [h]; omega
  have ne : ∀ n : Int, (n != 0) = !decide (n = 0) := fun n => rfl
  have ee : ∀ n : Int, (n == 0) = decide (n = 0) := fun n => rfl
  have el : ∀ s : ByteArray, (s.toList == []) = decide (s.toList = []) := by intro s; by_cases h : s.toList = [] <;> simp [h]
  simp only [nil_toList, n0, lg, ne, ee, el, Bool.and_true, ← Bool.decide_and]
  have pp : decide (x.fExpected = 0) = decide (x.fExpected = 0) := rfl
  generalize decide (x.fExpected = 0) = a6
  generalize decide (x.fSource = 0) = a7
  generalize decide (x.fName.toList = []) = a0
  generalize decide (x.fOther.toList = []) = a1
  generalize decide (x.fNames.length = 0) = a2
  generalize decide (x.fItems.length = 0) = a4
  generalize decide (x.fCoins.length = 0) = a5
  generalize decide (x.fHandle = 0) = a8
  generalize decide (x.fIndex = 0) = a9
  generalize decide (x.fCursor = 0) = a10
  generalize decide (x.fCount = 0) = a11
  generalize decide (x.fData.length = 0) = a13
  generalize decide (x.fParams.fKind = 0 ∧ x.fParams.fSize = 0 ∧ x.fParams.fDepth = 0 ∧ x.fParams.fSeed = 0) = a3
  generalize decide (x.fQuery.fKind = 0 ∧ x.fQuery.fKey.toList = [] ∧ x.fQuery.fCount = 0 ∧ x.fQuery.fNum = 0 ∧ x.fQuery.fDen = 0) = a12
  have key : ((((((((((((!b0 && !a0 || !b1 && !a1) || !b2 && !a2) || !b3 && !a3) || !b4 && !a4) || !b5 && !a5) || !b6 && (!a6 || !a7)) || !b7 && !a8) || !b8 && !a9) || !b9 && !a10) || !b10 && !a11) || !b11 && !a12) || !b12 && !a13) = !((b0 || a0) && (b1 || a1) && (b2 || a2) && (b3 || a3) && (b4 || a4) && (b5 || a5) && (b6 || a6) && (b6 || a7) && (b7 || a8) && (b8 || a9) && (b9 || a10) && (b10 || a11) && (b11 || a12) && (b12 || a13)) := by
    cases b6 <;> simp [Bool.not_and, Bool.not_or, Bool.or_assoc]
  refine ⟨fun h => if_neg fun h2 => ?_, fun h => if_pos ?_⟩
  · rw [key, h2] at h; cases h
  · rw [key, Bool.not_eq_false'] at h; exact h
end Go.Proofs.Ythlaenafkihjiaa
/- An operation that Validate lets pass is small. No condition. -/
namespace Go.Proofs.Ythlaenafkihjiaa
open Go.RowKit
set_option linter.unusedVariables false
set_option linter.unusedSimpArgs false
theorem fnz_all {L : List Int} (h : fnz L = 0) : ∀ e ∈ L, e = 0 := by
  induction L with
  | nil => simp
  | cons a r ih =>
    unfold fnz at h
    by_cases ha : a = 0
    · subst ha; simp at h; intro e he; rcases List.mem_cons.1 he with rfl | he
      · rfl
      · exact ih h e he
    · rw [if_pos ha] at h; exact absurd h ha
theorem vld_inv {x : T_api_Op} (h : vldE x = 0) : kindB x.fKind ∧ ∀ f, f < 14 → if mineB x.fKind f = true then chkE x f = 0 else zro (opD x) f = true := by
  have hk : kindB x.fKind := by
    by_cases hk : kindB x.fKind
    · exact hk
    · rw [vld_kind hk] at h; cases h
  refine ⟨hk, fun f hf => ?_⟩
  unfold vldE valO at h
  rw [if_neg (by simpa [opD] using hk)] at h
  by_cases hz : fnz (mchk (opD x).kind (chkE x)) = 0
  · rw [hz] at h; simp only [ne_eq, not_true, if_false] at h
    have ha : (List.range 14).all (fun f => mineB (opD x).kind f || zro (opD x) f) = true := by
      by_cases ha : (List.range 14).all (fun f => mineB (opD x).kind f || zro (opD x) f) = true
      · exact ha
      · rw [if_neg ha] at h; cases h
    have h1 := List.all_eq_true.1 ha f (by simpa using hf)
    have h2 := fnz_all hz (if mineB x.fKind f = true then chkE x f else 0) (by
      unfold mchk; exact List.mem_map.2 ⟨f, by simpa using hf, rfl⟩)
    change (mineB x.fKind f || zro (opD x) f) = true at h1
    cases hm : mineB x.fKind f
    · rw [hm] at h1; simpa using h1
    · rw [hm] at h2; simpa using h2
  · rw [if_pos hz] at h; exact absurd h hz
/-- The bounds of an operation that Validate lets pass. -/
structure Fit (x : T_api_Op) : Prop where
  kind : 1 ≤ x.fKind ∧ x.fKind ≤ 17
  name : x.fName.size ≤ 16
  other : x.fOther.size ≤ 16
  names : x.fNames.length ≤ 16
  each : ∀ s ∈ x.fNames, s.size ≤ 16
  pk : 0 ≤ x.fParams.fKind ∧ x.fParams.fKind ≤ 6
  ps : 0 ≤ x.fParams.fSize ∧ x.fParams.fSize ≤ 64
  pd : 0 ≤ x.fParams.fDepth ∧ x.fParams.fDepth ≤ 8
  items : x.fItems.length ≤ 64
  item : ∀ t ∈ x.fItems, t.fKey.size ≤ 32 ∧ 1 ≤ t.fWeight ∧ t.fWeight ≤ 4294967295
  coins : x.fCoins.length ≤ 64
  ex : 0 ≤ x.fExpected ∧ x.fExpected ≤ 1048576
  so : 0 ≤ x.fSource ∧ x.fSource ≤ 1048576
  ha : 0 ≤ x.fHandle ∧ x.fHandle ≤ 3
  ix : 0 ≤ x.fIndex ∧ x.fIndex ≤ 15
  cu : 0 ≤ x.fCursor ∧ x.fCursor ≤ 3
  co : 0 ≤ x.fCount ∧ x.fCount ≤ 32
  qk : 0 ≤ x.fQuery.fKind ∧ x.fQuery.fKind ≤ 7
  qs : x.fQuery.fKey.size ≤ 32
  qc : 0 ≤ x.fQuery.fCount ∧ x.fQuery.fCount ≤ 32
  qn : 0 ≤ x.fQuery.fNum ∧ x.fQuery.fNum ≤ 1000000
  qd : 0 ≤ x.fQuery.fDen ∧ x.fQuery.fDen ≤ 1000000
  data : x.fData.length ≤ 65536
theorem size_nil {s : ByteArray} (h : (s.toList == []) = true) : s.size = 0 := by
  have e : s.toList = [] := by simpa using h
  rw [ByteArray.toList_eq] at e
  have := congrArg List.length e
  rw [Array.length_toList] at this; exact this
theorem nm_sz {s : ByteArray} (h : nm6 s = 0) : s.size ≤ 16 := by
  unfold nm6 at h
  have : nmB s = true := by
    cases hb : nmB s with
    | true => rfl
    | false => rw [hb] at h; cases h
  unfold nmB at this
  simp at this; omega
theorem fst0_inv {α : Type} {f : α → Int} {l : List α} (h : fst0 f l = 0) : ∀ x ∈ l, f x = 0 := by
  induction l with
  | nil => simp
  | cons a r ih =>
    unfold fst0 at h
    by_cases ha : f a = 0
    · rw [if_neg (by simp [ha])] at h
      intro x hx
      rcases List.mem_cons.1 hx with rfl | hx
      · exact ha
      · exact ih h x hx
    · rw [if_pos ha] at h; exact absurd h ha
theorem rng_inv {n a b : Int} (h : rngE n a b = 0) : a ≤ n ∧ n ≤ b := by
  unfold rngE at h; split at h
  · assumption
  · cases h
theorem sho_inv {n : Nat} {m : Int} (h : shoE n m = 0) : (n : Int) ≤ m := by
  unfold shoE at h; split at h
  · cases h
  · omega
theorem two {b : Bool} {A B : Prop} (h : if b = true then A else B) : A ∨ B := by cases b <;> simp_all
theorem par_inv {k s d z : Int} (h : parE k s d z = 0) : (0 ≤ k ∧ k ≤ 6) ∧ (0 ≤ s ∧ s ≤ 64) ∧ (0 ≤ d ∧ d ≤ 8) := by
  unfold parE at h; repeat' split at h
  all_goals omega
theorem qry_inv {k : Int} {s : ByteArray} {c n d : Int} (h : qryE k s c n d = 0) (hs : s.toList = [] → s.size = 0) : (0 ≤ k ∧ k ≤ 7) ∧ s.size ≤ 32 ∧ (0 ≤ c ∧ c ≤ 32) ∧ (0 ≤ n ∧ n ≤ 1000000) ∧ (0 ≤ d ∧ d ≤ 1000000) := by
  unfold qryE at h
  by_cases e : s.toList = []
  · have := hs e
    simp only [e, ne_eq, not_true, and_false, false_or] at h
    repeat' split at h
    all_goals omega
  · simp only [e, ne_eq, not_false_eq_true, and_true] at h
    repeat' split at h
    all_goals omega
theorem fit_of {x : T_api_Op} (h : vldE x = 0) : Fit x := by
  obtain ⟨hk, hf⟩ := vld_inv h
  have g : ∀ f, f < 14 → chkE x f = 0 ∨ zro (opD x) f = true := fun f hlt => two (hf f hlt)
  have g0 := g 0 (by decide); have g1 := g 1 (by decide); have g2 := g 2 (by decide); have g3 := g 3 (by decide); have g4 := g 4 (by decide); have g5 := g 5 (by decide); have g6 := g 6 (by decide)
  have g7 := g 7 (by decide); have g8 := g 8 (by decide); have g9 := g 9 (by decide); have g10 := g 10 (by decide); have g11 := g 11 (by decide); have g12 := g 12 (by decide); have g13 := g 13 (by decide)
  change nm6 x.fName = 0 ∨ (x.fName.toList == []) = true at g0
  change nm6 x.fOther = 0 ∨ (x.fOther.toList == []) = true at g1
  change nlE x.fNames = 0 ∨ decide (x.fNames.length = 0) = true at g2
  change parE x.fParams.fKind x.fParams.fSize x.fParams.fDepth x.fParams.fSeed = 0 ∨ decide (x.fParams.fKind = 0 ∧ x.fParams.fSize = 0 ∧ x.fParams.fDepth = 0 ∧ x.fParams.fSeed = 0) = true at g3
  change ilE x.fItems = 0 ∨ decide ((x.fItems.map (fun x => (x.fKey, x.fWeight))).length = 0) = true at g4
  change shoE x.fCoins.length 64 = 0 ∨ decide (x.fCoins.length = 0) = true at g5
  change rngE x.fExpected 1 1048576 = 0 ∨ decide (x.fExpected = 0) = true at g6
  change rngE x.fSource 1 1048576 = 0 ∨ decide (x.fSource = 0) = true at g7
  change rngE x.fHandle 0 3 = 0 ∨ decide (x.fHandle = 0) = true at g8
  change rngE x.fIndex 0 15 = 0 ∨ decide (x.fIndex = 0) = true at g9
  change rngE x.fCursor 0 3 = 0 ∨ decide (x.fCursor = 0) = true at g10
  change rngE x.fCount 0 32 = 0 ∨ decide (x.fCount = 0) = true at g11
  change qryE x.fQuery.fKind x.fQuery.fKey x.fQuery.fCount x.fQuery.fNum x.fQuery.fDen = 0 ∨ decide (x.fQuery.fKind = 0 ∧ x.fQuery.fKey.toList = [] ∧ x.fQuery.fCount = 0 ∧ x.fQuery.fNum = 0 ∧ x.fQuery.fDen = 0) = true at g12
  change shoE x.fData.length 65536 = 0 ∨ decide (x.fData.length = 0) = true at g13
  simp only [decide_eq_true_eq] at g2 g3 g4 g5 g6 g7 g8 g9 g10 g11 g12 g13
  have n2 : x.fNames.length ≤ 16 ∧ ∀ s ∈ x.fNames, s.size ≤ 16 := by
    rcases g2 with g | g
    · unfold nlE at g; split at g
      · cases g
      · exact ⟨by omega, fun s hs => nm_sz (fst0_inv g s hs)⟩
    · have : x.fNames = [] := List.eq_nil_of_length_eq_zero g
      simp [this]
  have n4 : x.fItems.length ≤ 64 ∧ ∀ t ∈ x.fItems, t.fKey.size ≤ 32 ∧ 1 ≤ t.fWeight ∧ t.fWeight ≤ 4294967295 := by
    rcases g4 with g | g
    · unfold ilE at g; split at g
      · cases g
      · refine ⟨by omega, fun t ht => ?_⟩
        have := fst0_inv g t ht
        unfold itE at this; grind
    · rw [List.length_map] at g
      have : x.fItems = [] := List.eq_nil_of_length_eq_zero g
      simp [this]
  have n3 : (0 ≤ x.fParams.fKind ∧ x.fParams.fKind ≤ 6) ∧ (0 ≤ x.fParams.fSize ∧ x.fParams.fSize ≤ 64) ∧ (0 ≤ x.fParams.fDepth ∧ x.fParams.fDepth ≤ 8) := by
    rcases g3 with g | g
    · exact par_inv g
    · omega
  have n12 : (0 ≤ x.fQuery.fKind ∧ x.fQuery.fKind ≤ 7) ∧ x.fQuery.fKey.size ≤ 32 ∧ (0 ≤ x.fQuery.fCount ∧ x.fQuery.fCount ≤ 32) ∧ (0 ≤ x.fQuery.fNum ∧ x.fQuery.fNum ≤ 1000000) ∧ (0 ≤ x.fQuery.fDen ∧ x.fQuery.fDen ≤ 1000000) := by
    have hs : x.fQuery.fKey.toList = [] → x.fQuery.fKey.size = 0 := fun h => size_nil (by simp [h])
    rcases g12 with g | g
    · exact qry_inv g hs
    · have := hs g.2.1; omega
  refine ⟨hk, ?_, ?_, n2.1, n2.2, n3.1, n3.2.1, n3.2.2, n4.1, n4.2, ?_, ?_, ?_, ?_, ?_, ?_, ?_, n12.1, n12.2.1, n12.2.2.1, n12.2.2.2.1, n12.2.2.2.2, ?_⟩
  · rcases g0 with g | g
    · exact nm_sz g
    · have := size_nil g; omega
  · rcases g1 with g | g
    · exact nm_sz g
    · have := size_nil g; omega
  · rcases g5 with g | g
    · have := sho_inv g; omega
    · omega
  · rcases g6 with g | g
    · have := rng_inv g; omega
    · omega
  · rcases g7 with g | g
    · have := rng_inv g; omega
    · omega
  · rcases g8 with g | g
    · exact rng_inv g
    · omega
  · rcases g9 with g | g
    · exact rng_inv g
    · omega
  · rcases g10 with g | g
    · exact rng_inv g
    · omega
  · rcases g11 with g | g
    · exact rng_inv g
    · omega
  · rcases g13 with g | g
    · have := sho_inv g; omega
    · omega
end Go.Proofs.Ythlaenafkihjiaa
/- Encode of operations in the program and in the reference writes one plain list. No condition. -/
namespace Go.Proofs.Ythlaenafkihjiaa
open Go.RowKit
set_option linter.unusedVariables false
set_option linter.unusedSimpArgs false
def itL (t : T_api_Item) : List Int := txL t.fKey ++ encL t.fWeight
/-- What Encode writes ahead of the frame, by parts as the program writes them. -/
def bodA (x : T_api_Op) : List Int := ((((([] ++ [x.fKind].flatMap encL) ++ [x.fName, x.fOther].flatMap txL) ++ [(x.fNames.length : Int)].flatMap encL) ++ x.fNames.flatMap txL) ++ [x.fParams.fKind, x.fParams.fSize, x.fParams.fDepth].flatMap encL) ++ beB 8 x.fParams.fSeed
def bodB (x : T_api_Op) : List Int := (bodA x ++ [(x.fItems.length : Int)].flatMap encL) ++ x.fItems.flatMap itL
def bodE (x : T_api_Op) : List Int := ((((bodB x ++ [strOfNums x.fCoins].flatMap txL) ++ [x.fExpected, x.fSource, x.fHandle, x.fIndex, x.fCursor, x.fCount, x.fQuery.fKind].flatMap encL) ++ [x.fQuery.fKey].flatMap txL) ++ [x.fQuery.fCount, x.fQuery.fNum, x.fQuery.fDen].flatMap encL) ++ [strOfNums x.fData].flatMap txL
theorem flat_le {α : Type} {f : α → List Int} {m : Nat} {l : List α} (h : ∀ t ∈ l, (f t).length ≤ m) : (l.flatMap f).length ≤ m * l.length := by
  induction l with
  | nil => simp
  | cons a r ih =>
    have h1 := h a (by simp)
    have h2 := ih fun t ht => h t (by simp [ht])
    simp only [List.flatMap_cons, List.length_append, List.length_cons, Nat.mul_add]
    omega
theorem txL_le (s : ByteArray) (m : Nat) (h : s.size ≤ m) : (txL s).length ≤ m + 9 := by
  unfold txL; split
  · simp
  · have hL := length_encU (s.size : Int)
    have hs := length_sI s
    simp; omega
theorem bodA_le {x : T_api_Op} (h : Fit x) : (bodA x).length ≤ 1000 := by
  have k1 := length_encL x.fKind; have k2 := txL_le x.fName 16 h.name; have k3 := txL_le x.fOther 16 h.other
  have k4 := length_encL (x.fNames.length : Int); have k5 := flat_le (f := txL) (m := 25) (l := x.fNames) (fun t ht => txL_le t 16 (h.each t ht))
  have k6 := length_encL x.fParams.fKind; have k7 := length_encL x.fParams.fSize; have k8 := length_encL x.fParams.fDepth
  have k9 := h.names
  simp only [bodA, List.length_append, List.flatMap_cons, List.flatMap_nil, length_beB, List.length_nil]; omega
theorem itL_le {x : T_api_Op} (h : Fit x) (t : T_api_Item) (ht : t ∈ x.fItems) : (itL t).length ≤ 50 := by
  have := txL_le t.fKey 32 (h.item t ht).1
  have k := length_encL t.fWeight
  unfold itL; simp only [List.length_append]; omega
theorem bodB_le {x : T_api_Op} (h : Fit x) : (bodB x).length ≤ 5000 := by
  have k1 := bodA_le h
  have k2 := length_encL (x.fItems.length : Int)
  have k3 := flat_le (f := itL) (m := 50) (l := x.fItems) (fun t ht => itL_le h t ht)
  have k4 := h.items
  simp only [bodB, List.length_append, List.flatMap_cons, List.flatMap_nil, List.length_nil]; omega
theorem bodE_le {x : T_api_Op} (h : Fit x) : (bodE x).length ≤ 300000 := by
  have k1 := bodB_le h
  have a1 := length_txL (strOfNums x.fCoins); have a2 := length_txL x.fQuery.fKey; have a3 := length_txL (strOfNums x.fData)
  have b1 := length_encL x.fExpected; have b2 := length_encL x.fSource; have b3 := length_encL x.fHandle; have b4 := length_encL x.fIndex; have b5 := length_encL x.fCursor; have b6 := length_encL x.fCount
  have b7 := length_encL x.fQuery.fKind; have b8 := length_encL x.fQuery.fCount; have b9 := length_encL x.fQuery.fNum; have c1 := length_encL x.fQuery.fDen
  simp only [bodE, List.length_append, List.flatMap_cons, List.flatMap_nil, List.length_nil]; omega
theorem encL_bytes (n : Int) : ∀ c ∈ encL n, 0 ≤ c ∧ c ≤ 255 := by
  intro c hc
  unfold encL at hc; split at hc
  · simp at hc
  · exact bounds_u8 (wf_encU n (by omega) c hc)
theorem txL_bytes (s : ByteArray) : ∀ c ∈ txL s, 0 ≤ c ∧ c ≤ 255 := by
  intro c hc
  unfold txL at hc; split at hc
  · simp at hc
  · rcases List.mem_append.1 hc with h | h
    · exact bounds_u8 (wf_encU _ (by omega) c h)
    · exact bounds_u8 (wf_sI s c h)
theorem bodE_bytes (x : T_api_Op) : ∀ c ∈ bodE x, 0 ≤ c ∧ c ≤ 255 := by
  have fm : ∀ {α : Type} (f : α → List Int) (l : List α), (∀ t, ∀ c ∈ f t, 0 ≤ c ∧ c ≤ 255) → ∀ c ∈ l.flatMap f, 0 ≤ c ∧ c ≤ 255 := by
    intro α f l h c hc
    obtain ⟨t, _, ht⟩ := List.mem_flatMap.1 hc
    exact h t c ht
  have ap : ∀ {a b : List Int}, (∀ c ∈ a, 0 ≤ c ∧ c ≤ 255) → (∀ c ∈ b, 0 ≤ c ∧ c ≤ 255) → ∀ c ∈ a ++ b, 0 ≤ c ∧ c ≤ 255 := by
    intro a b ha hb c hc
    rcases List.mem_append.1 hc with h | h
    · exact ha c h
    · exact hb c h
  have e := fun l => fm encL l encL_bytes
  have t := fun l => fm txL l txL_bytes
  have it : ∀ l, ∀ c ∈ List.flatMap itL l, 0 ≤ c ∧ c ≤ 255 := fun l => fm itL l fun t => ap (txL_bytes _) (encL_bytes _)
  have w : ∀ c ∈ beB 8 x.fParams.fSeed, 0 ≤ c ∧ c ≤ 255 := fun c hc => bounds_u8 (wf_beB 8 _ c hc)
  unfold bodE bodB bodA
  exact ap (ap (ap (ap (ap (ap (ap (ap (ap (ap (ap (ap (ap (by simp) (e _)) (t _)) (e _)) (t _)) (e _)) w) (e _)) (it _)) (t _)) (e _)) (t _)) (e _)) (t _)
/-- What Encode answers. -/
def encO (x : T_api_Op) : List Int × Int := if vldE x ≠ 0 then ([], vldE x) else (frameL 79 (bodE x), 0)
theorem f_operation_Encode (x : T_api_Op) : R_operation_Encode x (encO x) := by
  unfold R_operation_Encode W_operation_Encode
  simp only [jn]
  have enc_no : vldE x ≠ 0 → encO x = ([], vldE x) := fun h => by unfold encO; rw [if_pos h]
  refine ⟨vldE x, f_operation_Validate x, fun h => enc_no (by simpa using h), fun h => ?_⟩
  have h0 : vldE x = 0 := by simpa using h
  have F := fit_of h0
  have lA := bodA_le F
  have lB := bodB_le F
  have lE := bodE_le F
  have nl : x.fNames.length ≤ 100000 := by have := F.names; omega
  have hA : (bodA x).length ≤ 1000 := lA
  unfold bodA at hA
  simp only [List.length_append, length_beB] at hA
  refine ⟨_, f_writer_numbers [] _ (by simp) (by simp), _, f_writer_texts _ _ (by simp only [List.length_append]; omega) (by simp), _, f_writer_numbers _ _ (by simp only [List.length_append]; omega) (by simp), _, f_writer_texts _ _ (by simp only [List.length_append]; omega) nl, _, f_writer_numbers _ _ (by simp only [List.length_append]; omega) (by simp), _, f_wire_EncodeWord _, by simp only [List.length_append, length_beB]; omega, _, f_writer_numbers (bodA x) _ (by omega) (by simp), ?_⟩
  have hB : (bodB x).length ≤ 5000 := lB
  unfold bodB at hB
  rw [List.length_append] at hB
  refine lp_up (I := fun k s => ∃ j : Nat, s.1 = (j : Int) ∧ j ≤ x.fItems.length ∧ k = x.fItems.length - j ∧ s.2 = (bodA x ++ [(x.fItems.length : Int)].flatMap encL) ++ (x.fItems.take j).flatMap itL) ?_ (k := x.fItems.length) ⟨0, rfl, by omega, by omega, by simp⟩
  rintro k ⟨i, c⟩ ⟨j, hj, hj1, hk, hc⟩ X hX
  simp only at hj hc ⊢
  subst hj
  refine ⟨fun h => ?_, fun h => ?_⟩
  · have hj2 : j < x.fItems.length := by simp at h; omega
    obtain ⟨t, ht, hg⟩ := ix_any (l := x.fItems) (n := (j : Int)) (by omega) (by omega)
    have hcl : c.length ≤ 10000 := by
      have k3 := flat_le (f := itL) (m := 50) (l := x.fItems.take j) (fun t ht => itL_le F t (List.mem_of_mem_take ht))
      have k4 := F.items
      rw [List.length_take] at k3
      rw [hc, List.length_append]; omega
    have hit := F.items
    have hti := itL_le F t (List.mem_of_getElem? hg)
    have htx := length_txL t.fKey
    refine ⟨t, ht, _, f_writer_texts c _ (by omega) (by simp), _, f_writer_numbers _ _ (by simp only [List.length_append, List.flatMap_cons, List.flatMap_nil, List.length_nil]; omega) (by simp), ?_⟩
    rw [wr64 (by omega)]
    refine hX (x.fItems.length - (j + 1)) _ (by omega) ⟨j + 1, by simp, by omega, rfl, ?_⟩
    have e : x.fItems.take (j + 1) = x.fItems.take j ++ [t] := by rw [List.take_add_one]; simp at hg; simp [hg]
    rw [e, hc]; simp [itL]
  · have hj2 : j = x.fItems.length := by simp at h; omega
    subst hj2
    rw [List.take_length] at hc
    change c = bodB x at hc
    subst hc
    have hE : (bodE x).length ≤ 300000 := lE
    unfold bodE at hE
    simp only [List.length_append] at hE
    refine ⟨_, f_writer_texts (bodB x) _ (by omega) (by simp), _, f_writer_numbers _ _ (by simp only [List.length_append]; omega) (by simp), _, f_writer_texts _ _ (by simp only [List.length_append]; omega) (by simp), _, f_writer_numbers _ _ (by simp only [List.length_append]; omega) (by simp), _, f_writer_texts _ _ (by simp only [List.length_append]; omega) (by simp), _, f_wire_Frame 79 (bodE x) (by decide) (bodE_bytes x), ?_⟩
    unfold encO frameE
    rw [if_neg (by simp [h0]), if_neg (by omega)]
end Go.Proofs.Ythlaenafkihjiaa
/- The reader and Decode of operations: they come back for any bytes, and what they answer. Condition: bytes are from 0 to 255. -/
namespace Go.Proofs.Ythlaenafkihjiaa
open Go.RowKit
set_option linter.unusedVariables false
set_option linter.unusedSimpArgs false
def rdr {α : Type} (st : T_operation_reader) (r : α × Int × Int) (z : α) : α × T_operation_reader :=
  if st.fbad = true ∨ r.2.2 ≠ 0 then (z, ⟨st.fb, true⟩) else (r.1, ⟨st.fb.drop r.2.1.toNat, false⟩)
theorem f_take (st : T_operation_reader) (k e : Int) (h : e = 0 → 0 ≤ k ∧ k ≤ st.fb.length) :
    R_operation_reader_take st k e (if st.fbad = true ∨ e ≠ 0 then (false, ⟨st.fb, true⟩) else (true, ⟨st.fb.drop k.toNat, false⟩)) := by
  unfold R_operation_reader_take W_operation_reader_take
  rcases st with ⟨b, bad⟩
  cases bad
  · by_cases he : e = 0
    · subst he; simpa using h rfl
    · simp [he]
  · simp
theorem decW_ok {l : List Int} {n k : Int} (h : decW l = (n, k, 0)) : 1 ≤ k ∧ k ≤ l.length := by
  unfold decW at h
  by_cases h8 : l.length < 8
  · rw [if_pos h8] at h; simp at h
  · rw [if_neg h8] at h; simp only [Prod.mk.injEq] at h; omega
theorem decT_ok {l : List Int} (hw : ∀ n ∈ l, (Lit.int .u8 n).wf = true) {s : ByteArray} {k : Int} (h : decT l = (s, k, 0)) : 1 ≤ k ∧ k ≤ l.length ∧ s.size ≤ 65536 := by
  obtain ⟨n, j, e, hd⟩ : ∃ n j e, decU l = (n, j, e) := ⟨_, _, _, rfl⟩
  unfold decT decTx at h
  rw [hd] at h
  simp only at h
  by_cases h0 : e ≠ 0
  · rw [if_pos h0] at h; simp only [Prod.mk.injEq] at h; omega
  have h0' : e = 0 := by simpa using h0
  subst h0'
  have hk := decU_ok hw hd
  rw [if_neg h0] at h
  by_cases h1 : n > 65536
  · rw [if_pos h1] at h; simp at h
  rw [if_neg h1] at h
  by_cases h2 : (l.length : Int) - j < n
  · rw [if_pos h2] at h; simp at h
  rw [if_neg h2] at h
  simp only [Prod.mk.injEq] at h
  obtain ⟨hs, hk2, _⟩ := h
  refine ⟨by omega, by omega, ?_⟩
  rw [← hs, size_strOfNums, List.length_take]; omega
theorem decT_size {l : List Int} : (decT l).1.size ≤ 65536 := by
  unfold decT decTx
  split
  · exact Nat.zero_le _
  · split
    · exact Nat.zero_le _
    · split
      · exact Nat.zero_le _
      · rw [size_strOfNums, List.length_take]; omega
theorem f_num (st : T_operation_reader) (B : Byt st.fb) : R_operation_reader_number st (rdr st (decU st.fb) 0) := by
  unfold R_operation_reader_number W_operation_reader_number
  obtain ⟨n, k, e, hd⟩ : ∃ n k e, decU st.fb = (n, k, e) := ⟨_, _, _, rfl⟩
  refine ⟨decU st.fb, f_wire_DecodeUint _ B, _, f_take st _ _ ?_, ?_⟩
  · rw [hd]; intro he; simp only at he; subst he; have := decU_ok B.2 hd; simp only; omega
  · rw [hd]; unfold rdr; simp only
    by_cases hc : st.fbad = true ∨ e ≠ 0
    · rw [if_pos hc, if_pos hc]; simp
    · rw [if_neg hc, if_neg hc]; simp
theorem f_wrd (st : T_operation_reader) (B : Byt st.fb) : R_operation_reader_word st (rdr st (decW st.fb) 0) := by
  unfold R_operation_reader_word W_operation_reader_word
  obtain ⟨n, k, e, hd⟩ : ∃ n k e, decW st.fb = (n, k, e) := ⟨_, _, _, rfl⟩
  refine ⟨decW st.fb, f_wire_DecodeWord _ B, _, f_take st _ _ ?_, ?_⟩
  · rw [hd]; intro he; simp only at he; subst he; have := decW_ok hd; simp only; omega
  · rw [hd]; unfold rdr; simp only
    by_cases hc : st.fbad = true ∨ e ≠ 0
    · rw [if_pos hc, if_pos hc]; simp
    · rw [if_neg hc, if_neg hc]; simp
theorem f_txt (st : T_operation_reader) (B : Byt st.fb) : R_operation_reader_text st (rdr st (decT st.fb) ⟨#[]⟩) := by
  unfold R_operation_reader_text W_operation_reader_text
  obtain ⟨n, k, e, hd⟩ : ∃ n k e, decT st.fb = (n, k, e) := ⟨_, _, _, rfl⟩
  refine ⟨decT st.fb, f_wire_DecodeText _ B, _, f_take st _ _ ?_, ?_⟩
  · rw [hd]; intro he; simp only at he; subst he; have := decT_ok B.2 hd; simp only; omega
  · rw [hd]; unfold rdr; simp only
    by_cases hc : st.fbad = true ∨ e ≠ 0
    · rw [if_pos hc, if_pos hc]; simp
    · rw [if_neg hc, if_neg hc]; simp
/-- What a read leaves: bytes, not more than before, and fewer if it succeeds. -/
def Rd (s s' : T_operation_reader) : Prop := Byt s'.fb ∧ s'.fb.length ≤ s.fb.length ∧ (s'.fbad = false → s'.fb.length < s.fb.length)
theorem rd_rdr {α : Type} {st : T_operation_reader} (B : Byt st.fb) (r : α × Int × Int) (z : α) (h : r.2.2 = 0 → 1 ≤ r.2.1 ∧ r.2.1 ≤ st.fb.length) : Rd st (rdr st r z).2 := by
  unfold rdr
  split
  · exact ⟨B, Nat.le_refl _, fun h => by simp at h⟩
  · rename_i hc
    have := h (by simpa using (not_or.1 hc).2)
    refine ⟨B.drop _, ?_, fun _ => ?_⟩ <;> simp <;> omega
theorem n_num (st : T_operation_reader) (B : Byt st.fb) : ∃ v, R_operation_reader_number st v ∧ Rd st v.2 := by
  refine ⟨_, f_num st B, rd_rdr B _ _ fun he => ?_⟩
  have := decU_ok B.2 (l := st.fb) (n := (decU st.fb).1) (k := (decU st.fb).2.1) (by rw [← he]); omega
theorem n_wrd (st : T_operation_reader) (B : Byt st.fb) : ∃ v, R_operation_reader_word st v ∧ Rd st v.2 := by
  refine ⟨_, f_wrd st B, rd_rdr B _ _ fun he => ?_⟩
  have := decW_ok (l := st.fb) (n := (decW st.fb).1) (k := (decW st.fb).2.1) (by rw [← he]); omega
theorem n_txt (st : T_operation_reader) (B : Byt st.fb) : ∃ v, R_operation_reader_text st v ∧ Rd st v.2 ∧ v.1.size ≤ 65536 := by
  refine ⟨_, f_txt st B, rd_rdr B _ _ fun he => ?_, ?_⟩
  · have := decT_ok B.2 (l := st.fb) (s := (decT st.fb).1) (k := (decT st.fb).2.1) (by rw [← he]); omega
  · unfold rdr; split
    · exact Nat.zero_le _
    · exact decT_size
theorem unf_body (b : List Int) (B : Byt b) : Byt (unf b).2.1 ∧ (unf b).2.1.length ≤ 1048576 := by
  have N : Byt ([] : List Int) := ⟨Nat.zero_le _, fun c hc => by simp at hc⟩
  unfold unf
  split
  · exact ⟨N, Nat.zero_le _⟩
  · unfold unfR
    split
    · exact ⟨N, Nat.zero_le _⟩
    · split
      · exact ⟨N, Nat.zero_le _⟩
      · split
        · exact ⟨N, Nat.zero_le _⟩
        · split
          · exact ⟨N, Nat.zero_le _⟩
          · exact ⟨(B.drop _).take _, by rw [List.length_take]; omega⟩
def zOp : T_api_Op := T_api_Op.mk (0) (ByteArray.empty) (ByteArray.empty) ([] : (List ByteArray)) (T_api_Params.mk (0) (0) (0) (0)) ([] : (List T_api_Item)) ([] : (List Int)) (0) (0) (0) (0) (0) (0) (T_api_Query.mk (0) (ByteArray.empty) (0) (0) (0)) ([] : (List Int))
/-- What Decode answers: an error with nothing else, or an operation whose encoding the bytes are. -/
def DecG (b : List Int) (r : T_api_Op × Int) : Prop :=
  (r.2 ≠ 0 → r.1 = zOp ∧ (r.2 = (unf b).2.2.2 ∨ (unf b).2.2.2 = 0 ∧ r.2 = 2)) ∧
  (r.2 = 0 → (encO r.1).2 = 0 ∧ ((strOfNums (encO r.1).1).toList == (strOfNums b).toList) = true)
theorem n_operation_Decode (b : List Int) (B : Byt b) : ∃ r, R_operation_Decode b r ∧ DecG b r := by
  refine e_operation_Decode (Post := DecG b) ?_
  unfold W_operation_Decode
  simp only [jn]
  have hub := unf_body b B
  refine ⟨unf b, f_wire_Unframe b B, fun h => ?_, fun h => ?_⟩
  · have he : (unf b).2.2.2 ≠ 0 := by simpa using h
    exact ⟨fun _ => ⟨rfl, .inl rfl⟩, fun h0 => absurd h0 he⟩
  have he : (unf b).2.2.2 = 0 := by simpa using h
  have P0 : ∀ o : T_api_Op, DecG b (zOp, 2) := fun _ => ⟨fun _ => ⟨rfl, .inr ⟨he, rfl⟩⟩, fun h0 => by simp at h0⟩
  generalize (unf b).1 = tag
  generalize (unf b).2.2.1 = used
  generalize (unf b).2.1 = body at hub ⊢
  obtain ⟨v3, h3, d3, l3, _⟩ := n_num ⟨body, false⟩ hub.1
  obtain ⟨v4, h4, ⟨d4, l4, _⟩, _⟩ := n_txt v3.2 d3
  obtain ⟨v5, h5, ⟨d5, l5, _⟩, _⟩ := n_txt v4.2 d4
  obtain ⟨v7, h7, d7, l7, _⟩ := n_num v5.2 d5
  simp only at l3
  refine ⟨v3, h3, v4, h4, v5, h5, v7, h7, ?_⟩
  refine lp_up (I := fun k s => Byt s.2.1 ∧ s.2.2.2.length + s.2.1.length ≤ 1048576 + s.2.2.1.toNat ∧ k = s.2.1.length + 1 - s.2.2.1.toNat) ?_ (k := v7.2.fb.length + 1 - v7.2.fbad.toNat) ⟨d7, by simp only [List.length_nil]; omega, rfl⟩
  rintro k ⟨n, q, bad, nm⟩ ⟨hq, hs, hk⟩ X hX
  simp only at hq hs hk ⊢
  refine ⟨fun h => ?_, fun h => ?_⟩
  · have hb : bad = false := by cases bad <;> simp_all
    subst hb
    obtain ⟨v11, h11, ⟨d11, l11, p11⟩, _⟩ := n_txt ⟨q, false⟩ hq
    simp only [Bool.toNat_false] at hs hk l11 p11
    refine ⟨v11, h11, by simp only [List.length_cons, List.length_nil]; omega, ?_⟩
    refine hX (v11.2.fb.length + 1 - v11.2.fbad.toNat) _ ?_ ⟨d11, ?_, rfl⟩
    · cases hb : v11.2.fbad
      · have := p11 hb; simp only [Bool.toNat_false]; omega
      · simp only [Bool.toNat_true]; omega
    · simp only [List.length_append, List.length_cons, List.length_nil]
      cases hb : v11.2.fbad
      · have := p11 hb; simp only [Bool.toNat_false]; omega
      · simp only [Bool.toNat_true]; omega
  have hbl : bad.toNat ≤ 1 := by cases bad <;> simp
  obtain ⟨v13, h13, d13, l13, _⟩ := n_num ⟨q, bad⟩ hq
  obtain ⟨v14, h14, d14, l14, _⟩ := n_num v13.2 d13
  obtain ⟨v15, h15, d15, l15, _⟩ := n_num v14.2 d14
  obtain ⟨v16, h16, d16, l16, _⟩ := n_wrd v15.2 d15
  obtain ⟨v18, h18, d18, l18, _⟩ := n_num v16.2 d16
  simp only at l13
  refine ⟨v13, h13, v14, h14, v15, h15, v16, h16, v18, h18, ?_⟩
  refine lp_up (I := fun k s => Byt s.2.1 ∧ s.2.2.2.2.length + s.2.1.length ≤ 1048577 + s.2.2.1.toNat ∧ k = s.2.1.length + 1 - s.2.2.1.toNat) ?_ (k := v18.2.fb.length + 1 - v18.2.fbad.toNat) ⟨d18, by simp only [List.length_nil]; omega, rfl⟩
  rintro k ⟨n2, q2, bad2, nm2, it⟩ ⟨hq2, hs2, hk2⟩ X2 hX2
  simp only at hq2 hs2 hk2 ⊢
  refine ⟨fun h => ?_, fun h => ?_⟩
  · have hb : bad2 = false := by cases bad2 <;> simp_all
    subst hb
    obtain ⟨v22, h22, ⟨d22, l22, p22⟩, _⟩ := n_txt ⟨q2, false⟩ hq2
    obtain ⟨v23, h23, ⟨d23, l23, p23⟩⟩ := n_num v22.2 d22
    simp only [Bool.toNat_false] at hs2 hk2 l22 p22
    refine ⟨v22, h22, v23, h23, by simp only [List.length_cons, List.length_nil]; omega, ?_⟩
    refine hX2 (v23.2.fb.length + 1 - v23.2.fbad.toNat) _ ?_ ⟨d23, ?_, rfl⟩
    · cases hb : v23.2.fbad
      · have := p23 hb; simp only [Bool.toNat_false]; omega
      · simp only [Bool.toNat_true]; omega
    · simp only [List.length_append, List.length_cons, List.length_nil]
      cases hb : v23.2.fbad
      · have := p23 hb; simp only [Bool.toNat_false]; omega
      · simp only [Bool.toNat_true]; omega
  obtain ⟨v25, h25, ⟨d25, _, _⟩, s25⟩ := n_txt ⟨q2, bad2⟩ hq2
  obtain ⟨v27, h27, d27, _, _⟩ := n_num v25.2 d25
  obtain ⟨v28, h28, d28, _, _⟩ := n_num v27.2 d27
  obtain ⟨v29, h29, d29, _, _⟩ := n_num v28.2 d28
  obtain ⟨v30, h30, d30, _, _⟩ := n_num v29.2 d29
  obtain ⟨v31, h31, d31, _, _⟩ := n_num v30.2 d30
  obtain ⟨v32, h32, d32, _, _⟩ := n_num v31.2 d31
  obtain ⟨v33, h33, d33, _, _⟩ := n_num v32.2 d32
  obtain ⟨v34, h34, ⟨d34, _, _⟩, _⟩ := n_txt v33.2 d33
  obtain ⟨v35, h35, d35, _, _⟩ := n_num v34.2 d34
  obtain ⟨v36, h36, d36, _, _⟩ := n_num v35.2 d35
  obtain ⟨v37, h37, d37, _, _⟩ := n_num v36.2 d36
  obtain ⟨v38, h38, ⟨d38, _, _⟩, s38⟩ := n_txt v37.2 d37
  refine ⟨v25, h25, by omega, v27, h27, v28, h28, v29, h29, v30, h30, v31, h31, v32, h32, v33, h33, v34, h34, v35, h35, v36, h36, v37, h37, v38, h38, by omega, _, f_operation_Encode _, fun h => ?_, fun h => ?_⟩
  · exact P0 zOp
  · simp only [bif_or, Bool.or_eq_false_iff] at h
    refine ⟨fun h0 => absurd rfl h0, fun _ => ⟨?_, ?_⟩⟩
    · simpa using h.1.2
    · simpa using h.2
end Go.Proofs.Ythlaenafkihjiaa
/- Encode of operations in the reference writes the same list. No condition. -/
namespace Go.Proofs.Ythlaenafkihjiaa
open Go.RowKit
set_option linter.unusedVariables false
set_option linter.unusedSimpArgs false
theorem encL_in {n : Int} (h : 0 ≤ n ∧ n ≤ 4611686018427387904) : encL n = encU n := by unfold encL; rw [if_neg (by omega)]
theorem r1 (n : Int) (h : 0 ≤ n ∧ n ≤ 4611686018427387904) : R_ref1_Uint n (encL n) := by rw [encL_in h]; exact f_ref1_Uint n h
theorem f_ref22_Encode (x : T_api_Op) : R_ref22_Encode x (encO x) := by
  unfold R_ref22_Encode W_ref22_Encode
  simp only [jn]
  have enc_no : vldE x ≠ 0 → encO x = ([], vldE x) := fun h => by unfold encO; rw [if_pos h]
  refine ⟨vldE x, f_ref22_Validate x, fun h => enc_no (by simpa using h), fun h => ?_⟩
  have h0 : vldE x = 0 := by simpa using h
  have F := fit_of h0
  have k0 := F.kind; have k1 := F.pk; have k2 := F.ps; have k3 := F.pd; have k4 := F.qc; have k5 := F.qn; have k6 := F.qd; have k7 := F.qk; have k8 := F.ex; have k9 := F.so; have k10 := F.ha; have k11 := F.ix; have k12 := F.cu; have k13 := F.co
  have j1 := F.names; have j2 := F.items; have j3 := F.coins; have j4 := F.data
  have a0 := length_encL x.fKind; have a1 := length_txL x.fName; have a2 := length_txL x.fOther; have a3 := length_encL (x.fNames.length : Int)
  have a4 := length_encL x.fParams.fKind; have a5 := length_encL x.fParams.fSize; have a6 := length_encL x.fParams.fDepth; have a7 := length_encL (x.fItems.length : Int)
  have a8 := length_txL (strOfNums x.fCoins); have a9 := length_txL x.fQuery.fKey; have b1 := length_txL (strOfNums x.fData); have b2 := length_encL x.fQuery.fCount; have b3 := length_encL x.fQuery.fNum; have b4 := length_encL x.fQuery.fDen
  have n1 := F.name; have n2 := F.other; have n3 := F.qs
  have s1 : (strOfNums x.fCoins).size ≤ 65536 := by rw [size_strOfNums]; omega
  have s2 : (strOfNums x.fData).size ≤ 65536 := by rw [size_strOfNums]; omega
  have lw := length_beB 8 x.fParams.fSeed
  refine ⟨_, r1 _ (by omega), _, f_ref1_Text _ (by omega), by omega, _, f_ref1_Text _ (by omega), by simp only [List.length_append]; omega, _, r1 _ (by omega), by simp only [List.length_append]; omega, ?_⟩
  refine lp_up (I := fun k s => ∃ j : Nat, s.2 = (j : Int) ∧ j ≤ x.fNames.length ∧ k = x.fNames.length - j ∧ s.1 = ((((encL x.fKind) ++ (txL x.fName)) ++ (txL x.fOther)) ++ (encL (x.fNames.length : Int))) ++ (x.fNames.take j).flatMap txL) ?_ (k := x.fNames.length) ⟨0, rfl, by omega, by omega, by simp⟩
  rintro k ⟨p10, i⟩ ⟨j, hj, hj1, hk, hp⟩ X hX
  simp only at hj hp ⊢
  subst hj
  have lp10 : p10.length ≤ 300000 := by
    have k3 := flat_le (f := txL) (m := 25) (l := x.fNames.take j) (fun t ht => txL_le t 16 (F.each t (List.mem_of_mem_take ht)))
    rw [List.length_take] at k3
    rw [hp]; simp only [List.length_append]; omega
  refine ⟨fun h => ?_, fun h => ?_⟩
  · have hj2 : j < x.fNames.length := by simp at h; omega
    obtain ⟨t, ht, hg⟩ := ix_any (l := x.fNames) (n := (j : Int)) (by omega) (by omega)
    have htx := length_txL t
    have hts := F.each t (List.mem_of_getElem? hg)
    refine ⟨t, ht, _, f_ref1_Text t (by omega), by omega, ?_⟩
    rw [wr64 (by omega)]
    refine hX (x.fNames.length - (j + 1)) _ (by omega) ⟨j + 1, by simp, by omega, rfl, ?_⟩
    have e : x.fNames.take (j + 1) = x.fNames.take j ++ [t] := by rw [List.take_add_one]; simp at hg; simp [hg]
    rw [e, hp]; simp
  · have hj2 : j = x.fNames.length := by simp at h; omega
    subst hj2
    rw [List.take_length] at hp
    have eA : ((((p10 ++ encL x.fParams.fKind) ++ encL x.fParams.fSize) ++ encL x.fParams.fDepth) ++ beB 8 x.fParams.fSeed) = bodA x := by rw [hp]; simp [bodA]
    refine ⟨_, r1 _ (by omega), by omega, _, r1 _ (by omega), by simp only [List.length_append]; omega, _, r1 _ (by omega), by simp only [List.length_append]; omega, _, f_ref1_Word _, by simp only [List.length_append]; omega, _, r1 _ (by omega), ?_⟩
    rw [eA]
    have lA := bodA_le F
    refine ⟨by omega, ?_⟩
    refine lp_up (I := fun k s => ∃ j : Nat, s.2 = (j : Int) ∧ j ≤ x.fItems.length ∧ k = x.fItems.length - j ∧ s.1 = (bodA x ++ encL (x.fItems.length : Int)) ++ (x.fItems.take j).flatMap itL) ?_ (k := x.fItems.length) ⟨0, rfl, by omega, by omega, by simp⟩
    rintro k ⟨c, i⟩ ⟨j, hj, hj1, hk, hc⟩ X hX
    simp only at hj hc ⊢
    subst hj
    have hcl : c.length ≤ 10000 := by
      have k3 := flat_le (f := itL) (m := 50) (l := x.fItems.take j) (fun t ht => itL_le F t (List.mem_of_mem_take ht))
      rw [List.length_take] at k3
      rw [hc]; simp only [List.length_append]; omega
    refine ⟨fun h => ?_, fun h => ?_⟩
    · have hj2 : j < x.fItems.length := by simp at h; omega
      obtain ⟨t, ht, hg⟩ := ix_any (l := x.fItems) (n := (j : Int)) (by omega) (by omega)
      have htx := length_txL t.fKey
      have hti := F.item t (List.mem_of_getElem? hg)
      have hte := length_encL t.fWeight
      refine ⟨t, ht, _, f_ref1_Text t.fKey (by omega), by omega, t, ht, _, r1 t.fWeight (by omega), by simp only [List.length_append]; omega, ?_⟩
      rw [wr64 (by omega)]
      refine hX (x.fItems.length - (j + 1)) _ (by omega) ⟨j + 1, by simp, by omega, rfl, ?_⟩
      have e : x.fItems.take (j + 1) = x.fItems.take j ++ [t] := by rw [List.take_add_one]; simp at hg; simp [hg]
      rw [e, hc]; simp [itL]
    · have hj2 : j = x.fItems.length := by simp at h; omega
      subst hj2
      rw [List.take_length] at hc
      have eB : c = bodB x := by rw [hc]; simp [bodB]
      subst eB
      refine ⟨_, f_ref1_Text _ s1, by omega, ?_⟩
      refine lp_up (I := fun k s => ∃ j : Nat, s.2.2 = (j : Int) ∧ j ≤ 7 ∧ k = 7 - j ∧ s.2.1 = [x.fExpected, x.fSource, x.fHandle, x.fIndex, x.fCursor, x.fCount, x.fQuery.fKind] ∧ s.1 = (bodB x ++ txL (strOfNums x.fCoins)) ++ ([x.fExpected, x.fSource, x.fHandle, x.fIndex, x.fCursor, x.fCount, x.fQuery.fKind].take j).flatMap encL ∧ s.1.length ≤ 10000 + 65545 + 9 * j) ?_ (k := 7) ⟨0, rfl, by omega, by omega, rfl, by simp, by simp only [List.length_append]; omega⟩
      rintro k ⟨c, L, i⟩ ⟨j, hj, hj1, hk, hL, hc, hcl2⟩ X hX
      simp only at hj hL hc hcl2 ⊢
      subst hj
      have hrng : ∀ y ∈ L, 0 ≤ y ∧ y ≤ 4611686018427387904 := by
        rw [hL]; intro y hy
        simp only [List.mem_cons, List.not_mem_nil, or_false] at hy
        rcases hy with rfl | rfl | rfl | rfl | rfl | rfl | rfl <;> omega
      have hl7 : L.length = 7 := by rw [hL]; rfl
      refine ⟨fun h => ?_, fun h => ?_⟩
      · have hj2 : j < L.length := by simp at h; omega
        obtain ⟨t, ht, hg⟩ := ix_any (l := L) (n := (j : Int)) (by omega) (by omega)
        have hte := length_encL t
        refine ⟨t, ht, _, r1 t (hrng t (List.mem_of_getElem? hg)), by omega, ?_⟩
        rw [wr64 (by omega)]
        refine hX (7 - (j + 1)) _ (by omega) ⟨j + 1, by simp, by omega, rfl, hL, ?_, by simp only [List.length_append]; omega⟩
        have e : L.take (j + 1) = L.take j ++ [t] := by rw [List.take_add_one]; simp at hg; simp [hg]
        rw [← hL] at hc ⊢
        rw [e, hc]; simp
      · have hj2 : j = 7 := by simp at h; omega
        subst hj2
        refine ⟨_, f_ref1_Text _ (by omega), by omega, _, r1 _ (by omega), by simp only [List.length_append]; omega, _, r1 _ (by omega), by simp only [List.length_append]; omega, _, r1 _ (by omega), by simp only [List.length_append]; omega, _, f_ref1_Text _ s2, by simp only [List.length_append]; omega, ?_⟩
        have eE : (((((c ++ txL x.fQuery.fKey) ++ encL x.fQuery.fCount) ++ encL x.fQuery.fNum) ++ encL x.fQuery.fDen) ++ txL (strOfNums x.fData)) = bodE x := by rw [hc]; simp [bodE]
        rw [eE]
        refine ⟨_, f_ref1_Frame 79 (bodE x) (by decide) (bodE_bytes x), ?_⟩
        have lE := bodE_le F
        unfold encO frameE
        rw [if_neg (by simp [h0]), if_neg (by omega)]
end Go.Proofs.Ythlaenafkihjiaa
/- Decode reads back what Encode wrote. Condition: the operation is valid and its seed is a word. -/
namespace Go.Proofs.Ythlaenafkihjiaa
open Go.RowKit
set_option linter.unusedVariables false
set_option linter.unusedSimpArgs false
theorem Byt.right {l a r : List Int} (e : l = a ++ r) (B : Byt l) : Byt r := by
  have := B.drop a.length
  rwa [e, List.drop_left] at this
theorem num_fwd {l r : List Int} {n : Int} (e : l = encL n ++ r) (h : 0 ≤ n ∧ n ≤ 4611686018427387904) (B : Byt l) : R_operation_reader_number ⟨l, false⟩ (n, ⟨r, false⟩) := by
  have k : R_operation_reader_number ⟨l, false⟩ (rdr ⟨l, false⟩ (decU l) 0) := f_num ⟨l, false⟩ B
  have h2 : rdr ⟨l, false⟩ (decU l) (0 : Int) = (n, ⟨r, false⟩) := by
    rw [e, encL_in h]; unfold rdr; rw [decU_enc n h.1 h.2 r]; simp
  rwa [h2] at k
theorem decT_txL (s : ByteArray) (hs : s.size ≤ 65536) (rest : List Int) : decT (txL s ++ rest) = (s, ((txL s).length : Int), 0) := by
  have hL : txL s = encU s.size ++ sI s := by unfold txL; rw [if_neg (by omega)]
  have hl := length_sI s
  unfold decT
  rw [hL, List.append_assoc, decU_enc _ (by omega) (by omega)]
  unfold decTx
  simp only [Int.toNat_natCast]
  rw [if_neg (by simp), if_neg (by omega), if_neg (by simp only [List.length_append, hl]; omega), List.drop_left, show s.size = (sI s).length from hl.symm, List.take_left, strOfNums_sI, List.length_append]
  simp
theorem txt_fwd {l r : List Int} {s : ByteArray} (e : l = txL s ++ r) (h : s.size ≤ 65536) (B : Byt l) : R_operation_reader_text ⟨l, false⟩ (s, ⟨r, false⟩) := by
  have k : R_operation_reader_text ⟨l, false⟩ (rdr ⟨l, false⟩ (decT l) ⟨#[]⟩) := f_txt ⟨l, false⟩ B
  have h2 : rdr ⟨l, false⟩ (decT l) (⟨#[]⟩ : ByteArray) = (s, ⟨r, false⟩) := by
    rw [e]; unfold rdr; rw [decT_txL s h r]; simp
  rwa [h2] at k
theorem wrd_fwd {l r : List Int} {z : Int} (e : l = beB 8 z ++ r) (h : 0 ≤ z ∧ z ≤ 18446744073709551615) (B : Byt l) : R_operation_reader_word ⟨l, false⟩ (z, ⟨r, false⟩) := by
  have k : R_operation_reader_word ⟨l, false⟩ (rdr ⟨l, false⟩ (decW l) 0) := f_wrd ⟨l, false⟩ B
  have hw : decW l = (z, 8, 0) := by
    have h8 := length_beB 8 z
    rw [e]; unfold decW
    rw [if_neg (by simp only [List.length_append, h8]; omega), List.take_append_of_le_length (by omega), List.take_of_length_le (by omega), beV_beB 8 z h.1 (by simp; omega)]
  have h2 : rdr ⟨l, false⟩ (decW l) (0 : Int) = (z, ⟨r, false⟩) := by
    rw [hw, e]; unfold rdr
    have h8 := length_beB 8 z
    have d8 : List.drop 8 (beB 8 z ++ r) = r := by
      have := List.drop_left (l₁ := beB 8 z) (l₂ := r)
      rwa [h8] at this
    simp [d8]
  rwa [h2] at k
/-- The operation as it is read back: its bytes are laid anew. -/
def bckO (x : T_api_Op) : T_api_Op := ⟨x.fKind, x.fName, x.fOther, x.fNames, x.fParams, x.fItems, sI (strOfNums x.fCoins), x.fExpected, x.fSource, x.fHandle, x.fIndex, x.fCursor, x.fCount, x.fQuery, sI (strOfNums x.fData)⟩
theorem bck_bod (x : T_api_Op) : bodE (bckO x) = bodE x := by
  have e1 : strOfNums (bckO x).fCoins = strOfNums x.fCoins := strOfNums_sI _
  have e2 : strOfNums (bckO x).fData = strOfNums x.fData := strOfNums_sI _
  unfold bodE
  rw [e1, e2]
  rfl
theorem bck_vld (x : T_api_Op) : vldE (bckO x) = vldE x := by
  have hz : ∀ f, zro (opD (bckO x)) f = zro (opD x) f := by
    intro f
    unfold zro
    split <;> first | rfl | simp [opD, bckO, length_sI, size_strOfNums]
  have hc : chkE (bckO x) = chkE x := by
    funext f
    unfold chkE
    split <;> first | rfl | simp [bckO, length_sI, size_strOfNums]
  have hk : (opD (bckO x)).kind = (opD x).kind := rfl
  unfold vldE valO
  simp only [hz, hc, hk]
theorem frm_byt (x : T_api_Op) (h : (bodE x).length ≤ 1048576) : Byt (frameL 79 (bodE x)) := by
  have hl := length_headL 79 (bodE x)
  have h4 := length_beB 4 (chk (headL 79 (bodE x)))
  have h9 := length_encU ((bodE x).length : Int)
  have hf : frameL 79 (bodE x) = headL 79 (bodE x) ++ beB 4 (chk (headL 79 (bodE x))) := by unfold frameL; rw [if_neg (by omega)]
  rw [hf]
  refine Byt.of (by simp only [List.length_append]; omega) fun c hc => ?_
  rcases List.mem_append.1 hc with h | h
  · exact frm_bytes (by decide) (bodE_bytes x) c h
  · exact bounds_u8 (wf_beB 4 _ c h)
theorem f_dec_back (x : T_api_Op) (h : vldE x = 0) (hz : 0 ≤ x.fParams.fSeed ∧ x.fParams.fSeed ≤ 18446744073709551615) : R_operation_Decode (frameL 79 (bodE x)) (bckO x, 0) := by
  have F := fit_of h
  have k0 := F.kind; have k1 := F.pk; have k2 := F.ps; have k3 := F.pd; have k4 := F.qc; have k5 := F.qn; have k6 := F.qd; have k7 := F.qk; have k8 := F.ex; have k9 := F.so; have k10 := F.ha; have k11 := F.ix; have k12 := F.cu; have k13 := F.co
  have j1 := F.names; have j2 := F.items; have j3 := F.coins; have j4 := F.data
  have n1 := F.name; have n2 := F.other; have n3 := F.qs
  have s1 : (strOfNums x.fCoins).size ≤ 65536 := by rw [size_strOfNums]; omega
  have s2 : (strOfNums x.fData).size ≤ 65536 := by rw [size_strOfNums]; omega
  have lb := bodE_le F
  have BF := frm_byt x (by omega)
  have hu : unf (frameL 79 (bodE x)) = (79, bodE x, ((frameL 79 (bodE x)).length : Int), 0) := by
    have := unf_frame 79 (bodE x) [] (by omega)
    rwa [List.append_nil] at this
  have BB : Byt (bodE x) := Byt.of (by omega) (bodE_bytes x)
  unfold R_operation_Decode W_operation_Decode
  simp only [jn]
  refine ⟨unf _, f_wire_Unframe _ BF, ?_⟩
  rw [hu]
  simp only
  refine ⟨fun c => by simp at c, fun _ => ?_⟩
  obtain ⟨r23, e23⟩ : ∃ r, r = txL (strOfNums x.fData) ++ ([] : List Int) := ⟨_, rfl⟩
  obtain ⟨r22, e22⟩ : ∃ r, r = encL x.fQuery.fDen ++ r23 := ⟨_, rfl⟩
  obtain ⟨r21, e21⟩ : ∃ r, r = encL x.fQuery.fNum ++ r22 := ⟨_, rfl⟩
  obtain ⟨r20, e20⟩ : ∃ r, r = encL x.fQuery.fCount ++ r21 := ⟨_, rfl⟩
  obtain ⟨r19, e19⟩ : ∃ r, r = txL x.fQuery.fKey ++ r20 := ⟨_, rfl⟩
  obtain ⟨r18, e18⟩ : ∃ r, r = encL x.fQuery.fKind ++ r19 := ⟨_, rfl⟩
  obtain ⟨r17, e17⟩ : ∃ r, r = encL x.fCount ++ r18 := ⟨_, rfl⟩
  obtain ⟨r16, e16⟩ : ∃ r, r = encL x.fCursor ++ r17 := ⟨_, rfl⟩
  obtain ⟨r15, e15⟩ : ∃ r, r = encL x.fIndex ++ r16 := ⟨_, rfl⟩
  obtain ⟨r14, e14⟩ : ∃ r, r = encL x.fHandle ++ r15 := ⟨_, rfl⟩
  obtain ⟨r13, e13⟩ : ∃ r, r = encL x.fSource ++ r14 := ⟨_, rfl⟩
  obtain ⟨r12, e12⟩ : ∃ r, r = encL x.fExpected ++ r13 := ⟨_, rfl⟩
  obtain ⟨r11, e11⟩ : ∃ r, r = txL (strOfNums x.fCoins) ++ r12 := ⟨_, rfl⟩
  obtain ⟨r10, e10⟩ : ∃ r, r = x.fItems.flatMap itL ++ r11 := ⟨_, rfl⟩
  obtain ⟨r9, e9⟩ : ∃ r, r = encL (x.fItems.length : Int) ++ r10 := ⟨_, rfl⟩
  obtain ⟨r8, e8⟩ : ∃ r, r = beB 8 x.fParams.fSeed ++ r9 := ⟨_, rfl⟩
  obtain ⟨r7, e7⟩ : ∃ r, r = encL x.fParams.fDepth ++ r8 := ⟨_, rfl⟩
  obtain ⟨r6, e6⟩ : ∃ r, r = encL x.fParams.fSize ++ r7 := ⟨_, rfl⟩
  obtain ⟨r5, e5⟩ : ∃ r, r = encL x.fParams.fKind ++ r6 := ⟨_, rfl⟩
  obtain ⟨r4, e4⟩ : ∃ r, r = x.fNames.flatMap txL ++ r5 := ⟨_, rfl⟩
  obtain ⟨r3, e3⟩ : ∃ r, r = encL (x.fNames.length : Int) ++ r4 := ⟨_, rfl⟩
  obtain ⟨r2, e2⟩ : ∃ r, r = txL x.fOther ++ r3 := ⟨_, rfl⟩
  obtain ⟨r1, e1⟩ : ∃ r, r = txL x.fName ++ r2 := ⟨_, rfl⟩
  have e0 : bodE x = encL x.fKind ++ r1 := by
    rw [e1, e2, e3, e4, e5, e6, e7, e8, e9, e10, e11, e12, e13, e14, e15, e16, e17, e18, e19, e20, e21, e22, e23]
    simp only [bodE, bodB, bodA, List.flatMap_cons, List.flatMap_nil, List.append_assoc, List.nil_append, List.append_nil]
  have B1 := BB.right e0
  have B2 := B1.right e1
  have B3 := B2.right e2
  have B4 := B3.right e3
  have B5 := B4.right e4
  have B6 := B5.right e5
  have B7 := B6.right e6
  have B8 := B7.right e7
  have B9 := B8.right e8
  have B10 := B9.right e9
  have B11 := B10.right e10
  have B12 := B11.right e11
  have B13 := B12.right e12
  have B14 := B13.right e13
  have B15 := B14.right e14
  have B16 := B15.right e15
  have B17 := B16.right e16
  have B18 := B17.right e17
  have B19 := B18.right e18
  have B20 := B19.right e19
  have B21 := B20.right e20
  have B22 := B21.right e21
  have B23 := B22.right e22
  refine ⟨_, num_fwd e0 (by omega) BB, _, txt_fwd e1 (by omega) B1, _, txt_fwd e2 (by omega) B2, _, num_fwd e3 (by omega) B3, ?_⟩
  refine lp_up (I := fun k s => ∃ j : Nat, j ≤ x.fNames.length ∧ k = x.fNames.length - j ∧ s.1 = ((x.fNames.length - j : Nat) : Int) ∧ s.2.1 = (x.fNames.drop j).flatMap txL ++ r5 ∧ s.2.2.1 = false ∧ s.2.2.2 = x.fNames.take j) ?_ (k := x.fNames.length) ⟨0, by omega, rfl, rfl, by simpa using e4, rfl, rfl⟩
  rintro k ⟨m, q, bad, nm⟩ ⟨j, hj, hk, hm, hq, hb, hn⟩ X hX
  simp only at hm hq hb hn ⊢
  subst hm; subst hb; subst hn
  have Bq : Byt q := by
    have h1 : r4 = (x.fNames.take j).flatMap txL ++ q := by rw [hq, ← List.append_assoc, ← List.flatMap_append, List.take_append_drop]; exact e4
    exact B4.right h1
  refine ⟨fun c => ?_, fun c => ?_⟩
  · have hj2 : j < x.fNames.length := by simp at c; omega
    have hdr : x.fNames.drop j = x.fNames[j] :: x.fNames.drop (j + 1) := List.drop_eq_getElem_cons hj2
    have hts := F.each x.fNames[j] (List.getElem_mem hj2)
    have eq : q = txL x.fNames[j] ++ ((x.fNames.drop (j + 1)).flatMap txL ++ r5) := by rw [hq, hdr, List.flatMap_cons, List.append_assoc]
    refine ⟨_, txt_fwd eq (by omega) Bq, by simp; omega, ?_⟩
    refine hX (x.fNames.length - (j + 1)) _ (by omega) ⟨j + 1, by omega, rfl, ?_, rfl, rfl, ?_⟩
    · simp only; rw [wr64 (by omega)]; omega
    · simp only; rw [List.take_succ_eq_append_getElem hj2]
  have hj2 : j = x.fNames.length := by simp at c; omega
  subst hj2
  rw [List.drop_length, List.flatMap_nil, List.nil_append] at hq
  subst hq
  rw [List.take_length]
  refine ⟨_, num_fwd e5 (by omega) B5, _, num_fwd e6 (by omega) B6, _, num_fwd e7 (by omega) B7, _, wrd_fwd e8 hz B8, _, num_fwd e9 (by omega) B9, ?_⟩
  refine lp_up (I := fun k s => ∃ j : Nat, j ≤ x.fItems.length ∧ k = x.fItems.length - j ∧ s.1 = ((x.fItems.length - j : Nat) : Int) ∧ s.2.1 = (x.fItems.drop j).flatMap itL ++ r11 ∧ s.2.2.1 = false ∧ s.2.2.2.1 = x.fNames ∧ s.2.2.2.2 = x.fItems.take j) ?_ (k := x.fItems.length) ⟨0, by omega, rfl, rfl, by simpa using e10, rfl, rfl, rfl⟩
  rintro k ⟨m, q, bad, nm, it⟩ ⟨j, hj, hk, hm, hq, hb, hn, hi⟩ X hX
  simp only at hm hq hb hn hi ⊢
  subst hm; subst hb; subst hn; subst hi
  have Bq : Byt q := by
    have h1 : r10 = (x.fItems.take j).flatMap itL ++ q := by rw [hq, ← List.append_assoc, ← List.flatMap_append, List.take_append_drop]; exact e10
    exact B10.right h1
  refine ⟨fun c => ?_, fun c => ?_⟩
  · have hj2 : j < x.fItems.length := by simp at c; omega
    have hdr : x.fItems.drop j = x.fItems[j] :: x.fItems.drop (j + 1) := List.drop_eq_getElem_cons hj2
    have hti := F.item x.fItems[j] (List.getElem_mem hj2)
    have eq : q = txL x.fItems[j].fKey ++ (encL x.fItems[j].fWeight ++ ((x.fItems.drop (j + 1)).flatMap itL ++ r11)) := by rw [hq, hdr, List.flatMap_cons]; simp only [itL, List.append_assoc]
    refine ⟨_, txt_fwd eq (by omega) Bq, _, num_fwd rfl (by omega) (Bq.right eq), by simp; omega, ?_⟩
    refine hX (x.fItems.length - (j + 1)) _ (by omega) ⟨j + 1, by omega, rfl, ?_, rfl, rfl, rfl, ?_⟩
    · simp only; rw [wr64 (by omega)]; omega
    · simp only; rw [List.take_succ_eq_append_getElem hj2]
  have hj2 : j = x.fItems.length := by simp at c; omega
  subst hj2
  rw [List.drop_length, List.flatMap_nil, List.nil_append] at hq
  subst hq
  rw [List.take_length]
  refine ⟨_, txt_fwd e11 (by omega) B11, (by simp only; omega), _, num_fwd e12 (by omega) B12, _, num_fwd e13 (by omega) B13, _, num_fwd e14 (by omega) B14, _, num_fwd e15 (by omega) B15, _, num_fwd e16 (by omega) B16, _, num_fwd e17 (by omega) B17, _, num_fwd e18 (by omega) B18, _, txt_fwd e19 (by omega) B19, _, num_fwd e20 (by omega) B20, _, num_fwd e21 (by omega) B21, _, num_fwd e22 (by omega) B22, _, txt_fwd e23 (by omega) B23, (by simp only; omega), encO (bckO x), f_operation_Encode (bckO x), fun c => ?_, fun c => ?_⟩
  · exfalso
    have hv : vldE (bckO x) = 0 := by rw [bck_vld, h]
    have hE : encO (bckO x) = (frameL 79 (bodE x), 0) := by unfold encO; rw [if_neg (by simp [hv]), bck_bod]
    rw [hE] at c
    simp at c
  · rfl
end Go.Proofs.Ythlaenafkihjiaa
/- known() of the laws of operations answers true. No condition. -/
namespace Go.Proofs.Ythlaenafkihjiaa
open Go.RowKit
set_option linter.unusedVariables false
set_option linter.unusedSimpArgs false
def lsO : T_api_Op := T_api_Op.mk (4) (ByteArray.empty) (ByteArray.empty) ([] : (List ByteArray)) (T_api_Params.mk (0) (0) (0) (0)) ([] : (List T_api_Item)) ([] : (List Int)) (0) (0) (0) (0) (0) (0) (T_api_Query.mk (0) (ByteArray.empty) (0) (0) (0)) ([] : (List Int))
def lsN : T_api_Op := T_api_Op.mk (4) ((⟨#[97]⟩ : ByteArray)) (ByteArray.empty) ([] : (List ByteArray)) (T_api_Params.mk (0) (0) (0) (0)) ([] : (List T_api_Item)) ([] : (List Int)) (0) (0) (0) (0) (0) (0) (T_api_Query.mk (0) (ByteArray.empty) (0) (0) (0)) ([] : (List Int))
theorem mchk4 (C : Nat → Int) : fnz (mchk 4 C) = 0 := rfl
theorem a_toList : (⟨#[97]⟩ : ByteArray).toList ≠ [] := by
  intro h
  have := size_nil (s := ⟨#[97]⟩) (by simp [h])
  simp [ByteArray.size] at this
theorem vld_ls : vldE lsO = 0 := by
  have e : (ByteArray.empty).toList = [] := nil_toList
  unfold vldE valO
  rw [if_neg (by unfold kindB opD lsO; simp), if_neg (by show ¬ fnz (mchk 4 _) ≠ 0; rw [mchk4]; simp), if_pos]
  simp [List.range, List.range.loop, zro, opD, lsO, e]
theorem vld_ln : vldE lsN = 18 := by
  unfold vldE valO
  rw [if_neg (by unfold kindB opD lsN; simp), if_neg (by show ¬ fnz (mchk 4 _) ≠ 0; rw [mchk4]; simp), if_neg]
  simp only [List.all_eq_true, List.mem_range, Bool.or_eq_true]
  intro h
  rcases h 0 (by decide) with h | h
  · revert h; show mineB 4 0 = true → False; decide
  · simp [zro, opD, lsN] at h
theorem f_known : R_law22_known true := by
  unfold R_law22_known W_law22_known
  have hE : encO lsO = (frameL 79 (bodE lsO), 0) := by unfold encO; rw [if_neg (by simp [vld_ls])]
  refine ⟨(frameL 79 (bodE lsO), 0), hE ▸ f_operation_Encode lsO, (bckO lsO, 0), f_dec_back lsO vld_ls (by decide), 18, fun _ => vld_ln ▸ f_operation_Validate lsN, true, fun _ => ?_, false, fun _ => ?_, ?_⟩
  · show true = sngB 4; decide
  · show false = sngB 6; decide
  · rfl
end Go.Proofs.Ythlaenafkihjiaa
/- The laws of operations Singles and Raw: what they compute is true. No condition. -/
namespace Go.Proofs.Ythlaenafkihjiaa
open Go.RowKit
set_option linter.unusedVariables false
set_option linter.unusedSimpArgs false
theorem f_law22_OperationSingles (k : Int) : R_law22_OperationSingles k true := by
  unfold R_law22_OperationSingles W_law22_OperationSingles
  simp only [jn]
  refine lp_up (I := fun n s => -2 ≤ s ∧ s ≤ 22 ∧ n = (22 - s).toNat) ?_ (k := 24) ⟨by decide, by decide, by decide⟩
  rintro n s ⟨h1, h2, h3⟩ X hX
  refine ⟨fun h => ?_, fun h => ?_⟩
  · have h4 : s < 22 := by simpa using h
    refine ⟨sngB s, rfl, sngB s, rfl, fun c => by simp at c, fun _ => ?_⟩
    rw [wr64 (by omega)]
    exact hX (22 - (s + 1)).toNat _ (by omega) ⟨by omega, by omega, rfl⟩
  · exact ⟨sngB k, rfl, sngB k, rfl, true, fun _ => f_known, by simp⟩
theorem f_law22_OperationRaw (x : T_api_Op) : R_law22_OperationRaw x true := by
  unfold R_law22_OperationRaw W_law22_OperationRaw
  simp only [jn, bif_or]
  refine ⟨fun _ => ⟨f_known, trivial⟩, fun h => ?_⟩
  simp only [Bool.or_eq_false_iff, decide_eq_false_iff_not] at h
  obtain ⟨⟨⟨⟨⟨⟨h1, h2⟩, h3⟩, h4⟩, h5⟩, h6⟩, h7⟩ := h
  refine lp_up (I := fun k s => ∃ j : Nat, s = (j : Int) ∧ j ≤ x.fNames.length ∧ k = x.fNames.length - j) ?_ (k := x.fNames.length) ⟨0, rfl, by omega, rfl⟩
  rintro k s ⟨j, rfl, hj, hk⟩ X hX
  refine ⟨fun c => ?_, fun c => ?_⟩
  · have hj2 : j < x.fNames.length := by simp at c; omega
    obtain ⟨t, ht, _⟩ := ix_any (l := x.fNames) (n := (j : Int)) (by omega) (by omega)
    refine ⟨t, ht, fun _ => ⟨f_known, trivial⟩, fun _ => ?_⟩
    rw [wr64 (by omega)]
    exact hX (x.fNames.length - (j + 1)) _ (by omega) ⟨j + 1, by simp, by omega, rfl⟩
  refine lp_up (I := fun k s => ∃ j : Nat, s = (j : Int) ∧ j ≤ x.fItems.length ∧ k = x.fItems.length - j) ?_ (k := x.fItems.length) ⟨0, rfl, by omega, rfl⟩
  rintro k s ⟨j, rfl, hj, hk⟩ X hX
  refine ⟨fun c => ?_, fun c => ?_⟩
  · have hj2 : j < x.fItems.length := by simp at c; omega
    obtain ⟨t, ht, _⟩ := ix_any (l := x.fItems) (n := (j : Int)) (by omega) (by omega)
    refine ⟨t, ht, fun _ => ⟨f_known, trivial⟩, fun _ => ?_⟩
    rw [wr64 (by omega)]
    exact hX (x.fItems.length - (j + 1)) _ (by omega) ⟨j + 1, by simp, by omega, rfl⟩
  · exact ⟨encO x, f_operation_Encode x, encO x, f_ref22_Encode x, vldE x, f_operation_Validate x, vldE x, f_ref22_Validate x, true, fun _ => f_known, by simp⟩
end Go.Proofs.Ythlaenafkihjiaa
/- An argument of a struct or slice type, opened as a tree of values. No condition. -/
namespace Go.Proofs.Ythlaenafkihjiaa
open Go.RowKit
set_option linter.unusedVariables false
set_option linter.unusedSimpArgs false
/-- What a cell may hold. -/
inductive TyD where
  | int (k : IntKind)
  | bool
  | str
  | sl (ts : List TyD)
inductive PT : TyD → PV → Prop where
  | int (k : IntKind) (a : Int) (h : (Lit.int k a).wf = true) : PT (.int k) (.v (.int k a))
  | bool (b : Bool) : PT .bool (.v (.bool b))
  | str (s : ByteArray) (h : s.size ≤ maxLen) : PT .str (.v (.string s))
  | sl (ts : List TyD) (rows : List (List PV)) (h1 : ∀ r ∈ rows, r.length = ts.length) (h2 : ∀ r ∈ rows, ∀ (i : Nat) (d : TyD) (p : PV), ts[i]? = some d → r[i]? = some p → PT d p) : PT (.sl ts) (.l ts.length rows)
def PTs : List TyD → List PV → Prop
  | [], [] => True
  | d :: ds, p :: ps => PT d p ∧ PTs ds ps
  | _, _ => False
theorem pts_of : ∀ {ts : List TyD} {r : List PV}, r.length = ts.length → (∀ (i : Nat) (d : TyD) (p : PV), ts[i]? = some d → r[i]? = some p → PT d p) → PTs ts r
  | [], [], _, _ => trivial
  | d :: ds, p :: ps, hl, h => ⟨h 0 d p rfl rfl, pts_of (by simpa using hl) fun i d' p' h1 h2 => h (i + 1) d' p' (by simpa using h1) (by simpa using h2)⟩
  | [], _ :: _, hl, _ => by simp at hl
  | _ :: _, [], hl, _ => by simp at hl
theorem pts_cons {d : TyD} {ds : List TyD} {ps : List PV} (h : PTs (d :: ds) ps) : ∃ p ps', ps = p :: ps' ∧ PT d p ∧ PTs ds ps' := by
  cases ps with
  | nil => exact h.elim
  | cons p ps => exact ⟨p, ps, rfl, h.1, h.2⟩
theorem pts_nil {ps : List PV} (h : PTs [] ps) : ps = [] := by
  cases ps with
  | nil => rfl
  | cons p ps => exact h.elim
theorem pt_int {k : IntKind} {p : PV} (h : PT (.int k) p) : ∃ a, p = .v (.int k a) := by cases h with | int _ a _ => exact ⟨a, rfl⟩
theorem pt_bool {p : PV} (h : PT .bool p) : ∃ b, p = .v (.bool b) := by cases h with | bool b => exact ⟨b, rfl⟩
theorem pt_str {p : PV} (h : PT .str p) : ∃ s, p = .v (.string s) := by cases h with | str s _ => exact ⟨s, rfl⟩
theorem rows_of {α : Type} {f : α → List PV} : ∀ {rows : List (List PV)}, (∀ r ∈ rows, ∃ a, r = f a) → ∃ L : List α, rows = L.map f
  | [], _ => ⟨[], rfl⟩
  | r :: rows, h => by
    obtain ⟨a, ha⟩ := h r (by simp)
    obtain ⟨L, hL⟩ := rows_of (f := f) (rows := rows) fun r hr => h r (by simp [hr])
    exact ⟨a :: L, by simp [ha, hL]⟩
theorem pt_sl {α : Type} {ts : List TyD} {p : PV} {f : α → List PV} (h : PT (.sl ts) p) (hf : ∀ r, PTs ts r → ∃ a, r = f a) : ∃ L : List α, p = .l ts.length (L.map f) := by
  cases h with
  | sl _ rows h1 h2 =>
    obtain ⟨L, hL⟩ := rows_of (f := f) (rows := rows) fun r hr => hf r (pts_of (h1 r hr) (h2 r hr))
    exact ⟨L, by rw [hL]⟩
theorem inv_int (k : IntKind) {r : List PV} (h : PTs [.int k] r) : ∃ a, r = eI k a := by
  obtain ⟨p, ps, rfl, h1, h2⟩ := pts_cons h
  obtain ⟨a, rfl⟩ := pt_int h1
  exact ⟨a, by rw [pts_nil h2]; rfl⟩
theorem inv_str {r : List PV} (h : PTs [.str] r) : ∃ a, r = eS a := by
  obtain ⟨p, ps, rfl, h1, h2⟩ := pts_cons h
  obtain ⟨a, rfl⟩ := pt_str h1
  exact ⟨a, by rw [pts_nil h2]; rfl⟩
/-- The types of a type's cells. -/
def flatFs (g : TypeId → Option (List TyD)) (c : TypeId → Nat) : List Field → Nat → Option (List TyD)
  | [], _ => some []
  | f :: fs, off => match g f.type with
    | some a => if f.offset = off ∧ c f.type = a.length then (match flatFs g c fs (off + a.length) with | some b => some (a ++ b) | none => none) else none
    | none => none
def flatOf (P : Program) : Nat → TypeId → Option (List TyD)
  | 0, _ => none
  | n + 1, t => match P.underlying t with
    | some (.int k) => some [.int k]
    | some .bool => some [.bool]
    | some .string => some [.str]
    | some (.slice e) => match flatOf P n e with
      | some ts => if P.cellsOf e = ts.length ∧ 0 < ts.length then some [.sl ts] else none
      | none => none
    | some (.struct fs) => match flatFs (flatOf P n) P.cellsOf fs.toList 0 with
      | some ts => if P.cellsOf t = ts.length then some ts else none
      | none => none
    | _ => none
def Opn (w : World) (A : Nat → Prop) : List TyD → List PV → List Value → Prop
  | [], [], [] => True
  | d :: ds, p :: ps, v :: vs => PT d p ∧ RP w A p v ∧ Opn w A ds ps vs
  | _, _, _ => False
section
variable {H : Type} {enc : TypeId × Value → H} {P : Program} {w : World} {A : Nat → Prop} {spare : Nat → Bool} {held : Bool}
theorem Opn.len : ∀ {ts : List TyD} {ps : List PV} {cs : List Value}, Opn w A ts ps cs → ps.length = ts.length ∧ cs.length = ts.length
  | [], [], [], _ => ⟨rfl, rfl⟩
  | _ :: ts, _ :: ps, _ :: cs, h => by
    have := Opn.len h.2.2
    simp [this.1, this.2]
theorem Opn.pts : ∀ {ts : List TyD} {ps : List PV} {cs : List Value}, Opn w A ts ps cs → PTs ts ps
  | [], [], [], _ => trivial
  | _ :: ts, _ :: ps, _ :: cs, h => ⟨h.1, Opn.pts h.2.2⟩
theorem Opn.at : ∀ {ts : List TyD} {ps : List PV} {cs : List Value}, Opn w A ts ps cs → ∀ (i : Nat) (d : TyD) (p : PV), ts[i]? = some d → ps[i]? = some p → PT d p
  | _ :: ts, _ :: ps, _ :: cs, h, 0, d, p, h1, h2 => by
    simp at h1 h2
    rw [← h1, ← h2]; exact h.1
  | _ :: ts, _ :: ps, _ :: cs, h, i + 1, d, p, h1, h2 => Opn.at h.2.2 i d p (by simpa using h1) (by simpa using h2)
  | [], [], [], _, i, d, p, h1, _ => by simp at h1
theorem Opn.rp : ∀ {ts : List TyD} {ps : List PV} {cs : List Value}, Opn w A ts ps cs → ∀ (i : Nat) (p : PV) (v : Value), ps[i]? = some p → cs[i]? = some v → RP w A p v
  | _ :: ts, _ :: ps, _ :: cs, h, 0, p, v, h1, h2 => by
    simp at h1 h2
    rw [← h1, ← h2]; exact h.2.1
  | _ :: ts, _ :: ps, _ :: cs, h, i + 1, p, v, h1, h2 => Opn.rp h.2.2 i p v (by simpa using h1) (by simpa using h2)
  | [], [], [], _, i, p, v, h1, _ => by simp at h1
theorem Opn.csR : ∀ {ts : List TyD} {ps : List PV} {cs : List Value} {n : Nat}, Opn w A ts ps cs → CsR w A (fun _ => none) n (ps.map .p) cs
  | [], [], [], _, _ => trivial
  | _ :: ts, _ :: ps, _ :: cs, _, h => ⟨h.2.1.one, h.2.1, Opn.csR h.2.2⟩
theorem Opn.app : ∀ {ts ts' : List TyD} {ps ps' : List PV} {cs cs' : List Value}, Opn w A ts ps cs → Opn w A ts' ps' cs' → Opn w A (ts ++ ts') (ps ++ ps') (cs ++ cs')
  | [], _, [], _, [], _, _, h' => h'
  | _ :: ts, _, _ :: ps, _, _ :: cs, _, h, h' => ⟨h.1, h.2.1, Opn.app h.2.2 h'⟩
theorem opn_fs {g : TypeId → Option (List TyD)} {c : TypeId → Nat} {cs : List Value} : ∀ (fs : List Field) (off : Nat) (ts : List TyD), flatFs g c fs off = some ts → cs.length = off + ts.length →
    (∀ f ∈ fs, ∀ a, g f.type = some a → c f.type = a.length → ∃ ps, Opn w A a ps ((cs.drop f.offset).take (c f.type))) → ∃ ps, Opn w A ts ps (cs.drop off)
  | [], off, ts, h, hl, _ => by
    simp only [flatFs, Option.some.injEq] at h
    subst h
    have : cs.drop off = [] := List.drop_eq_nil_of_le (by simpa using Nat.le_of_eq hl)
    rw [this]
    exact ⟨[], trivial⟩
  | f :: fs, off, ts, h, hl, hf => by
    unfold flatFs at h
    cases hg : g f.type with
    | none => simp [hg] at h
    | some a =>
      rw [hg] at h
      simp only at h
      by_cases hc : f.offset = off ∧ c f.type = a.length
      · rw [if_pos hc] at h
        cases hb : flatFs g c fs (off + a.length) with
        | none => simp [hb] at h
        | some b =>
          rw [hb] at h
          simp only [Option.some.injEq] at h
          subst h
          obtain ⟨pa, ha⟩ := hf f (by simp) a hg hc.2
          obtain ⟨pb, hb'⟩ := opn_fs fs (off + a.length) b hb (by simp at hl; omega) (fun f' h' => hf f' (by simp [h']))
          rw [hc.1, hc.2] at ha
          have := Opn.app ha hb'
          rw [← List.drop_drop, List.take_append_drop] at this
          exact ⟨_, this⟩
      · rw [if_neg hc] at h; cases h
theorem cell_lt {a : Addr} {v : Value} (h : w.cell? a = some v) : a = ⟨a.block, a.off, none⟩ ∧ a.block < w.heap.size := by
  have hs := World.cell?_spot h
  refine ⟨by cases a; simp_all, ?_⟩
  unfold World.cell? at h
  rcases Nat.lt_or_ge a.block w.heap.size with hl | hl
  · exact hl
  · rw [Array.getElem?_eq_none hl] at h; simp at h
theorem open_flat (hA : ∀ g, g < w.heap.size → A g) : ∀ (n : Nat) (t : TypeId) (ts : List TyD) (fuel : Nat) (cs : List Value) (x : DataW H × List MemPlace), flatOf P n t = some ts → DataW.trod enc P w 0 spare held fuel t cs = some x → ∃ ps, Opn w A ts ps cs
  | 0, _, _, _, _, _, h, _ => by simp [flatOf] at h
  | n + 1, t, ts, fuel, cs, x, h, ht => by
    unfold flatOf at h
    cases hu : P.underlying t with
    | none => simp [hu] at h
    | some d =>
      rw [hu] at h
      cases d with
      | int k =>
        simp only [Option.some.injEq] at h
        subst h
        obtain ⟨a, rfl, _, hw⟩ := DataW.trod_int hu ht
        exact ⟨[.v (.int k a)], .int k a hw, .v _ hw, trivial⟩
      | bool =>
        simp only [Option.some.injEq] at h
        subst h
        obtain ⟨b, rfl, _⟩ := DataW.trod_bool hu ht
        exact ⟨[.v (.bool b)], .bool b, .v _ rfl, trivial⟩
      | string =>
        simp only [Option.some.injEq] at h
        subst h
        obtain ⟨s, rfl, _, hs⟩ := DataW.trod_string hu ht
        exact ⟨[.v (.string s)], .str s hs, .v _ (by simpa [atomB] using hs), trivial⟩
      | struct fs =>
        simp only at h
        cases hfl : flatFs (flatOf P n) P.cellsOf fs.toList 0 with
        | none => simp [hfl] at h
        | some ts' =>
          rw [hfl] at h
          simp only at h
          by_cases hc : P.cellsOf t = ts'.length
          · rw [if_pos hc] at h
            simp only [Option.some.injEq] at h
            subst h
            obtain ⟨xs, k, _, _, hl, hxl, hf⟩ := DataW.trod_struct hu ht
            have := opn_fs (w := w) (A := A) (cs := cs) fs.toList 0 ts' hfl (by omega) (fun f hm a ha hca => by
              obtain ⟨i, hi, hfi⟩ := List.getElem_of_mem hm
              have hi' : i < fs.size := by simpa using hi
              have e := hf i f (by rw [Array.getElem?_eq_getElem hi']; simpa using hfi)
              rw [List.getElem?_eq_getElem (by omega)] at e
              exact open_flat hA n f.type a k _ _ ha e)
            simpa using this
          · rw [if_neg hc] at h; cases h
      | slice e =>
        simp only at h
        cases hfl : flatOf P n e with
        | none => simp [hfl] at h
        | some ts' =>
          rw [hfl] at h
          simp only at h
          by_cases hc : P.cellsOf e = ts'.length ∧ 0 < ts'.length
          · rw [if_pos hc] at h
            simp only [Option.some.injEq] at h
            subst h
            rcases Go.Deep.open_slice hu ht with ⟨rfl, _⟩ | ⟨a, len, cap, m, k, D, Pl, rfl, hb, hl, hm, hmm, hx, hel⟩
            · exact ⟨[.l ts'.length []], .sl _ [] (by simp) (by simp), RP.l _ [] none 0 (fun _ _ => .bool false) (by simp) (by simp) (by simp) (.inl rfl) (by simp), trivial⟩
            · have hlm : len ≤ m := by rw [hmm]; split <;> omega
              have each : ∀ i, i < len → ∃ q : List PV × List Value, w.cells? 0 (a.add (i * ts'.length)) ts'.length = some q.2 ∧ Opn w A ts' q.1 q.2 := by
                intro i hi
                obtain ⟨cs', h1, h2⟩ := hel i (by omega)
                rw [hc.1] at h1
                obtain ⟨ps, hp⟩ := open_flat hA n e ts' k cs' _ hfl h2
                exact ⟨(ps, cs'), h1, hp⟩
              obtain ⟨q, hq⟩ := Go.Deep.choose_lt each
              have hrow : ∀ i r, ((List.range len).map fun i => (q i).1)[i]? = some r → i < len ∧ r = (q i).1 := by
                intro i r hr
                rw [List.getElem?_map] at hr
                by_cases hi : i < len
                · rw [List.getElem?_range hi] at hr
                  simp at hr
                  exact ⟨hi, hr.symm⟩
                · rw [List.getElem?_eq_none (by simpa using hi)] at hr
                  simp at hr
              have hmem : ∀ r ∈ (List.range len).map (fun i => (q i).1), ∃ i, i < len ∧ r = (q i).1 := by
                intro r hr
                obtain ⟨i, hi, he⟩ := List.mem_map.1 hr
                exact ⟨i, by simpa using hi, he.symm⟩
              have hcell : ∀ i, i < len → ∀ j, j < ts'.length → w.cell? (a.add (i * ts'.length + j)) = (q i).2[j]? := by
                intro i hi j hj
                have := (World.cells?_some (hq i hi).1).2.2 j hj
                rwa [Go.Deep.add_add] at this
              have key := RP.l (w := w) (A := A) ts'.length ((List.range len).map fun i => (q i).1) (some a) cap (fun i k => ((q i).2).getD k (.bool false)) (by simpa using hl) hm
                (fun r hr => by obtain ⟨i, hi, rfl⟩ := hmem r hr; exact (hq i hi).2.len.1) ?_ ?_
              · refine ⟨[.l ts'.length ((List.range len).map fun i => (q i).1)], .sl _ _ ?_ ?_, ?_, trivial⟩
                · intro r hr; obtain ⟨i, hi, rfl⟩ := hmem r hr; exact (hq i hi).2.len.1
                · intro r hr; obtain ⟨i, hi, rfl⟩ := hmem r hr; exact (hq i hi).2.at
                · simpa using key
              · by_cases h0 : len = 0
                · left; subst h0; rfl
                right
                have c0 := hcell 0 (by omega) 0 hc.2
                have l0 := (hq 0 (by omega)).2.len.2
                rw [List.getElem?_eq_getElem (by omega)] at c0
                have ea : a.add (0 * ts'.length + 0) = a := by simp [Addr.add]
                rw [ea] at c0
                obtain ⟨hp, hlt⟩ := cell_lt c0
                refine ⟨a.block, a.off, by rw [← hp], hA _ hlt, hlt, fun i r k' p hi hk => ?_⟩
                obtain ⟨hi', rfl⟩ := hrow i r hi
                have hk' : k' < ts'.length := by
                  have := (List.getElem?_eq_some_iff.1 hk).1
                  rw [(hq i hi').2.len.1] at this; exact this
                have e1 := hcell i hi' k' hk'
                have l2 := (hq i hi').2.len.2
                rw [List.getElem?_eq_getElem (by omega)] at e1
                have e2 : a.add (i * ts'.length + k') = ⟨a.block, a.off + i * ts'.length + k', none⟩ := by
                  have hs : a.spot = none := by rw [hp]
                  have hgen : ∀ (b : Addr) (n : Nat), b.spot = none → b.add n = ⟨b.block, b.off + n, none⟩ := by
                    intro b n h
                    cases b with
                    | mk x y z =>
                      simp only at h; subst h; unfold Addr.add
                      by_cases h0 : n = 0
                      · rw [if_pos h0, h0]; rfl
                      · rw [if_neg h0]
                  rw [hgen a _ hs, Nat.add_assoc]
                rw [e2] at e1
                rw [e1]; simp [List.getD, l2, hk']
              · intro i r k' p hi hk
                obtain ⟨hi', rfl⟩ := hrow i r hi
                have hk' : k' < (q i).1.length := (List.getElem?_eq_some_iff.1 hk).1
                have l1 := (hq i hi').2.len.1
                have l2 := (hq i hi').2.len.2
                refine (hq i hi').2.rp k' p _ hk ?_
                simp [List.getD, show k' < (q i).2.length by omega]
          · rw [if_neg hc] at h; cases h
      | _ => simp at h
end
end Go.Proofs.Ythlaenafkihjiaa
/- Trees of the cells of struct types are encodings of structs. No condition. -/
namespace Go.Proofs.Ythlaenafkihjiaa
open Go.RowKit
set_option linter.unusedVariables false
set_option linter.unusedSimpArgs false
def ts_api_Item : List TyD := [.str, .int .i64]
theorem inv_api_Item {ps : List PV} (h : PTs ts_api_Item ps) : ∃ x : T_api_Item, ps = e_api_Item x := by
  unfold ts_api_Item at h
  obtain ⟨p0, q0, rfl, h0, g0⟩ := pts_cons h
  obtain ⟨a0, rfl⟩ := pt_str h0
  obtain ⟨p1, q1, rfl, h1, g1⟩ := pts_cons g0
  obtain ⟨a1, rfl⟩ := pt_int h1
  obtain rfl := pts_nil g1
  exact ⟨⟨a0, a1⟩, rfl⟩
def ts_api_Op : List TyD := [.int .i64, .str, .str, .sl [.str], .int .i64, .int .i64, .int .i64, .int .u64, .sl [.str, .int .i64], .sl [.int .u8], .int .i64, .int .i64, .int .i64, .int .i64, .int .i64, .int .i64, .int .i64, .str, .int .i64, .int .i64, .int .i64, .sl [.int .u8]]
theorem inv_api_Op {ps : List PV} (h : PTs ts_api_Op ps) : ∃ x : T_api_Op, ps = e_api_Op x := by
  unfold ts_api_Op at h
  obtain ⟨p0, q0, rfl, h0, g0⟩ := pts_cons h
  obtain ⟨a0, rfl⟩ := pt_int h0
  obtain ⟨p1, q1, rfl, h1, g1⟩ := pts_cons g0
  obtain ⟨a1, rfl⟩ := pt_str h1
  obtain ⟨p2, q2, rfl, h2, g2⟩ := pts_cons g1
  obtain ⟨a2, rfl⟩ := pt_str h2
  obtain ⟨p3, q3, rfl, h3, g3⟩ := pts_cons g2
  obtain ⟨a3, rfl⟩ := pt_sl h3 (fun r hr => inv_str hr)
  obtain ⟨p4, q4, rfl, h4, g4⟩ := pts_cons g3
  obtain ⟨a4, rfl⟩ := pt_int h4
  obtain ⟨p5, q5, rfl, h5, g5⟩ := pts_cons g4
  obtain ⟨a5, rfl⟩ := pt_int h5
  obtain ⟨p6, q6, rfl, h6, g6⟩ := pts_cons g5
  obtain ⟨a6, rfl⟩ := pt_int h6
  obtain ⟨p7, q7, rfl, h7, g7⟩ := pts_cons g6
  obtain ⟨a7, rfl⟩ := pt_int h7
  obtain ⟨p8, q8, rfl, h8, g8⟩ := pts_cons g7
  obtain ⟨a8, rfl⟩ := pt_sl h8 (fun r hr => inv_api_Item hr)
  obtain ⟨p9, q9, rfl, h9, g9⟩ := pts_cons g8
  obtain ⟨a9, rfl⟩ := pt_sl h9 (fun r hr => inv_int .u8 hr)
  obtain ⟨p10, q10, rfl, h10, g10⟩ := pts_cons g9
  obtain ⟨a10, rfl⟩ := pt_int h10
  obtain ⟨p11, q11, rfl, h11, g11⟩ := pts_cons g10
  obtain ⟨a11, rfl⟩ := pt_int h11
  obtain ⟨p12, q12, rfl, h12, g12⟩ := pts_cons g11
  obtain ⟨a12, rfl⟩ := pt_int h12
  obtain ⟨p13, q13, rfl, h13, g13⟩ := pts_cons g12
  obtain ⟨a13, rfl⟩ := pt_int h13
  obtain ⟨p14, q14, rfl, h14, g14⟩ := pts_cons g13
  obtain ⟨a14, rfl⟩ := pt_int h14
  obtain ⟨p15, q15, rfl, h15, g15⟩ := pts_cons g14
  obtain ⟨a15, rfl⟩ := pt_int h15
  obtain ⟨p16, q16, rfl, h16, g16⟩ := pts_cons g15
  obtain ⟨a16, rfl⟩ := pt_int h16
  obtain ⟨p17, q17, rfl, h17, g17⟩ := pts_cons g16
  obtain ⟨a17, rfl⟩ := pt_str h17
  obtain ⟨p18, q18, rfl, h18, g18⟩ := pts_cons g17
  obtain ⟨a18, rfl⟩ := pt_int h18
  obtain ⟨p19, q19, rfl, h19, g19⟩ := pts_cons g18
  obtain ⟨a19, rfl⟩ := pt_int h19
  obtain ⟨p20, q20, rfl, h20, g20⟩ := pts_cons g19
  obtain ⟨a20, rfl⟩ := pt_int h20
  obtain ⟨p21, q21, rfl, h21, g21⟩ := pts_cons g20
  obtain ⟨a21, rfl⟩ := pt_sl h21 (fun r hr => inv_int .u8 hr)
  obtain rfl := pts_nil g21
  exact ⟨⟨a0, a1, a2, a3, ⟨a4, a5, a6, a7⟩, a8, a9, a10, a11, a12, a13, a14, a15, ⟨a16, a17, a18, a19, a20⟩, a21⟩, rfl⟩
end Go.Proofs.Ythlaenafkihjiaa
/- The walk of the law OperationRaw: it returns true and changes nothing that was there. No condition. -/
namespace Go.Proofs.Ythlaenafkihjiaa
open Go.RowKit
set_option linter.unusedVariables false
set_option linter.unusedSimpArgs false
theorem OperationRaw_walk (cs0 : Array Value) (x0 : T_api_Op) (w : World) (c0 : CsR w (fun g => g < w.heap.size) (fun _ => none) 0 ((e_api_Op x0).map .p) cs0.toList) :
    Calls Try.prog 3 #[.agg cs0] w fun e w' => e = .returned (.bool true) ∧ Below w.heap.size w w' := by
  refine (calls_of_contract (A := fun x => x < w.heap.size) (vs := #[.agg cs0]) (g := 0) (q := 0) (c_law22_OperationRaw x0 true (f_law22_OperationRaw x0)) rfl (fun x h => h) ⟨⟨cs0, rfl, c0⟩, trivial⟩).mono ?_
  rintro e w' ⟨rfl, hg⟩
  exact ⟨rfl, below_of_grown hg⟩
end Go.Proofs.Ythlaenafkihjiaa
