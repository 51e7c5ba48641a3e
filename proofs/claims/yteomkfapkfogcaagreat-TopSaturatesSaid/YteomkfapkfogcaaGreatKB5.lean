/- Parts of the proof, laid together. No condition. -/
import Derived.Test.YteomkfapkfogcaaGreatKB4
set_option linter.unusedVariables false
set_option linter.unusedSimpArgs false
namespace Go.Proofs.YteomkfapkfogcaaGreat
open Go.RowKit
def zz (q : Int) (k m : Nat) : Nat := (BitVec.ofInt 64 (q.fdiv (2 ^ k)) &&& BitVec.ofInt 64 (m : Int)).toNat
theorem zz1 (q : Int) (k : Nat) : zz q k 1 = 0 ∨ zz q k 1 = 1 := by
  have h : zz q k 1 ≤ 1 := by
    unfold zz
    rw [BitVec.toNat_and]
    exact Nat.and_le_right
  omega
theorem zz3 (q : Int) (k : Nat) : zz q k 3 = 0 ∨ zz q k 3 = 1 ∨ zz q k 3 = 2 ∨ zz q k 3 = 3 := by
  have h : zz q k 3 ≤ 3 := by
    unfold zz
    rw [BitVec.toNat_and]
    exact Nat.and_le_right
  omega
theorem lkO_mem : ∀ (l : OX) (k m r : Nat), lkO l k m = some r → ((k, m), r) ∈ l
  | [], k, m, r, h => by cases h
  | x :: l, k, m, r, h => by
    have h1 : Bool.rec (motive := fun _ => Option Nat) (lkO l k m) (some x.2) (Nat.beq x.1.1 k && Nat.beq x.1.2 m) = some r := h
    cases e : (Nat.beq x.1.1 k && Nat.beq x.1.2 m) with
    | true =>
      rw [e] at h1
      simp only [Bool.and_eq_true] at e
      cases h1
      obtain ⟨⟨a, b⟩, c⟩ := x
      have e1 : a = k := Nat.eq_of_beq_eq_true e.1
      have e2 : b = m := Nat.eq_of_beq_eq_true e.2
      subst e1 e2
      exact List.mem_cons_self
    | false =>
      rw [e] at h1
      exact List.mem_cons_of_mem _ (lkO_mem l k m r h1)
theorem wrap_small : ∀ r : Nat, r ≤ 3 → IntKind.i64.wrap (r : Int) = r := by
  intro r h
  match r, h with
  | 0, _ => rfl
  | 1, _ => rfl
  | 2, _ => rfl
  | 3, _ => rfl
theorem ook {q : Int} {l : OX} (h : ∀ x ∈ l, zz q x.1.1 x.1.2 = x.2 ∧ x.2 ≤ 3) : OOk q l := by
  intro k m r hr
  obtain ⟨h1, h2⟩ := h _ (lkO_mem l k m r hr)
  have h1 : zz q k m = r := h1
  show IntKind.i64.wrap ((zz q k m : Nat) : Int) = r
  rw [h1]
  exact wrap_small r h2
theorem ook0 (q : Int) : OOk q [] := ook fun x h => by cases h
theorem ook1 {q : Int} {k m r : Nat} (h : zz q k m = r) (hr : r ≤ 3) : OOk q [((k, m), r)] := ook fun x hx => by
  simp at hx
  subst hx
  exact ⟨h, hr⟩
theorem ook3 {q : Int} {k m r k' m' r' k2 m2 r2 : Nat} (h : zz q k m = r) (hr : r ≤ 3) (h' : zz q k' m' = r') (hr' : r' ≤ 3) (h2 : zz q k2 m2 = r2) (hr2 : r2 ≤ 3) : OOk q [((k, m), r), ((k', m'), r'), ((k2, m2), r2)] := ook fun x hx => by
  simp at hx
  rcases hx with rfl | rfl | rfl
  · exact ⟨h, hr⟩
  · exact ⟨h', hr'⟩
  · exact ⟨h2, hr2⟩
noncomputable def tail3 : Code := seqs codeC (.seq (.seq codeD (.block 0 (.loop round3))) codeZ)
theorem body3_eq : seqs codeA (seqs codeB tail3) = body3 := by kernel_rfl
theorem okA3 : ∀ c ∈ codeA, okCode Tryz.f3.ntmps c = true := List.all_eq_true.1 (by kernel_rfl)
theorem okB3 : ∀ c ∈ codeB, okCode Tryz.f3.ntmps c = true := List.all_eq_true.1 (by kernel_rfl)
theorem okC3 : ∀ c ∈ codeC, okCode Tryz.f3.ntmps c = true := List.all_eq_true.1 (by kernel_rfl)
theorem okD3 : okCode Tryz.f3.ntmps codeD = true := by kernel_rfl
theorem okR3 : okCode Tryz.f3.ntmps round3 = true := by kernel_rfl
theorem okZ3 : okCode Tryz.f3.ntmps codeZ = true := by kernel_rfl
def End3 (w0 : World) (e : Exit) (a : Act) (w : World) : Prop := e = .ret ∧ a.defers = [] ∧ a.tmps.getD 2 undef = .bool true ∧ Kept w0 w
abbrev Leave3 (w0 : World) : Exit → Act → World → Prop := fun e a w => e = .exit 0 ∧ codeZ.wp Tryz.prog (End3 w0) a w
abbrev StepX (O : OX) (l : List Code) (L L' : LS) : Prop := stepX Tryz.prog typesX funcsX O memoX esc3 l L L' = true
abbrev RecT (O : OX) : Prop := RecOk Tryz.prog O okCode (runX Tryz.prog typesX funcsX O memoX 3000)
section
variable (hrec : ∀ O, RecT O)
include hrec
theorem cfg3 (q : Int) (w0 : World) {X Z B C D E0 E1 F : LS} (okX : okLS esc3 X = true) (okZ : okLS esc3 Z = true) (okB : okLS esc3 B = true) (okC : okLS esc3 C = true) (okD : okLS esc3 D = true) (okE0 : okLS esc3 E0 = true) (okE1 : okLS esc3 E1 = true) (okF : okLS esc3 F = true)
    (goX : leaveX Tryz.prog typesX funcsX [] memoX esc3 0 round3 X Z = true) (goZ : endX Tryz.prog typesX funcsX [] memoX esc3 2 codeZ Z = true)
    (goC : StepX [] codeC B C) (goD : StepX [] [codeD] C D) (goE0 : StepX [((5, 1), 0)] [round3] D E0) (goE1 : StepX [((5, 1), 1)] [round3] D E1)
    (goF00 : StepX [((6, 1), 0)] [round3] E0 F) (goF01 : StepX [((6, 1), 1)] [round3] E0 F) (goF10 : StepX [((6, 1), 0)] [round3] E1 F) (goF11 : StepX [((6, 1), 1)] [round3] E1 F)
    (goG0 : StepX [((7, 1), 0)] [round3] F X) (goG1 : StepX [((7, 1), 1)] [round3] F X) : Goes Tryz.prog Tryz.f3.ntmps q w0 tail3 (End3 w0) B.g B.s := by
  have hZ : Goes Tryz.prog Tryz.f3.ntmps q w0 codeZ (End3 w0) Z.g Z.s := end_ok (hrec _) okZ3 okZ (ook0 q) goZ
  have hX : GoesR Tryz.prog Tryz.f3.ntmps q w0 round3 (Leave3 w0) 1 X.g X.s := leave_ok (hrec _) okR3 okX (ook0 q) goX hZ
  have hF : GoesR Tryz.prog Tryz.f3.ntmps q w0 round3 (Leave3 w0) 2 F.g F.s := by
    rcases zz1 q 7 with h | h
    · exact round_ok (hrec _) okR3 okF (ook1 h (by decide)) goG0 hX
    · exact round_ok (hrec _) okR3 okF (ook1 h (by decide)) goG1 hX
  have hE0 : GoesR Tryz.prog Tryz.f3.ntmps q w0 round3 (Leave3 w0) 3 E0.g E0.s := by
    rcases zz1 q 6 with h | h
    · exact round_ok (hrec _) okR3 okE0 (ook1 h (by decide)) goF00 hF
    · exact round_ok (hrec _) okR3 okE0 (ook1 h (by decide)) goF01 hF
  have hE1 : GoesR Tryz.prog Tryz.f3.ntmps q w0 round3 (Leave3 w0) 3 E1.g E1.s := by
    rcases zz1 q 6 with h | h
    · exact round_ok (hrec _) okR3 okE1 (ook1 h (by decide)) goF10 hF
    · exact round_ok (hrec _) okR3 okE1 (ook1 h (by decide)) goF11 hF
  have hD : GoesR Tryz.prog Tryz.f3.ntmps q w0 round3 (Leave3 w0) 4 D.g D.s := by
    rcases zz1 q 5 with h | h
    · exact round_ok (hrec _) okR3 okD (ook1 h (by decide)) goE0 hE0
    · exact round_ok (hrec _) okR3 okD (ook1 h (by decide)) goE1 hE1
  exact step_ok (hrec _) okC3 okB (ook0 q) goC (loop_ok (hrec _) okD3 okC (ook0 q) goD hD)
end
theorem arg3 (esc : Nat) (h : bitX esc 0) : argT esc [.c (.x 0)] 0 = [(0, .c (.x 0))] := by
  show Nat.rec (motive := fun _ => List (Nat × TX)) [] (fun _ _ => [(0, TX.c (.x 0))]) (esc / 2 ^ 0 % 2) = _
  cases h2 : esc / 2 ^ 0 % 2 with
  | zero => exact absurd h2 h
  | succ n => rfl
theorem calls3 (n : Int) (w : World) (h : Goes Tryz.prog Tryz.f3.ntmps n w body3 (End3 w) init3.g init3.s) : Calls Tryz.prog 3 #[.int .i64 n] w fun e w' => e = .returned (.bool true) ∧ Below w.heap.size w w' := by
  have hb : Tryz.f3.body = some body3 := by kernel_rfl
  have hst : XR (topE w n) Tryz.f3.ntmps (fun _ => none) (msX init3.g init3.s 0 (fun _ => True)) { tmps := #[.int .i64 n] ++ Array.replicate (Tryz.f3.ntmps - 1) undef, defers := [] } w := by
    have := start_ok (N := Tryz.f3.ntmps) (esc := 1) (q := n) (w := w) (ts := [.c (.x 0)]) (vs := #[.int .i64 n]) rfl (Nat.le_of_ble_eq_true (by kernel_rfl)) fun j t hj => by
      match j, hj with
      | 0, hj => cases hj; exact ⟨_, rfl, rfl, by show Value.int .i64 n = .int .i64 (n.fdiv (2 ^ 0)); rw [Int.pow_zero, Int.fdiv_one]⟩
      | j + 1, hj => simp at hj
    rw [arg3 1 (by unfold bitX; decide)] at this
    exact this
  refine calls_of_wp Tryz.func3 hb (wp_mono (h _ _ _ hst) ?_)
  rintro e a w' ⟨rfl, h1, h2, h3⟩
  refine ⟨h1, _, results_run (fn := Tryz.f3) (rs := [.tmp 2]) (vs := [.bool true]) (by kernel_rfl) (by simp [resOne, h2, Sem.run_bind, Sem.run_pure, Result.andThen_ok]), rfl, h3.os, h3.tape, h3.output, h3.sz, fun g hg => ?_⟩
  exact h3.kept g hg
noncomputable def codeOf (f : Func) : Code := match f.body with
  | some c => c
  | none => .skip
noncomputable def escOf (f : Nat) : Nat := match funcsX.get f with
  | some x => x.esc
  | none => 0
noncomputable def memoR (f : Nat) (fn : Func) (xs : List Value) : Option (List TX) := match runX Tryz.prog typesX funcsX [] (fun _ _ => none) 3000 (escOf f) (codeOf fn) ⟨[], argT (escOf f) (xs.map fun x => .c (.v x)) 0⟩ ⟨.e, 0, []⟩ with
  | some (.rt, g, s) => resX typesX g s fn.results.toList
  | _ => none
theorem none_ok : MOk Tryz.prog fun _ _ => none := fun _ _ _ h => nomatch h
theorem memo_of {f : Nat} {fn : Func} {xs : List Value} {l : List TX} {y : Value} (hf : funcsX.get f = some ⟨fn, escOf f⟩) (hb : fn.body = some (codeOf fn)) (hx : xs.all atomX = true) (hl : xs.length ≤ fn.ntmps) (h : memoR f fn xs = some l) (hy : clX (oneT l) = some y) : MemoOk Tryz.prog f (xs.map fun x => .c (.v x)) (oneT l) :=
  memo_run mixedX typesX_ok funcsX_ok none_ok hf hb hx hl hy h rfl
theorem col_of {r n m : Nat} (h : memoR 318 Tryz.f318 [.int .u64 9, .int .i64 (.ofNat r), .int .i64 (.ofNat n), .string ⟨#[97]⟩] = some [.c (.v (.int .i64 (.ofNat m))), .c (.v (.int .i64 (.ofNat 0)))]) : MemoOk Tryz.prog 318 [.c (.v (.int .u64 9)), .c (.v (.int .i64 (.ofNat r))), .c (.v (.int .i64 (.ofNat n))), .c (.v (.string ⟨#[97]⟩))] (.t [.c (.v (.int .i64 (.ofNat m))), .c (.v (.int .i64 (.ofNat 0)))]) :=
  memo_of (f := 318) (fn := Tryz.f318) (y := .tuple #[.int .i64 (.ofNat m), .int .i64 (.ofNat 0)]) (by kernel_rfl) (by kernel_rfl) rfl (Nat.le_of_ble_eq_true (by kernel_rfl)) h rfl
theorem known_of (h : memoR 6 Tryz.f6 [] = some [.c (.v (.bool true))]) : MemoOk Tryz.prog 6 [] (.c (.v (.bool true))) :=
  memo_of (f := 6) (fn := Tryz.f6) (xs := []) (y := .bool true) (by kernel_rfl) (by kernel_rfl) rfl (Nat.zero_le _) h rfl
theorem memoX_of (h6 : MemoOk Tryz.prog 6 [] (.c (.v (.bool true)))) (h : ∀ r n m, colX r n = some m → MemoOk Tryz.prog 318 [.c (.v (.int .u64 9)), .c (.v (.int .i64 (.ofNat r))), .c (.v (.int .i64 (.ofNat n))), .c (.v (.string ⟨#[97]⟩))] (.t [.c (.v (.int .i64 (.ofNat m))), .c (.v (.int .i64 (.ofNat 0)))])) : MOk Tryz.prog memoX := by
  intro f ts t hh
  unfold memoX at hh
  split at hh
  · rename_i hf
    have hf := Nat.eq_of_beq_eq_true hf
    subst hf
    split at hh
    · cases hh
      exact h6
    · cases hh
  · split at hh
    · rename_i hf
      have hf := Nat.eq_of_beq_eq_true hf
      subst hf
      split at hh
      · rename_i a r n s
        split at hh
        · rename_i he
          simp only [Bool.and_eq_true] at he
          split at hh
          · rename_i m hm
            cases hh
            have h1 := Nat.eq_of_beq_eq_true he.1
            have h2 : s = ⟨#[97]⟩ := by
              have := eqU_eq _ _ he.2
              cases s
              congr 1
              exact Array.ext' this
            subst h1 h2
            exact h r n m hm
          · cases hh
        · cases hh
      · cases hh
    · cases hh
theorem rec3 (hM : MOk Tryz.prog memoX) (O : OX) : RecT O := runX_ok mixedX typesX_ok funcsX_ok hM 3000
end Go.Proofs.YteomkfapkfogcaaGreat
