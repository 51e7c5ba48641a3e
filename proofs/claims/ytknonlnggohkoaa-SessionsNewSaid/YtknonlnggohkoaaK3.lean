/- Parts of the proof, laid together. No condition. -/
import Derived.Test.YtknonlnggohkoaaK2
import Derived.Laws.Bits64
import Derived.Below
set_option linter.unusedVariables false
set_option linter.unusedSimpArgs false
namespace Go.Proofs.Ytknonlnggohkoaa
open Go.RowKit
def BA (B : Nat) (v : Value) : Prop := ∀ a n c, v = .slice (some a) n c → B ≤ a.block
theorem Ints.set {k : IntKind} {w : World} {b off n c : Nat} {l : List Int} (h : Ints k w (.slice (some ⟨b, off, none⟩) n c) l) {b' o : Nat} (u : Value) (hne : b ≠ b') : Ints k (w.setCell ⟨b', o, none⟩ u) (.slice (some ⟨b, off, none⟩) n c) l := by
  obtain ⟨a, cap, he, h1, h2, h3, h4⟩ := h
  refine ⟨a, cap, he, h1, h2, h3, ?_⟩
  rcases h4 with h4 | ⟨b2, off2, hb2, hlt, hc⟩
  · exact .inl h4
  · refine .inr ⟨b2, off2, hb2, by simpa using hlt, fun i hi => ?_⟩
    cases he
    cases hb2
    have := hc i hi
    simp [go_sem, hne]
    simpa using this
theorem BA.mono {B B' : Nat} {v : Value} (h : BA B v) (hb : B' ≤ B) : BA B' v := fun a n c e => Nat.le_trans hb (h a n c e)
theorem Ints.at {k : IntKind} {w : World} {a : Option Addr} {n cap : Nat} {l : List Int} (h : Ints k w (.slice a n cap) l) (hl : 0 < l.length) : ∃ b off, a = some ⟨b, off, none⟩ ∧ b < w.heap.size ∧ ∀ i, i < l.length → w.cell? ⟨b, off + i, none⟩ = some (.int k (gI l i)) := by
  obtain ⟨a', cap', e, h1, h2, h3, h4⟩ := h
  injection e with e1 e2 e3
  subst e1
  rcases h4 with rfl | h4
  · simp at hl
  · exact h4
theorem AH.own {p q : Nat} {w w1 w2 w3 : World} {r : Option Nat} (h : AH p q w w1) (g : w1.grownBy w2 none) (g' : w2.grownBy w3 r) (hr : ∀ k, r = some k → w.heap.size ≤ k) : AH p q w w3 := by
  obtain ⟨h1, h2, h3, h4, h5⟩ := h.grown g
  exact ⟨g'.os.trans h1, g'.tape.trans h2, g'.output.trans h3, Nat.le_trans h4 g'.size, fun k hk hp hq => (g'.block k (Nat.lt_of_lt_of_le hk h4) (fun e => by have := hr k e.symm; omega)).trans (h5 k hk hp hq)⟩
theorem Xn.own {b : Nat} {cs : Array Value} {t : TypeId} {w w' : World} {r : Option Nat} (h : Xn b cs t w) (g : w.grownBy w' r) (hne : r ≠ some b) : Xn b cs t w' := by
  have := g.block b h.lt (fun e => hne e.symm)
  unfold Xn at *
  rw [this]; exact h
end Go.Proofs.Ytknonlnggohkoaa
namespace Go.Proofs.Ytknonlnggohkoaa
open Go.RowKit Go.ChangeShapes Go.WideShapes
def XO (k : Int) (f : Nat) : Bool := (XN k).contains (f : Int)
def WO : List Int → Int
  | [] => 0
  | e :: r => if e ≠ 0 then e else WO r
def XP (k : Int) (C : Nat → Int) : List Int := (List.range 14).map fun f => if XO k f = true then C f else 0
def UT (o : OpD) (C : Nat → Int) : Int :=
  if ¬ JL o.kind then 8 else if WO (XP o.kind C) ≠ 0 then WO (XP o.kind C) else if (List.range 14).all (fun f => XO o.kind f || Cz o f) = true then 0 else 18
theorem Aj {k : Int} (hk : ¬ JL k) : XN k = [] := by
  unfold JL at hk
  unfold XN
  repeat rw [if_neg (by omega)]
theorem BB (k : Int) : (XN k).all (fun x => decide (0 ≤ x ∧ x ≤ 13)) = true := by
  by_cases hk : JL k
  · rcases US hk with rfl | rfl | rfl | rfl | rfl | rfl | rfl | rfl | rfl | rfl | rfl | rfl | rfl | rfl | rfl | rfl | rfl <;> decide
  · rw [Aj hk]; rfl
theorem Cg {k : Int} {x : Int} (h : x ∈ XN k) : 0 ≤ x ∧ x ≤ 13 := of_decide_eq_true (List.all_eq_true.1 (BB k) x h)
theorem BC (k : Int) : (XN k).length ≤ 5 := by
  by_cases hk : JL k
  · rcases US hk with rfl | rfl | rfl | rfl | rfl | rfl | rfl | rfl | rfl | rfl | rfl | rfl | rfl | rfl | rfl | rfl | rfl <;> decide
  · rw [Aj hk]; simp
theorem BD {L : List Int} (h : ∀ i, i < L.length → gI L i = 0) : WO L = 0 := by
  induction L with
  | nil => rfl
  | cons e r ih =>
    have h0 := h 0 (by simp)
    have h1 : e = 0 := h0
    unfold WO
    rw [if_neg (by simp [h1])]
    exact ih fun i hi => h (i + 1) (by simp; omega)
theorem Dh {L : List Int} {k : Nat} (hk : k < L.length) (h : ∀ i, i < k → gI L i = 0) (hn : gI L k ≠ 0) : WO L = gI L k := by
  induction L generalizing k with
  | nil => simp at hk
  | cons e r ih =>
    unfold WO
    cases k with
    | zero => have h1 : e ≠ 0 := hn; rw [if_pos h1]; rfl
    | succ k =>
      have h1 : e = 0 := h 0 (by omega)
      rw [if_neg (by simp [h1])]
      exact ih (by simpa using hk) (fun i hi => h (i + 1) (by omega)) hn
theorem Uo (k : Int) (C : Nat → Int) : (XP k C).length = 14 := by simp [XP]
theorem Ch (k : Int) (C : Nat → Int) {f : Nat} (h : f < 14) : gI (XP k C) f = if XO k f = true then C f else 0 := by
  rw [Yt (by rw [Uo]; exact h)]; simp [XP]
def Ak (b : Nat) (S : List Int) (w : World) : Prop := ∃ cs : Array Value, Xn b cs 88 w ∧ cs.size = 14 ∧ ∀ f, f < 14 → cs[f]? = some (.bool (S.contains (f : Int)))
theorem Ak.keep {b : Nat} {S : List Int} {w w' : World} (h : Ak b S w) (g : w.grownBy w' none) : Ak b S w' := by
  obtain ⟨cs, h1, h2⟩ := h
  exact ⟨cs, h1.keep g, h2⟩
theorem Ak.cell {b : Nat} {S : List Int} {w : World} (h : Ak b S w) {f : Nat} (hf : f < 14) : w.cell? ⟨b, f, none⟩ = some (.bool (S.contains (f : Int))) := by
  obtain ⟨cs, h1, h2, h3⟩ := h
  exact h1.cell f (h3 f hf)
theorem Ak.froz {b : Nat} {S : List Int} {w : World} (h : Ak b S w) (f : Nat) : w.frozen? ⟨b, f, none⟩ = false := by
  obtain ⟨cs, h1, _⟩ := h
  exact h1.froz f
theorem Ak.set {b : Nat} {S : List Int} {w : World} (h : Ak b S w) {x : Nat} (hx : x < 14) : Ak b (S ++ [(x : Int)]) (w.setCell ⟨b, x, none⟩ (.bool true)) := by
  obtain ⟨cs, h1, h2, h3⟩ := h
  refine ⟨_, h1.set x (.bool true), by simpa using h2, fun f hf => ?_⟩
  rw [Array.getElem?_setIfInBounds]
  by_cases e : x = f
  · subst e
    rw [if_pos rfl, if_pos (by omega)]
    simp
  · rw [if_neg e, h3 f hf]
    have : (S ++ [(x : Int)]).contains (f : Int) = S.contains (f : Int) := by
      simp only [List.contains_eq_mem, List.mem_append, List.mem_singleton]
      congr 1
      rw [eq_iff_iff]
      constructor
      · rintro (h | h)
        · exact h
        · omega
      · exact .inl
    rw [this]
theorem Ak.new (w : World) (cs : Array Value) (h : cs = (Array.replicate 14 (Value.bool false))) : Ak w.heap.size [] (w.alloc (.cells cs 88)) := by
  subst h
  refine ⟨_, Xn.new _ _ _, rfl, fun f hf => ?_⟩
  rw [Array.getElem?_replicate, if_pos hf]; simp
theorem V1 {P : Program} {ops : Array Oper} {rest : List Oper} {o : Oper} {a : Act} {w : World} {Q : Exit → Act → World → Prop} (hw : Region.wanted o (yielded ops a.tmps) = true) (ty : TypeId) (x : Operand) (ho : o.op = .load ty x)
    (g : Nat) (hx : a.eval x = .pointer (some ⟨g, 0, none⟩)) (t : TypeId) (cs : Array Value) (fr : Nat × Nat) (d : TypeDesc) (hg : w.heap[g]? = some (.cells cs t fr))
    (hu : P.underlying ty = some d) (hd : (match d with | .struct _ | .array _ _ => true | _ => false) = true) (hi : (P.info? ty).map (·.size) = some cs.size)
    (h : wpList P ops Q rest (a.put o.dst (.agg cs)) w) : wpList P ops Q (o :: rest) a w :=
  wpList_step fun K hK => by
    rw [if_pos hw]
    exact wp_load_row ty x ho g hx t cs fr d hg hu hd hi (hK _ _ h)
set_option maxRecDepth 100000 in
set_option maxHeartbeats 1600000 in
theorem BE (cs : Array Value) (kind : Int) (C : Nat → Int) (ZR : Nat → Bool) (w : World) (hsz : cs.size = 22) (h0 : cs[0]? = some (.int .i64 kind)) (hinf : (Try.prog.info? 40).map (·.size) = some cs.size)
    (hC : ∀ (f : Nat) (w' : World), f < 14 → XO kind f = true → w.grownBy w' none → Calls Try.prog 25 #[.agg cs, .int .i64 f] w' fun e w'' => e = .returned (.int .i64 (C f)) ∧ w'.grownBy w'' none)
    (hZ : ∀ (f : Nat) (w' : World), f < 14 → Calls Try.prog 26 #[.agg cs, .int .i64 f] w' fun e w'' => e = .returned (.bool (ZR f)) ∧ w'.grownBy w'' none) (hk : JL kind) (VO : Int)
    (hV : VO = if WO (XP kind C) ≠ 0 then WO (XP kind C) else if (List.range 14).all (fun f => XO kind f || ZR f) = true then 0 else 18) :
    Calls Try.prog 16 #[.agg cs] w fun e w' => e = .returned (.int .i64 VO) ∧ w.grownBy w' none := by
  have HV := Lib.hid hV
  have hc0 : ∀ h, cs[0]'h = .int .i64 kind := fun h => by
    have := Array.getElem?_eq_getElem h
    rw [h0] at this
    exact (Option.some.inj this).symm
  have CZ := Lib.hid hZ
  have CU := Lib.hid (fun w => By kind w hk)
  have hlen := BC kind
  have HIN := Lib.hid (fun x (h : x ∈ XN kind) => Cg h)
  have HC := Lib.hid hC
  have HM := Lib.hid (fun (f : Nat) (hf : f < 14) => Ch kind C hf)
  have HML := Lib.hid (Uo kind C)
  have hmine : XO kind = fun f : Nat => (XN kind).contains (f : Int) := rfl
  have hmk := congrFun hmine
  generalize XP kind C = MC at *
  generalize XO kind = MB at *
  generalize XN kind = U at *
  have HMK := Lib.hid hmk
  have henil := fun a n c w => Ce (P := Try.prog) Try.underlying41 a n c w
  clear hC hk hmine hmk hV hZ
  go_enter Try.func16, Try.ntmps16
  go_wp2_with fail
  refine (CU.out _).mono ?_
  rintro e w1 ⟨a, rfl, IU, g1⟩
  have c1 : Xn w.heap.size cs 40 w1 := (Xn.new w _ _).keep g1
  have G1 := (Jz _ _).trans' g1
  have hz1 := c1.lt
  clear g1
  go_wp2_with fail
  go_loopw [6, 17] (fun _ i wr => ∃ j : Nat, j ≤ U.length ∧ i = .int .i64 j ∧ Ak w1.heap.size (U.take j) wr ∧ w1.grownBy wr none ∧ w1.heap.size < wr.heap.size) (fun _ i _ => U.length - (intOf i).toNat)
  case atStart => exact ⟨0, by omega, rfl, Ak.new _ _ (by rfl), Jz _ _, by simp⟩
  case round =>
    obtain ⟨j, hj, rfl, hM, g2, hz2⟩ := hrel
    by_cases hlt : j < U.length
    · obtain ⟨b, off, hab, hb, hc⟩ := (IU.grown g2).at (by omega)
      injection hab with hab
      subst hab
      have y := hc j hlt
      have hx := HIN.out _ (CF hlt)
      have HS := Lib.hid (Wp hlt)
      obtain ⟨X, hX⟩ : ∃ X : Nat, gI U j = X := ⟨(gI U j).toNat, by omega⟩
      rw [hX] at y hx HS
      have hX14 : (X : Int) < 14 := by omega
      have hX0 : (0 : Int) ≤ X := by omega
      have e1 : (j : Int) < U.length := by omega
      have e2 : (0 : Int) ≤ j := by omega
      have f1 := hM.cell (f := X) (by omega)
      have f2 := hM.froz X
      clear hc hX
      go_wp2
      go_roundw
      case rel =>
        refine ⟨j + 1, by omega, by go_num, ?_, Ar g2 _ (Nat.le_refl _), by simpa using hz2⟩
        rw [HS.out]
        exact hM.set (by omega)
      case measure => simp [intOf]; omega
    · obtain rfl : j = U.length := by omega
      rw [List.take_of_length_le (by omega)] at hM
      rename World => w2
      have c2 := c1.keep g2
      have G2 := G1.trans' g2
      clear c1 IU CU G1 g2 hlt hj
      go_wp2_with fail
      go_loopw [7, 8, 24] (fun _ _ i ws => ∃ f : Nat, f ≤ 14 ∧ i = .int .i64 f ∧ Hid (∀ g, g < f → gI MC g = 0) ∧ w2.grownBy ws none) (fun _ _ i _ => 14 - (intOf i).toNat)
      case atStart => exact ⟨0, by omega, rfl, fun g hg => absurd hg (by omega), Yv _⟩
      case round =>
        obtain ⟨f, hf, rfl, hall, g3⟩ := hrel
        have M3 := hM.keep g3
        have c3 := c2.keep g3
        have G3 := G2.trans' g3
        by_cases hlt : f < 14
        · have f1 := M3.cell hlt
          rw [← HMK.out] at f1
          have hmc := HM.out f hlt
          have e1 : (f : Int) < 14 := by omega
          have e2 : (0 : Int) ≤ f := by omega
          have hcc := fun h => HC.out f wr hlt h G3
          have hnx : gI MC f = 0 → Hid (∀ g, g < f + 1 → gI MC g = 0) := fun h g hg => by
            by_cases e : g = f
            · rw [e]; exact h
            · exact hall.out g (by omega)
          have hbad : gI MC f ≠ 0 → Hid (VO = gI MC f) := fun h => by
            have hq := Dh (L := MC) (k := f) (by rw [HML.out]; exact hlt) hall.out h
            show _ = _
            rw [HV.out, hq, if_pos h]
          generalize MB f = mb at *
          cases mb
          · have HS := Lib.hid (hnx (by rw [hmc]; rfl))
            clear hcc hmc hnx hbad
            go_wp2
            go_roundw
            case rel => exact ⟨f + 1, by omega, by go_num, HS.out, g3⟩
            case measure => simp [intOf]; omega
          · rw [if_pos rfl] at hmc
            rw [hmc] at hnx hbad
            have CK := Lib.hid (hcc rfl)
            generalize C f = ce at *
            clear hcc hmc
            by_cases hce : ce = 0
            · have HS := Lib.hid (hnx hce)
              subst hce
              clear hnx hbad
              go_wp2_with (refine wpList_load_row rfl 40 _ rfl _ rfl _ cs (0, 0) _ c3 Try.underlying40 rfl hinf ?_)
              go_wp2_with fail
              refine CK.out.mono ?_
              rintro e w5 ⟨rfl, g5⟩
              clear f1
              go_wp2
              go_roundw
              case rel => exact ⟨f + 1, by omega, by go_num, HS.out, g3.trans' g5⟩
              case measure => simp [intOf]; omega
            · have HB := hbad hce
              have hcb : (ce != 0) = true := bne_iff_ne.2 hce
              clear hnx hbad hce
              go_wp2_with (refine wpList_load_row rfl 40 _ rfl _ rfl _ cs (0, 0) _ c3 Try.underlying40 rfl hinf ?_)
              go_wp2_with fail
              refine CK.out.mono ?_
              rintro e w5 ⟨rfl, g5⟩
              clear f1
              go_wp2
              go_ret
              rw [HB.out]
              exact ⟨rfl, G3.trans' g5⟩
        · obtain rfl : f = 14 := by omega
          have HZ : Hid (WO MC = 0) := BD (fun i hi => hall.out i (by rw [HML.out] at hi; exact hi))
          have hV2 : VO = if (List.range 14).all (fun f => MB f || ZR f) = true then 0 else 18 := by
            rw [HV.out, HZ.out, if_neg (by simp)]
          have HV2 := Lib.hid hV2
          clear hM c2 G2 hall hlt hf HV HM HML HC hV2 HZ
          rename World => w3
          go_wp2_with fail
          go_loopw [9, 38] (fun _ i ws => ∃ f : Nat, f ≤ 14 ∧ i = .int .i64 f ∧ Hid (∀ g, g < f → (MB g || ZR g) = true) ∧ w3.grownBy ws none) (fun _ i _ => 14 - (intOf i).toNat)
          case atStart => exact ⟨0, by omega, rfl, fun g hg => absurd hg (by omega), Yv _⟩
          case round =>
            obtain ⟨f, hf, rfl, hall, g4⟩ := hrel
            have M4 := M3.keep g4
            have c4 := c3.keep g4
            have G4 := G3.trans' g4
            by_cases hlt : f < 14
            · have f1 := M4.cell hlt
              rw [← HMK.out] at f1
              have e1 : (f : Int) < 14 := by omega
              have e2 : (0 : Int) ≤ f := by omega
              have hnx : (MB f || ZR f) = true → Hid (∀ g, g < f + 1 → (MB g || ZR g) = true) := fun h g hg => by
                by_cases e : g = f
                · rw [e]; exact h
                · exact hall.out g (by omega)
              have hbad : (MB f || ZR f) = false → Hid (VO = 18) := fun h => by
                show _ = _
                rw [HV2.out, if_neg]
                intro hh
                have := List.all_eq_true.1 hh f (by simpa using hlt)
                rw [h] at this
                cases this
              have CK := Lib.hid (CZ.out f wr hlt)
              generalize MB f = mb at *
              cases mb
              · generalize ZR f = zf at *
                cases zf
                · have HB := hbad rfl
                  clear hnx hbad
                  go_wp2_with (refine V1 (by first | rfl | simp [Region.wanted, yielded]) 40 _ rfl _ rfl _ cs (0, 0) _ c4 Try.underlying40 rfl hinf ?_)
                  go_wp2_with fail
                  refine CK.out.mono ?_
                  rintro e w5 ⟨rfl, g5⟩
                  clear f1
                  go_wp2
                  go_ret
                  rw [HB.out]
                  exact ⟨rfl, G4.trans' g5⟩
                · have HS := Lib.hid (hnx rfl)
                  clear hnx hbad
                  go_wp2_with (refine V1 (by first | rfl | simp [Region.wanted, yielded]) 40 _ rfl _ rfl _ cs (0, 0) _ c4 Try.underlying40 rfl hinf ?_)
                  go_wp2_with fail
                  refine CK.out.mono ?_
                  rintro e w5 ⟨rfl, g5⟩
                  clear f1
                  go_wp2
                  go_roundw
                  case rel =>
                    refine ⟨_, _, _, _, _, _, _, _, _, _, _, _, _, _, _, _, ?_, rfl⟩
                    exact ⟨f + 1, by omega, by go_num, HS.out, g4.trans' g5⟩
                  case measure => simp [intOf]; omega
              · have HS := Lib.hid (hnx rfl)
                clear hnx hbad
                go_wp2
                go_roundw
                case rel => exact ⟨f + 1, by omega, by go_num, HS.out, g4⟩
                case measure => simp [intOf]; omega
            · obtain rfl : f = 14 := by omega
              have HB := Lib.hid (show VO = 0 by
                rw [HV2.out, if_pos]
                exact List.all_eq_true.2 fun g hg => hall.out g (by simpa using hg))
              clear c4 M4
              go_wp2
              go_ret
              rw [HB.out]
              exact ⟨rfl, G4⟩
end Go.Proofs.Ytknonlnggohkoaa
namespace Go.Proofs.Ytknonlnggohkoaa
open Go.RowKit Go.ChangeShapes Go.WideShapes
theorem Try.infoOp : (Try.prog.info? 40).map (·.size) = some 22 := by kernel_rfl
set_option maxRecDepth 100000 in
set_option maxHeartbeats 1600000 in
theorem BF (cs : Array Value) (kind : Int) (w : World) (hsz : cs.size = 22) (h0 : cs[0]? = some (.int .i64 kind)) (hk : ¬ JL kind) :
    Calls Try.prog 16 #[.agg cs] w fun e w' => e = .returned (.int .i64 8) ∧ w.grownBy w' none := by
  have hc0 : ∀ h, cs[0]'h = .int .i64 kind := fun h => by
    have := Array.getElem?_eq_getElem h
    rw [h0] at this
    exact (Option.some.inj this).symm
  have CU := Lib.hid (fun w => Cf kind w hk)
  have henil := fun w => Bv (P := Try.prog) Try.underlying41 w
  go_enter Try.func16, Try.ntmps16
  go_wp2_with fail
  refine (CU.out _).mono ?_
  rintro e w1 ⟨rfl, rfl⟩
  go_wp2
  go_ret
  exact ⟨rfl, Jz _ _⟩
theorem AJ (o : OpD) (C : Nat → Int) (vn vi vc vd : Value) (w : World)
    (h1 : Sl vn o.names.length) (h2 : Sl vi o.items.length) (h3 : Sl vc o.coins.length) (h4 : Sl vd o.data.length)
    (hC : ∀ (f : Nat) (w' : World), f < 14 → XO o.kind f = true → w.grownBy w' none → Calls Try.prog 25 #[opV o vn vi vc vd, .int .i64 f] w' fun e w'' => e = .returned (.int .i64 (C f)) ∧ w'.grownBy w'' none) :
    Calls Try.prog 16 #[opV o vn vi vc vd] w fun e w' => e = .returned (.int .i64 (UT o C)) ∧ w.grownBy w' none := by
  by_cases hk : JL o.kind
  · refine BE _ o.kind C (Cz o) w (by rfl) (by rfl) (by exact Try.infoOp) hC (fun f w' hf => Bz o f vn vi vc vd w' hf h1 h2 h3 h4) hk _ ?_
    unfold UT
    rw [if_neg (by simp [hk])]
  · unfold UT
    rw [if_pos hk]
    exact BF _ o.kind w (by rfl) (by rfl) hk
def Us (a : Qs) : OpD := ⟨a.fo, a.fb2, a.ff, a.f9, a.fb.fo, a.fb.fi, a.fb.fv, a.fb.fu, a.fy.map (fun x => (x.fb4, x.fb7)), a.fb3, a.fa0, a.fa4, a.f7, a.fb1, a.f8, a.fx, a.fq.fo, a.fq.fb4, a.fq.fx, a.fq.fc3, a.fq.fb8, a.fb0⟩
def Kt (a0 : Qs) (r : Int) : Prop :=
  (Lit.int .i64 r).wf = true ∧ ∃ C : Nat → Int, (∀ f : Nat, f < 14 → XO a0.fo f = true → ZU a0 f (C f)) ∧ r = UT (Us a0) C
theorem Ci {w : World} {A : Nat → Prop} {gs : Nat → Option Nat} {g q : Nat} {xs : List PV} {vs : Array Value} (h : B8 w A gs g q [.agg xs] vs.toList) : ∃ cs, vs = #[.agg cs] ∧ XY w A (fun _ => none) 0 (xs.map .p) cs.toList := by
  suffices ∃ cs, vs.toList = [.agg cs] ∧ XY w A (fun _ => none) 0 (xs.map .p) cs.toList by
    obtain ⟨cs, h1, h2⟩ := this
    exact ⟨cs, by have := congrArg List.toArray h1; simpa using this, h2⟩
  revert h
  generalize vs.toList = l
  intro h
  match l, h with
  | [v], h =>
    obtain ⟨cs, rfl, h2⟩ := h.1
    exact ⟨cs, rfl, h2⟩
theorem Z5 {w : World} {A : Nat → Prop} {gs : Nat → Option Nat} {n : Nat} {x : RV} {r : List RV} {us : List Value} (h : XY w A gs n (x :: r) us) : ∃ u us', us = u :: us' ∧ CN w A (gs n) x u ∧ XY w A gs (n + 1) r us' := by
  cases us with
  | nil => exact h.elim
  | cons u us => exact ⟨u, us, rfl, h.2.1, h.2.2⟩
theorem VJ {w : World} {A : Nat → Prop} {go : Option Nat} {x u : Value} (h : CN w A go (.p (.v x)) u) : u = x := by
  have : RP w A (.v x) u := h
  cases this with | v _ _ => rfl
theorem Al {w : World} {A : Nat → Prop} {go : Option Nat} {e : Nat} {rows : List (List PV)} {u : Value} (h : CN w A go (.p (.l e rows)) u) : Sl u rows.length := by
  have : RP w A (.l e rows) u := h
  cases this with | l _ _ a cap c _ _ _ _ _ => exact ⟨a, cap, rfl⟩
set_option maxRecDepth 100000 in
theorem Di {w : World} {A : Nat → Prop} {a0 : Qs} {cs : Array Value} (hcs : XY w A (fun _ => none) 0 ((Zp a0).map .p) cs.toList) : ∃ vn vi vc vd, Value.agg cs = opV (Us a0) vn vi vc vd ∧ Sl vn (Us a0).names.length ∧ Sl vi (Us a0).items.length ∧ Sl vc (Us a0).coins.length ∧ Sl vd (Us a0).data.length := by
  simp only [Zp, List.map_cons, List.map_nil] at hcs
  obtain ⟨u0, l0, e0, h0, hcs⟩ := Z5 hcs
  have x0 := VJ h0
  obtain ⟨u1, l1, e1, h1, hcs⟩ := Z5 hcs
  have x1 := VJ h1
  obtain ⟨u2, l2, e2, h2, hcs⟩ := Z5 hcs
  have x2 := VJ h2
  obtain ⟨u3, l3, e3, h3, hcs⟩ := Z5 hcs
  have x3 := Al h3
  obtain ⟨u4, l4, e4, h4, hcs⟩ := Z5 hcs
  have x4 := VJ h4
  obtain ⟨u5, l5, e5, h5, hcs⟩ := Z5 hcs
  have x5 := VJ h5
  obtain ⟨u6, l6, e6, h6, hcs⟩ := Z5 hcs
  have x6 := VJ h6
  obtain ⟨u7, l7, e7, h7, hcs⟩ := Z5 hcs
  have x7 := VJ h7
  obtain ⟨u8, l8, e8, h8, hcs⟩ := Z5 hcs
  have x8 := Al h8
  obtain ⟨u9, l9, e9, h9, hcs⟩ := Z5 hcs
  have x9 := Al h9
  obtain ⟨u10, l10, e10, h10, hcs⟩ := Z5 hcs
  have x10 := VJ h10
  obtain ⟨u11, l11, e11, h11, hcs⟩ := Z5 hcs
  have x11 := VJ h11
  obtain ⟨u12, l12, e12, h12, hcs⟩ := Z5 hcs
  have x12 := VJ h12
  obtain ⟨u13, l13, e13, h13, hcs⟩ := Z5 hcs
  have x13 := VJ h13
  obtain ⟨u14, l14, e14, h14, hcs⟩ := Z5 hcs
  have x14 := VJ h14
  obtain ⟨u15, l15, e15, h15, hcs⟩ := Z5 hcs
  have x15 := VJ h15
  obtain ⟨u16, l16, e16, h16, hcs⟩ := Z5 hcs
  have x16 := VJ h16
  obtain ⟨u17, l17, e17, h17, hcs⟩ := Z5 hcs
  have x17 := VJ h17
  obtain ⟨u18, l18, e18, h18, hcs⟩ := Z5 hcs
  have x18 := VJ h18
  obtain ⟨u19, l19, e19, h19, hcs⟩ := Z5 hcs
  have x19 := VJ h19
  obtain ⟨u20, l20, e20, h20, hcs⟩ := Z5 hcs
  have x20 := VJ h20
  obtain ⟨u21, l21, e21, h21, hcs⟩ := Z5 hcs
  have x21 := Al h21
  have hl : cs.toList = [u0, u1, u2, u3, u4, u5, u6, u7, u8, u9, u10, u11, u12, u13, u14, u15, u16, u17, u18, u19, u20, u21] := by
    have h0 : l21 = [] := by
      cases l21 with
      | nil => rfl
      | cons v l => exact hcs.elim
    rw [e0, e1, e2, e3, e4, e5, e6, e7, e8, e9, e10, e11, e12, e13, e14, e15, e16, e17, e18, e19, e20, e21, h0]
  refine ⟨u3, u8, u9, u21, ?_, by simpa [Us] using x3, by simpa [Us] using x8, by simpa [Us] using x9, by simpa [Us] using x21⟩
  have hc : cs = #[u0, u1, u2, u3, u4, u5, u6, u7, u8, u9, u10, u11, u12, u13, u14, u15, u16, u17, u18, u19, u20, u21] := by have := congrArg List.toArray hl; simpa using this
  rw [hc, x0, x1, x2, x4, x5, x6, x7, x10, x11, x12, x13, x14, x15, x16, x17, x18, x19, x20]
  rfl
theorem VV (a0 : Qs) (r : Int) (h : Kt a0 r) : Qz Try.prog 16 [.agg (Zp a0)] [.c (.p (.v (.int .i64 r)))] [] := by
  obtain ⟨hwf, C, hC, hr⟩ := h
  refine YO (by kernel_rfl) hwf rfl fun A q w vs hA hR => ?_
  obtain ⟨cs, rfl, hcs⟩ := Ci hR
  obtain ⟨vn, vi, vc, vd, hv, h1, h2, h3, h4⟩ := Di hcs
  rw [hv, hr]
  rw [hv] at hR
  refine AJ (Us a0) C vn vi vc vd w h1 h2 h3 h4 fun f w' hf hm g => ?_
  refine V7 (A := A) (q := 0) (g := w'.heap.size) (XM a0 f (C f) (hC f hf hm)) rfl (fun x hx => Nat.lt_of_lt_of_le (hA x hx) g.size) ?_
  have h1 := Ul (g' := w'.heap.size) (q' := 0) g hA rfl hR
  refine ⟨h1.1, .v _ ?_, trivial⟩
  simp only [KI, Lit.wf, Bool.and_eq_true, decide_eq_true_eq]
  constructor <;> simp [IntKind.min, IntKind.max, IntKind.bits, IntKind.signed] <;> omega
set_option maxRecDepth 100000
set_option maxHeartbeats 4000000
def K5 (a0 : (List ByteArray)) (Q : ((List ByteArray)) → Prop) : Prop :=
 ((a0 = [] → Q (([] : (List ByteArray)))) ∧ (((([] : List ByteArray)).length + a0.length) * 16 ≤ 140737488355328) ∧ Q (((([] : List ByteArray)) ++ a0)))
def QJ (a0 : (List ByteArray)) (r : (List ByteArray)) : Prop := K5 a0 fun x => r = x
theorem Zn (a0 : (List ByteArray)) (r : (List ByteArray)) (h : QJ a0 r) : Qz Try.prog 30 [.c (.l 1 (List.map eS a0))] [.c (.own 1 (List.map eS r))] [] := by
  refine Qx tb Try.func30 Z (by kernel_rfl) Z Z (Nat.le_of_ble_eq_true Z) Z ?_;intro E;unfold QJ K5 at h;refine ZN (fun Q hQ => ?_);refine tk fun L hL => QD Z Z <| rt (hL _ ?_);refine sk fun L1 hL1 => sk fun L hL => K9 Z Z Z Z Z (fun h0 => hL _ ?_) (hL _ ?_)
  · replace h := h.1 (by simpa using h0);refine KW Z Z <| tk fun L hL => QD Z Z <| rt (hL _ ?_);obtain rfl := h;exact Qm (hQ _ _ ⟨.inr Z, _, _, _, (.cons (.p Z) .nil), (.cons (.c (.nilo _ (Nat.le_of_ble_eq_true Z))) .nil), Z, Z⟩)
  · replace h := h.2;refine KX Z Z <| Qv (hL1 _ ?_);refine tk fun L hL => ul (Ka (f := eS) Z Z Z Z Z) <| mv Z ?_;obtain ⟨hm2, h⟩ := h;refine ul (Zi (f := eS) (L := ([] : List ByteArray)) (L' := a0) hm2 Z Z Z Z Z Z Z Z Z Z Z (KZ KQ Z Z Z Z Z)) <| QD Z Z <| rt (hL _ ?_);obtain rfl := h;exact Qm (hQ _ _ (BP Z Z Z Z))
def ZV (a0 : (List Qt)) (Q : ((List Qt)) → Prop) : Prop :=
 ((a0 = [] → Q (([] : (List Qt)))) ∧ (((([] : List Qt)).length + a0.length) * 24 ≤ 140737488355328) ∧ Q (((([] : List Qt)) ++ a0)))
def QZ (a0 : (List Qt)) (r : (List Qt)) : Prop := ZV a0 fun x => r = x
theorem Ji (a0 : (List Qt)) (r : (List Qt)) (h : QZ a0 r) : Qz Try.prog 31 [.c (.l 2 (List.map Ze a0))] [.c (.own 2 (List.map Ze r))] [] := by
  refine Qx tb Try.func31 Z (by kernel_rfl) Z Z (Nat.le_of_ble_eq_true Z) Z ?_;intro E;unfold QZ ZV at h;refine ZN (fun Q hQ => ?_);refine tk fun L hL => QD Z Z <| rt (hL _ ?_);refine sk fun L1 hL1 => sk fun L hL => K9 Z Z Z Z Z (fun h0 => hL _ ?_) (hL _ ?_)
  · replace h := h.1 (by simpa using h0);refine KW Z Z <| tk fun L hL => QD Z Z <| rt (hL _ ?_);obtain rfl := h;exact Qm (hQ _ _ ⟨.inr Z, _, _, _, (.cons (.p Z) .nil), (.cons (.c (.nilo _ (Nat.le_of_ble_eq_true Z))) .nil), Z, Z⟩)
  · replace h := h.2;refine KX Z Z <| Qv (hL1 _ ?_);refine tk fun L hL => ul (Ka (f := Ze) Z Z Z Z Z) <| mv Z ?_;obtain ⟨hm2, h⟩ := h;refine ul (Zi (f := Ze) (L := ([] : List Qt)) (L' := a0) hm2 Z Z Z Z Z Z Z Z Z Z Z (KZ KQ Z Z Z Z Z)) <| QD Z Z <| rt (hL _ ?_);obtain rfl := h;exact Qm (hQ _ _ (BP Z Z Z Z))
def KM (a0 : (List Int)) (Q : ((List Int)) → Prop) : Prop :=
 ((a0 = [] → Q (([] : (List Int)))) ∧ (((([] : List Int)).length + a0.length) * 1 ≤ 140737488355328) ∧ Q (((([] : List Int)) ++ a0)))
def QV (a0 : (List Int)) (r : (List Int)) : Prop := KM a0 fun x => r = x
theorem ZX (a0 : (List Int)) (r : (List Int)) (h : QV a0 r) : Qz Try.prog 32 [.c (.l 1 (List.map (eI .u8) a0))] [.c (.own 1 (List.map (eI .u8) r))] [] := by
  refine Qx tb Try.func32 Z (by kernel_rfl) Z Z (Nat.le_of_ble_eq_true Z) Z ?_;intro E;unfold QV KM at h;refine ZN (fun Q hQ => ?_);refine tk fun L hL => QD Z Z <| rt (hL _ ?_);refine sk fun L1 hL1 => sk fun L hL => K9 Z Z Z Z Z (fun h0 => hL _ ?_) (hL _ ?_)
  · replace h := h.1 (by simpa using h0);refine KW Z Z <| tk fun L hL => QD Z Z <| rt (hL _ ?_);obtain rfl := h;exact Qm (hQ _ _ ⟨.inr Z, _, _, _, (.cons (.p Z) .nil), (.cons (.c (.nilo _ (Nat.le_of_ble_eq_true Z))) .nil), Z, Z⟩)
  · replace h := h.2;refine KX Z Z <| Qv (hL1 _ ?_);refine tk fun L hL => ul (Ka (f := (eI .u8)) Z Z Z Z Z) <| mv Z ?_;obtain ⟨hm2, h⟩ := h;refine ul (Zi (f := (eI .u8)) (L := ([] : List Int)) (L' := a0) hm2 Z Z Z Z Z Z Z Z Z Z Z (KZ KQ Z Z Z Z Z)) <| QD Z Z <| rt (hL _ ?_);obtain rfl := h;exact Qm (hQ _ _ (BP Z Z Z Z))
def JM (a0 : Qs) (Q : Qs → Prop) : Prop :=
 ∃ v1, QJ a0.f9 v1 ∧ ∃ v2, QZ a0.fy v2 ∧ ∃ v3, QV a0.fb3 v3 ∧ ∃ v4, QV a0.fb0 v4 ∧ Q ((Qs.mk a0.fo a0.fb2 a0.ff v1 a0.fb v2 v3 a0.fa0 a0.fa4 a0.f7 a0.fb1 a0.f8 a0.fx a0.fq v4))
def ZC (a0 : Qs) (r : Qs) : Prop := JM a0 fun x => r = x
theorem JN (a0 : Qs) (r : Qs) (h : ZC a0 r) : Qz Try.prog 18 [.agg (Zp a0)] [.agg [.p (.v (.int .i64 r.fo)), .p (.v (.string r.fb2)), .p (.v (.string r.ff)), .own 1 (List.map eS r.f9), .p (.v (.int .i64 r.fb.fo)), .p (.v (.int .i64 r.fb.fi)), .p (.v (.int .i64 r.fb.fv)), .p (.v (.int .u64 r.fb.fu)), .own 2 (List.map Ze r.fy), .own 1 (List.map (eI .u8) r.fb3), .p (.v (.int .i64 r.fa0)), .p (.v (.int .i64 r.fa4)), .p (.v (.int .i64 r.f7)), .p (.v (.int .i64 r.fb1)), .p (.v (.int .i64 r.f8)), .p (.v (.int .i64 r.fx)), .p (.v (.int .i64 r.fq.fo)), .p (.v (.string r.fq.fb4)), .p (.v (.int .i64 r.fq.fx)), .p (.v (.int .i64 r.fq.fc3)), .p (.v (.int .i64 r.fq.fb8)), .own 1 (List.map (eI .u8) r.fb0)]] [] := by
  refine Qx tb Try.func18 Z (by kernel_rfl) Z Z (Nat.le_of_ble_eq_true Z) Z ?_;intro E;unfold ZC JM at h;refine ZN (fun Q hQ => ?_);refine tk fun L hL => u1 (QR Z Z) <| u1 (Kc Z Z Z) <| rt (hL _ ?_);refine dk mixed (fun L hL => ?_);refine u0 (Q1 Z Z Z Z Z Z Z Z Z) <| u0 (Q2 Z Z Z Z Z Z) ?_;obtain ⟨v1, hv1, h⟩ := h;refine ul (QK (Zn _ _ hv1) Z Z (.cons (.c (.p _)) .nil) Z Z Z) <| u0 (Q1 Z Z Z Z Z Z Z Z Z) <| u0 (Q2 Z Z Z Z Z Z) ?_;obtain ⟨v2, hv2, h⟩ := h;refine ul (QK (Ji _ _ hv2) Z Z (.cons (.c (.p _)) .nil) Z Z Z) <| u0 (Q1 Z Z Z Z Z Z Z Z Z) <| un (Za Z Z Z Z Z Z Z Z Z Z) <| u0 (Q1 Z Z Z Z Z Z Z Z Z) <| un (Za Z Z Z Z Z Z Z Z Z Z) <| rd (hL _ ?_);refine dk mixed (fun L hL => ?_);refine u0 (Q1 Z Z Z Z Z Z Z Z Z) <| u0 (Q2 Z Z Z Z Z Z) ?_;obtain ⟨v3, hv3, h⟩ := h;refine ul (QK (ZX _ _ hv3) Z Z (.cons (.c (.p _)) .nil) Z Z Z) <| u0 (Q1 Z Z Z Z Z Z Z Z Z) <| u0 (Q2 Z Z Z Z Z Z) ?_;obtain ⟨v4, hv4, h⟩ := h
  refine ul (QK (ZX _ _ hv4) Z Z (.cons (.c (.p _)) .nil) Z Z Z) <| u0 (Q1 Z Z Z Z Z Z Z Z Z) <| un (Za Z Z Z Z Z Z Z Z Z Z) <| u0 (Q1 Z Z Z Z Z Z Z Z Z) <| un (Za Z Z Z Z Z Z Z Z Z Z) <| rd (hL _ ?_);refine tk fun L hL => u0 (Qi Z Z Z Z Z Z Z) <| un (Zq Z Z Z Z Z Z Z Z Z) <| rt (hL _ ?_);obtain rfl := h;exact Qm (hQ _ _ ⟨.inr Z, _, _, _, (.cons (.cella Z Z Z Z Z) .nil), (.cons (.agg (Zz (Zz (Zz (.cons (.own Z Z) (Zz (Zz (Zz (Zz (.cons (.own Z Z) (.cons (.own Z Z) (Zz (Zz (Zz (Zz (Zz (Zz (Zz (Zz (Zz (Zz (Zz (.cons (.own Z Z) .nil))))))))))))))))))))))) .nil), Z, Z⟩)
def Jj (a0 : (List Int)) (Q : ((List Int)) → Prop) : Prop :=
 ((a0 = [] → Q (([] : (List Int)))) ∧ (((([] : List Int)).length + a0.length) * 8 ≤ 140737488355328) ∧ Q (((([] : List Int)) ++ a0)))
def Z3 (a0 : (List Int)) (r : (List Int)) : Prop := Jj a0 fun x => r = x
theorem Kd (a0 : (List Int)) (r : (List Int)) (h : Z3 a0 r) : Qz Try.prog 42 [.c (.l 1 (List.map (eI .i64) a0))] [.c (.own 1 (List.map (eI .i64) r))] [] := by
  refine Qx tb Try.func42 Z (by kernel_rfl) Z Z (Nat.le_of_ble_eq_true Z) Z ?_;intro E;unfold Z3 Jj at h;refine ZN (fun Q hQ => ?_);refine tk fun L hL => QD Z Z <| rt (hL _ ?_);refine sk fun L1 hL1 => sk fun L hL => K9 Z Z Z Z Z (fun h0 => hL _ ?_) (hL _ ?_)
  · replace h := h.1 (by simpa using h0);refine KW Z Z <| tk fun L hL => QD Z Z <| rt (hL _ ?_);obtain rfl := h;exact Qm (hQ _ _ ⟨.inr Z, _, _, _, (.cons (.p Z) .nil), (.cons (.c (.nilo _ (Nat.le_of_ble_eq_true Z))) .nil), Z, Z⟩)
  · replace h := h.2;refine KX Z Z <| Qv (hL1 _ ?_);refine tk fun L hL => ul (Ka (f := (eI .i64)) Z Z Z Z Z) <| mv Z ?_;obtain ⟨hm2, h⟩ := h;refine ul (Zi (f := (eI .i64)) (L := ([] : List Int)) (L' := a0) hm2 Z Z Z Z Z Z Z Z Z Z Z (KZ KQ Z Z Z Z Z)) <| QD Z Z <| rt (hL _ ?_);obtain rfl := h;exact Qm (hQ _ _ (BP Z Z Z Z))
def ZK (a0 : (List Q5)) (Q : ((List Q5)) → Prop) : Prop :=
 ((a0 = [] → Q (([] : (List Q5)))) ∧ (((([] : List Q5)).length + a0.length) * 32 ≤ 140737488355328) ∧ Q (((([] : List Q5)) ++ a0)))
def QL (a0 : (List Q5)) (r : (List Q5)) : Prop := ZK a0 fun x => r = x
theorem ZL (a0 : (List Q5)) (r : (List Q5)) (h : QL a0 r) : Qz Try.prog 48 [.c (.l 3 (List.map Ql a0))] [.c (.own 3 (List.map Ql r))] [] := by
  refine Qx tb Try.func48 Z (by kernel_rfl) Z Z (Nat.le_of_ble_eq_true Z) Z ?_;intro E;unfold QL ZK at h;refine ZN (fun Q hQ => ?_);refine tk fun L hL => QD Z Z <| rt (hL _ ?_);refine sk fun L1 hL1 => sk fun L hL => K9 Z Z Z Z Z (fun h0 => hL _ ?_) (hL _ ?_)
  · replace h := h.1 (by simpa using h0);refine KW Z Z <| tk fun L hL => QD Z Z <| rt (hL _ ?_);obtain rfl := h;exact Qm (hQ _ _ ⟨.inr Z, _, _, _, (.cons (.p Z) .nil), (.cons (.c (.nilo _ (Nat.le_of_ble_eq_true Z))) .nil), Z, Z⟩)
  · replace h := h.2;refine KX Z Z <| Qv (hL1 _ ?_);refine tk fun L hL => ul (Ka (f := Ql) Z Z Z Z Z) <| mv Z ?_;obtain ⟨hm2, h⟩ := h;refine ul (Zi (f := Ql) (L := ([] : List Q5)) (L' := a0) hm2 Z Z Z Z Z Z Z Z Z Z Z (KZ KQ Z Z Z Z Z)) <| QD Z Z <| rt (hL _ ?_);obtain rfl := h;exact Qm (hQ _ _ (BP Z Z Z Z))
def K6 (a0 : (List (List ByteArray))) (Q : ((List (List ByteArray))) → Prop) : Prop :=
 ((a0 = [] → Q (([] : (List (List ByteArray))))) ∧ (((([] : List (List ByteArray))).length + a0.length) * 24 ≤ 140737488355328) ∧ Q (((([] : List (List ByteArray))) ++ a0)))
def Z4 (a0 : (List (List ByteArray))) (r : (List (List ByteArray))) : Prop := K6 a0 fun x => r = x
theorem Ju (a0 : (List (List ByteArray))) (r : (List (List ByteArray))) (h : Z4 a0 r) : Qz Try.prog 49 [.c (.l 1 (List.map (eL 1 eS) a0))] [.c (.own 1 (List.map (eL 1 eS) r))] [] := by
  refine Qx tb Try.func49 Z (by kernel_rfl) Z Z (Nat.le_of_ble_eq_true Z) Z ?_;intro E;unfold Z4 K6 at h;refine ZN (fun Q hQ => ?_);refine tk fun L hL => QD Z Z <| rt (hL _ ?_);refine sk fun L1 hL1 => sk fun L hL => K9 Z Z Z Z Z (fun h0 => hL _ ?_) (hL _ ?_)
  · replace h := h.1 (by simpa using h0);refine KW Z Z <| tk fun L hL => QD Z Z <| rt (hL _ ?_);obtain rfl := h;exact Qm (hQ _ _ ⟨.inr Z, _, _, _, (.cons (.p Z) .nil), (.cons (.c (.nilo _ (Nat.le_of_ble_eq_true Z))) .nil), Z, Z⟩)
  · replace h := h.2;refine KX Z Z <| Qv (hL1 _ ?_);refine tk fun L hL => ul (Ka (f := (eL 1 eS)) Z Z Z Z Z) <| mv Z ?_;obtain ⟨hm2, h⟩ := h;refine ul (Zi (f := (eL 1 eS)) (L := ([] : List (List ByteArray))) (L' := a0) hm2 Z Z Z Z Z Z Z Z Z Z Z (KZ KQ Z Z Z Z Z)) <| QD Z Z <| rt (hL _ ?_);obtain rfl := h;exact Qm (hQ _ _ (BP Z Z Z Z))
def K7 (a0 : Qd) (Q : Qd → Prop) : Prop :=
 ∃ v1, Z3 a0.fg.fc1 v1 ∧ ∃ v2, Z3 a0.fw.fa3 v2 ∧ ∃ v3, QL a0.fa2.f6 v3 ∧ ∃ v4, QL a0.fh.f6 v4 ∧ ∃ v5, Z4 a0.fm.f5 v5 ∧ jn (fun (p6 : (List Int) × (List Int) × (List Q5) × (List Q5) × (List (List ByteArray))) => Q ((Qd.mk a0.fb a0.fp (Qb.mk a0.fg.fv a0.fg.fi a0.fg.fu p6.1 a0.fg.fa) (Qh.mk a0.fw.f4 a0.fw.fu p6.2.1) (Qu.mk a0.fa2.fi a0.fa2.fk p6.2.2.1 a0.fa2.fa) (Qc.mk a0.fh.fi a0.fh.fk a0.fh.fb5 p6.2.2.2.1 a0.fh.fa) (Qk.mk a0.fm.fi a0.fm.fk a0.fm.fa7 p6.2.2.2.2 a0.fm.fa)))) (fun (J6 : (List Int) × (List Int) × (List Q5) × (List Q5) × (List (List ByteArray)) → Prop) => lp (fun (X7 : (List (List ByteArray)) × Int × (List Int) × (List Int) × (List Q5) × (List Q5) → Prop) (s7 : (List (List ByteArray)) × Int × (List Int) × (List Int) × (List Q5) × (List Q5)) => (((decide (s7.2.1 < ((v5.length : Int)))) = true → ∃ v10, ix s7.1 s7.2.1 v10 ∧ ∃ v11, QJ v10 v11 ∧ ∃ v12, ix s7.1 s7.2.1 v12 ∧ X7 ((List.set s7.1 (Int.toNat s7.2.1) v11), (IntKind.i64.wrap (s7.2.1 + 1)), s7.2.2.1, s7.2.2.2.1, s7.2.2.2.2.1, s7.2.2.2.2.2)) ∧ ((decide (s7.2.1 < ((v5.length : Int)))) = false → J6 (s7.2.2.1, s7.2.2.2.1, s7.2.2.2.2.1, s7.2.2.2.2.2, s7.1)))) (v5, 0, v1, v2, v3, v4))
def Z0 (a0 : Qd) (r : Qd) : Prop := K7 a0 fun x => r = x
theorem J0 (a0 : Qd) (r : Qd) (h : Z0 a0 r) : Qz Try.prog 43 [.agg (Vv a0)] [.agg [.p (.v (.int .i64 r.fb.fo)), .p (.v (.int .i64 r.fb.fi)), .p (.v (.int .i64 r.fb.fv)), .p (.v (.int .u64 r.fb.fu)), .p (.v (.int .i64 r.fp.fk)), .p (.v (.int .i64 r.fp.fy)), .p (.v (.bool r.fp.fa)), .p (.v (.int .i64 r.fg.fv)), .p (.v (.int .i64 r.fg.fi)), .p (.v (.int .u64 r.fg.fu)), .own 1 (List.map (eI .i64) r.fg.fc1), .p (.v (.bool r.fg.fa)), .p (.v (.int .i64 r.fw.f4)), .p (.v (.int .u64 r.fw.fu)), .own 1 (List.map (eI .i64) r.fw.fa3), .p (.v (.int .i64 r.fa2.fi)), .p (.v (.int .i64 r.fa2.fk)), .own 3 (List.map Ql r.fa2.f6), .p (.v (.bool r.fa2.fa)), .p (.v (.int .i64 r.fh.fi)), .p (.v (.int .i64 r.fh.fk)), .p (.v (.int .i64 r.fh.fb5)), .own 3 (List.map Ql r.fh.f6), .p (.v (.bool r.fh.fa)), .p (.v (.int .i64 r.fm.fi)), .p (.v (.int .i64 r.fm.fk)), .p (.v (.int .i64 r.fm.fa7)), .own 1 (List.map (eL 1 eS) r.fm.f5), .p (.v (.bool r.fm.fa))]] [] := by
  refine Qx tb Try.func43 Z (by kernel_rfl) Z Z (Nat.le_of_ble_eq_true Z) Z ?_;intro E;unfold Z0 K7 at h;refine ZN (fun Q hQ => ?_);refine tk fun L hL => u1 (QR Z Z) <| u1 (Kc Z Z Z) <| rt (hL _ ?_);refine tk fun L hL => u0 (Q1 Z Z Z Z Z Z Z Z Z) <| u0 (Q1 Z Z Z Z Z Z Z Z Z) <| u0 (Q2 Z Z Z Z Z Z) ?_;obtain ⟨v1, hv1, h⟩ := h;refine ul (QK (Kd _ _ hv1) Z Z (.cons (.c (.p _)) .nil) Z Z Z) <| u0 (Q1 Z Z Z Z Z Z Z Z Z) <| u0 (Q1 Z Z Z Z Z Z Z Z Z) <| un (Za Z Z Z Z Z Z Z Z Z Z) <| rt (hL _ ?_);refine tk fun L hL => u0 (Q1 Z Z Z Z Z Z Z Z Z) <| u0 (Q1 Z Z Z Z Z Z Z Z Z) <| u0 (Q2 Z Z Z Z Z Z) ?_;obtain ⟨v2, hv2, h⟩ := h;refine ul (QK (Kd _ _ hv2) Z Z (.cons (.c (.p _)) .nil) Z Z Z) <| u0 (Q1 Z Z Z Z Z Z Z Z Z) <| u0 (Q1 Z Z Z Z Z Z Z Z Z) <| un (Za Z Z Z Z Z Z Z Z Z Z) <| rt (hL _ ?_);refine tk fun L hL => u0 (Q1 Z Z Z Z Z Z Z Z Z) <| u0 (Q1 Z Z Z Z Z Z Z Z Z) <| u0 (Q2 Z Z Z Z Z Z) ?_;obtain ⟨v3, hv3, h⟩ := h
  refine ul (QK (ZL _ _ hv3) Z Z (.cons (.c (.p _)) .nil) Z Z Z) <| u0 (Q1 Z Z Z Z Z Z Z Z Z) <| u0 (Q1 Z Z Z Z Z Z Z Z Z) <| un (Za Z Z Z Z Z Z Z Z Z Z) <| rt (hL _ ?_);refine tk fun L hL => u0 (Q1 Z Z Z Z Z Z Z Z Z) <| u0 (Q1 Z Z Z Z Z Z Z Z Z) <| u0 (Q2 Z Z Z Z Z Z) ?_;obtain ⟨v4, hv4, h⟩ := h;refine ul (QK (ZL _ _ hv4) Z Z (.cons (.c (.p _)) .nil) Z Z Z) <| u0 (Q1 Z Z Z Z Z Z Z Z Z) <| u0 (Q1 Z Z Z Z Z Z Z Z Z) <| un (Za Z Z Z Z Z Z Z Z Z Z) <| rt (hL _ ?_);refine tk fun L hL => u0 (Q1 Z Z Z Z Z Z Z Z Z) <| u0 (Q1 Z Z Z Z Z Z Z Z Z) <| u0 (Q2 Z Z Z Z Z Z) ?_;obtain ⟨v5, hv5, h⟩ := h;refine ul (QK (Ju _ _ hv5) Z Z (.cons (.c (.p _)) .nil) Z Z Z) <| u0 (Q1 Z Z Z Z Z Z Z Z Z) <| u0 (Q1 Z Z Z Z Z Z Z Z Z) <| un (Za Z Z Z Z Z Z Z Z Z Z) <| rt (hL _ ?_);refine Km (fun (p6 : (List Int) × (List Int) × (List Q5) × (List Q5) × (List (List ByteArray))) => (⟨[(1, .c (.ptr (1, 0) 0 0)), (2, .c (.ptr (2, 0) 0 0))], [((1, 2010), some (.row 1 (List.map (eI .i64) p6.1) true)), ((1, 2014), some (.row 1 (List.map (eI .i64) p6.2.1) true)), ((1, 2017), some (.row 3 (List.map Ql p6.2.2.1) true)), ((1, 2022), some (.row 3 (List.map Ql p6.2.2.2.1) true)), ((1, 2027), some (.row 1 (List.map (eL 1 eS) p6.2.2.2.2) true)), ((1, 0), some (.box ([.p (.v (.int .i64 a0.fb.fo)), .p (.v (.int .i64 a0.fb.fi)), .p (.v (.int .i64 a0.fb.fv)), .p (.v (.int .u64 a0.fb.fu)), .p (.v (.int .i64 a0.fp.fk)), .p (.v (.int .i64 a0.fp.fy)), .p (.v (.bool a0.fp.fa)), .p (.v (.int .i64 a0.fg.fv)), .p (.v (.int .i64 a0.fg.fi)), .p (.v (.int .u64 a0.fg.fu)), .sl (1, 2010) 0 (List.map (eI .i64) p6.1).length, .p (.v (.bool a0.fg.fa)), .p (.v (.int .i64 a0.fw.f4)), .p (.v (.int .u64 a0.fw.fu)), .sl (1, 2014) 0 (List.map (eI .i64) p6.2.1).length, .p (.v (.int .i64 a0.fa2.fi)), .p (.v (.int .i64 a0.fa2.fk)), .sl (1, 2017) 0 (List.map Ql p6.2.2.1).length, .p (.v (.bool a0.fa2.fa)), .p (.v (.int .i64 a0.fh.fi)), .p (.v (.int .i64 a0.fh.fk)), .p (.v (.int .i64 a0.fh.fb5)), .sl (1, 2022) 0 (List.map Ql p6.2.2.2.1).length, .p (.v (.bool a0.fh.fa)), .p (.v (.int .i64 a0.fm.fi)), .p (.v (.int .i64 a0.fm.fk)), .p (.v (.int .i64 a0.fm.fa7)), .sl (1, 2027) 0 (List.map (eL 1 eS) p6.2.2.2.2).length, .p (.v (.bool a0.fm.fa))]))), ((2, 0), some (.box ([.p (.v (.int .i64 0)), .p (.v (.int .i64 0)), .p (.v (.int .i64 0)), .p (.v (.int .u64 0)), .p (.v (.int .i64 0)), .p (.v (.int .i64 0)), .p (.v (.bool false)), .p (.v (.int .i64 0)), .p (.v (.int .i64 0)), .p (.v (.int .u64 0)), .p (.v (.slice none 0 0)), .p (.v (.bool false)), .p (.v (.int .i64 0)), .p (.v (.int .u64 0)), .p (.v (.slice none 0 0)), .p (.v (.int .i64 0)), .p (.v (.int .i64 0)), .p (.v (.slice none 0 0)), .p (.v (.bool false)), .p (.v (.int .i64 0)), .p (.v (.int .i64 0)), .p (.v (.int .i64 0)), .p (.v (.slice none 0 0)), .p (.v (.bool false)), .p (.v (.int .i64 0)), .p (.v (.int .i64 0)), .p (.v (.int .i64 0)), .p (.v (.slice none 0 0)), .p (.v (.bool false))])))]⟩ : St)) h (fun p6 h => ?_) (fun J6 L6 hL6 h => ?_)
  · refine tk fun L hL => u0 (Qi Z Z Z Z Z Z Z) <| un (Zq Z Z Z Z Z Z Z Z Z) <| rt (hL _ ?_);obtain rfl := h;exact Qm (hQ _ _ ⟨.inr Z, _, _, _, (.cons (.cella Z Z Z Z Z) .nil), (.cons (.agg (Zz (Zz (Zz (Zz (Zz (Zz (Zz (Zz (Zz (Zz (.cons (.own Z Z) (Zz (Zz (Zz (.cons (.own Z Z) (Zz (Zz (.cons (.own Z Z) (Zz (Zz (Zz (Zz (.cons (.own Z Z) (Zz (Zz (Zz (Zz (.cons (.own Z Z) (Zz .nil)))))))))))))))))))))))))))))) .nil), Z, Z⟩)
  · refine tk fun L hL => u0 (Q1 Z Z Z Z Z Z Z Z Z) <| u0 (Q1 Z Z Z Z Z Z Z Z Z) <| u0 (Q2 Z Z Z Z Z Z) <| u0 (JB Z Z Z Z Z Z) <| u0 (Qa Z Z) <| rt (hL _ ?_);refine QE ?_;refine KY (fun (s7 : (List (List ByteArray)) × Int × (List Int) × (List Int) × (List Q5) × (List Q5)) => (⟨[(1, .c (.ptr (1, 0) 0 0)), (2, .c (.ptr (2, 0) 0 0)), (37, .c (.sl (37, 1000) 0 (List.map (eL 1 eS) s7.1).length)), (38, .c (.p (.v (.int .i64 ((v5.length : Int)))))), (39, .c (.p (.v (.int .i64 s7.2.1))))], [((37, 1000), some (.row 1 (List.map (eL 1 eS) s7.1) true)), ((1, 2010), some (.row 1 (List.map (eI .i64) s7.2.2.1) true)), ((1, 2014), some (.row 1 (List.map (eI .i64) s7.2.2.2.1) true)), ((1, 2017), some (.row 3 (List.map Ql s7.2.2.2.2.1) true)), ((1, 2022), some (.row 3 (List.map Ql s7.2.2.2.2.2) true)), ((1, 0), some (.box ([.p (.v (.int .i64 a0.fb.fo)), .p (.v (.int .i64 a0.fb.fi)), .p (.v (.int .i64 a0.fb.fv)), .p (.v (.int .u64 a0.fb.fu)), .p (.v (.int .i64 a0.fp.fk)), .p (.v (.int .i64 a0.fp.fy)), .p (.v (.bool a0.fp.fa)), .p (.v (.int .i64 a0.fg.fv)), .p (.v (.int .i64 a0.fg.fi)), .p (.v (.int .u64 a0.fg.fu)), .sl (1, 2010) 0 (List.map (eI .i64) s7.2.2.1).length, .p (.v (.bool a0.fg.fa)), .p (.v (.int .i64 a0.fw.f4)), .p (.v (.int .u64 a0.fw.fu)), .sl (1, 2014) 0 (List.map (eI .i64) s7.2.2.2.1).length, .p (.v (.int .i64 a0.fa2.fi)), .p (.v (.int .i64 a0.fa2.fk)), .sl (1, 2017) 0 (List.map Ql s7.2.2.2.2.1).length, .p (.v (.bool a0.fa2.fa)), .p (.v (.int .i64 a0.fh.fi)), .p (.v (.int .i64 a0.fh.fk)), .p (.v (.int .i64 a0.fh.fb5)), .sl (1, 2022) 0 (List.map Ql s7.2.2.2.2.2).length, .p (.v (.bool a0.fh.fa)), .p (.v (.int .i64 a0.fm.fi)), .p (.v (.int .i64 a0.fm.fk)), .p (.v (.int .i64 a0.fm.fa7)), .sl (37, 1000) 0 (List.map (eL 1 eS) s7.1).length, .p (.v (.bool a0.fm.fa))]))), ((2, 0), some (.box ([.p (.v (.int .i64 0)), .p (.v (.int .i64 0)), .p (.v (.int .i64 0)), .p (.v (.int .u64 0)), .p (.v (.int .i64 0)), .p (.v (.int .i64 0)), .p (.v (.bool false)), .p (.v (.int .i64 0)), .p (.v (.int .i64 0)), .p (.v (.int .u64 0)), .p (.v (.slice none 0 0)), .p (.v (.bool false)), .p (.v (.int .i64 0)), .p (.v (.int .u64 0)), .p (.v (.slice none 0 0)), .p (.v (.int .i64 0)), .p (.v (.int .i64 0)), .p (.v (.slice none 0 0)), .p (.v (.bool false)), .p (.v (.int .i64 0)), .p (.v (.int .i64 0)), .p (.v (.int .i64 0)), .p (.v (.slice none 0 0)), .p (.v (.bool false)), .p (.v (.int .i64 0)), .p (.v (.int .i64 0)), .p (.v (.int .i64 0)), .p (.v (.slice none 0 0)), .p (.v (.bool false))])))]⟩ : St)) h (Z9.nm [1, 2, 37, 38, 39] [((32, 0), (37, 1000)), ((8, 0), (1, 2010)), ((14, 0), (1, 2014)), ((20, 0), (1, 2017)), ((26, 0), (1, 2022)), ((1, 0), (1, 0)), ((2, 0), (2, 0))] Z (by kernel_rfl)) (fun X7 L7 hL7 s7 h => ?_)
    refine tk fun L hL => u0 (Q9 (c := decide (s7.2.1 < ((v5.length : Int)))) Z Z Z Z Z) <| rt (hL _ ?_);refine sk fun L8 hL8 => ?_;refine ZZ Z h (fun h => ?_) fun h => ?_
    · refine Qv (hL8 _ ?_);refine sk fun L9 hL9 => QE <| tk fun L hL => mv Z ?_;obtain ⟨v10, hv10, h⟩ := h;refine u0 (ZS hv10 Z Z Z Z Z Z Z Z Z Z) <| u0 (KR Z Z (gm hv10.2) Z Z Z Z) <| QD Z Z <| QD Z Z <| rt (hL _ ?_);refine dl mixed (fun L hL => ?_);refine u0 (Q1 Z Z Z Z Z Z Z Z Z) <| u0 (Q1 Z Z Z Z Z Z Z Z Z) <| u0 (Q2 Z Z Z Z Z Z) <| mv Z <| mv Z ?_;obtain ⟨v11, hv11, h⟩ := h;refine ul (QK (Zn _ _ hv11) Z Z (.cons (.c (.p _)) .nil) Z Z Z) ?_;obtain ⟨v12, hv12, h⟩ := h;refine u0 (ZS hv12 Z Z Z Z Z Z Z Z Z Z) <| YN Z (Z1 (b := (49, 0)) Z Z (ZO (x1 := v11) hv12.2 Z Z Z Z (.cons (.fr Z (QO Z)) .nil) Z Z Z Z Z Z)) <| rd (hL _ (hL9 _ ?_));refine tl fun L hL => u0 (Zu Z Z Z Z Z) <| mv Z ?_;refine rt (hL _ (hL7 _ _ h ((Z9.slot 37 Z (.n (n' := (List.map (eL 1 eS) (List.set s7.1 (Int.toNat s7.2.1) v11)).length) (by simp))).trans ((Z9.cells (1, 0) Z (.c (.c (.c (.c (.c (.c (.c (.c (.c (.c (.c (.c (.c (.c (.c (.c (.c (.c (.c (.c (.c (.c (.c (.c (.c (.c (.c (.cons (.n (n' := (List.map (eL 1 eS) (List.set s7.1 (Int.toNat s7.2.1) v11)).length) (by simp)) (.c .nil)))))))))))))))))))))))))))))).trans (Z9.nm [1, 2, 37, 38, 39] [((37, 1000), (37, 1000)), ((1, 2010), (1, 2010)), ((1, 2014), (1, 2014)), ((1, 2017), (1, 2017)), ((1, 2022), (1, 2022)), ((1, 0), (1, 0)), ((2, 0), (2, 0))] Z (by kernel_rfl))))))
    · refine Zv (hL6 _ _ h (Z9.nm [1, 2] [((1, 2010), (1, 2010)), ((1, 2014), (1, 2014)), ((1, 2017), (1, 2017)), ((1, 2022), (1, 2022)), ((37, 1000), (1, 2027)), ((1, 0), (1, 0)), ((2, 0), (2, 0))] Z (by kernel_rfl)))
def KN (a0 : Qn) (Q : Qn → Prop) : Prop :=
 ∃ v1, Z3 a0.fa8 v1 ∧ ∃ v2, QV a0.fb0 v2 ∧ ∃ v3, Z0 a0.fc v3 ∧ ∃ v4, Z0 a0.ff v4 ∧ Q ((Qn.mk a0.fc2 a0.fc4 a0.fb6 v1 a0.fa1 (Qd.mk v3.fb v3.fp (Qb.mk v3.fg.fv v3.fg.fi v3.fg.fu v3.fg.fc1 v3.fg.fa) (Qh.mk v3.fw.f4 v3.fw.fu v3.fw.fa3) (Qu.mk v3.fa2.fi v3.fa2.fk v3.fa2.f6 v3.fa2.fa) (Qc.mk v3.fh.fi v3.fh.fk v3.fh.fb5 v3.fh.f6 v3.fh.fa) (Qk.mk v3.fm.fi v3.fm.fk v3.fm.fa7 v3.fm.f5 v3.fm.fa)) (Qd.mk v4.fb v4.fp (Qb.mk v4.fg.fv v4.fg.fi v4.fg.fu v4.fg.fc1 v4.fg.fa) (Qh.mk v4.fw.f4 v4.fw.fu v4.fw.fa3) (Qu.mk v4.fa2.fi v4.fa2.fk v4.fa2.f6 v4.fa2.fa) (Qc.mk v4.fh.fi v4.fh.fk v4.fh.fb5 v4.fh.f6 v4.fh.fa) (Qk.mk v4.fm.fi v4.fm.fk v4.fm.fa7 v4.fm.f5 v4.fm.fa)) a0.fc5 a0.fc6 a0.f7 a0.f8 a0.fAt v2 a0.fc0))
def Zo (a0 : Qn) (r : Qn) : Prop := KN a0 fun x => r = x
theorem Vh (a0 : Qn) (r : Qn) (h : Zo a0 r) : Qz Try.prog 27 [.agg (ZW a0)] [.agg [.p (.v (.int .i64 r.fc2)), .p (.v (.int .i64 r.fc4)), .p (.v (.bool r.fb6)), .own 1 (List.map (eI .i64) r.fa8), .p (.v (.int .i64 r.fa1)), .p (.v (.int .i64 r.fc.fb.fo)), .p (.v (.int .i64 r.fc.fb.fi)), .p (.v (.int .i64 r.fc.fb.fv)), .p (.v (.int .u64 r.fc.fb.fu)), .p (.v (.int .i64 r.fc.fp.fk)), .p (.v (.int .i64 r.fc.fp.fy)), .p (.v (.bool r.fc.fp.fa)), .p (.v (.int .i64 r.fc.fg.fv)), .p (.v (.int .i64 r.fc.fg.fi)), .p (.v (.int .u64 r.fc.fg.fu)), .own 1 (List.map (eI .i64) r.fc.fg.fc1), .p (.v (.bool r.fc.fg.fa)), .p (.v (.int .i64 r.fc.fw.f4)), .p (.v (.int .u64 r.fc.fw.fu)), .own 1 (List.map (eI .i64) r.fc.fw.fa3), .p (.v (.int .i64 r.fc.fa2.fi)), .p (.v (.int .i64 r.fc.fa2.fk)), .own 3 (List.map Ql r.fc.fa2.f6), .p (.v (.bool r.fc.fa2.fa)), .p (.v (.int .i64 r.fc.fh.fi)), .p (.v (.int .i64 r.fc.fh.fk)), .p (.v (.int .i64 r.fc.fh.fb5)), .own 3 (List.map Ql r.fc.fh.f6), .p (.v (.bool r.fc.fh.fa)), .p (.v (.int .i64 r.fc.fm.fi)), .p (.v (.int .i64 r.fc.fm.fk)), .p (.v (.int .i64 r.fc.fm.fa7)), .own 1 (List.map (eL 1 eS) r.fc.fm.f5), .p (.v (.bool r.fc.fm.fa)), .p (.v (.int .i64 r.ff.fb.fo)), .p (.v (.int .i64 r.ff.fb.fi)), .p (.v (.int .i64 r.ff.fb.fv)), .p (.v (.int .u64 r.ff.fb.fu)), .p (.v (.int .i64 r.ff.fp.fk)), .p (.v (.int .i64 r.ff.fp.fy)), .p (.v (.bool r.ff.fp.fa)), .p (.v (.int .i64 r.ff.fg.fv)), .p (.v (.int .i64 r.ff.fg.fi)), .p (.v (.int .u64 r.ff.fg.fu)), .own 1 (List.map (eI .i64) r.ff.fg.fc1), .p (.v (.bool r.ff.fg.fa)), .p (.v (.int .i64 r.ff.fw.f4)), .p (.v (.int .u64 r.ff.fw.fu)), .own 1 (List.map (eI .i64) r.ff.fw.fa3), .p (.v (.int .i64 r.ff.fa2.fi)), .p (.v (.int .i64 r.ff.fa2.fk)), .own 3 (List.map Ql r.ff.fa2.f6), .p (.v (.bool r.ff.fa2.fa)), .p (.v (.int .i64 r.ff.fh.fi)), .p (.v (.int .i64 r.ff.fh.fk)), .p (.v (.int .i64 r.ff.fh.fb5)), .own 3 (List.map Ql r.ff.fh.f6), .p (.v (.bool r.ff.fh.fa)), .p (.v (.int .i64 r.ff.fm.fi)), .p (.v (.int .i64 r.ff.fm.fk)), .p (.v (.int .i64 r.ff.fm.fa7)), .own 1 (List.map (eL 1 eS) r.ff.fm.f5), .p (.v (.bool r.ff.fm.fa)), .p (.v (.int .i64 r.fc5)), .p (.v (.int .i64 r.fc6)), .p (.v (.int .i64 r.f7)), .p (.v (.int .i64 r.f8)), .p (.v (.int .i64 r.fAt.fa1)), .p (.v (.int .i64 r.fAt.fc7)), .own 1 (List.map (eI .u8) r.fb0), .p (.v (.bool r.fc0))]] [] := by
  refine Qx tb Try.func27 Z (by kernel_rfl) Z Z (Nat.le_of_ble_eq_true Z) Z ?_;intro E;unfold Zo KN at h;refine ZN (fun Q hQ => ?_);refine tk fun L hL => u1 (QR Z Z) <| u1 (Kc Z Z Z) <| rt (hL _ ?_);refine dk mixed (fun L hL => ?_);refine u0 (Q1 Z Z Z Z Z Z Z Z Z) <| u0 (Q2 Z Z Z Z Z Z) ?_;obtain ⟨v1, hv1, h⟩ := h;refine ul (QK (Kd _ _ hv1) Z Z (.cons (.c (.p _)) .nil) Z Z Z) <| u0 (Q1 Z Z Z Z Z Z Z Z Z) <| u0 (Q2 Z Z Z Z Z Z) ?_;obtain ⟨v2, hv2, h⟩ := h;refine ul (QK (ZX _ _ hv2) Z Z (.cons (.c (.p _)) .nil) Z Z Z) <| u0 (Q1 Z Z Z Z Z Z Z Z Z) <| un (Za Z Z Z Z Z Z Z Z Z Z) <| u0 (Q1 Z Z Z Z Z Z Z Z Z) <| un (Za Z Z Z Z Z Z Z Z Z Z) <| rd (hL _ ?_);refine dk mixed (fun L hL => ?_);refine u0 (Q1 Z Z Z Z Z Z Z Z Z) <| u0 (Qi Z Z Z Z Z Z Z) ?_;obtain ⟨v3, hv3, h⟩ := h;refine ul (QK (J0 _ _ hv3) Z Z (.cons (.agg (.pp (.pp (.pp (.pp (.pp (.pp (.pp (.pp (.pp (.pp (.pp (.pp (.pp (.pp (.pp (.pp (.pp (.pp (.pp (.pp (.pp (.pp (.pp (.pp (.pp (.pp (.pp (.pp (.pp .nil)))))))))))))))))))))))))))))) .nil) Z Z Z) <| u0 (Q1 Z Z Z Z Z Z Z Z Z) <| u0 (Qi Z Z Z Z Z Z Z) ?_
  obtain ⟨v4, hv4, h⟩ := h;refine ul (QK (J0 _ _ hv4) Z Z (.cons (.agg (.pp (.pp (.pp (.pp (.pp (.pp (.pp (.pp (.pp (.pp (.pp (.pp (.pp (.pp (.pp (.pp (.pp (.pp (.pp (.pp (.pp (.pp (.pp (.pp (.pp (.pp (.pp (.pp (.pp .nil)))))))))))))))))))))))))))))) .nil) Z Z Z) <| u0 (Q1 Z Z Z Z Z Z Z Z Z) <| un (Zq Z Z Z Z Z Z Z Z Z) <| u0 (Q1 Z Z Z Z Z Z Z Z Z) <| un (Zq Z Z Z Z Z Z Z Z Z) <| rd (hL _ ?_);refine tk fun L hL => u0 (Qi Z Z Z Z Z Z Z) <| un (Zq Z Z Z Z Z Z Z Z Z) <| rt (hL _ ?_);obtain rfl := h;exact Qm (hQ _ _ ⟨.inr Z, _, _, _, (.cons (.cella Z Z Z Z Z) .nil), (.cons (.agg (Zz (Zz (Zz (.cons (.own Z Z) (Zz (Zz (Zz (Zz (Zz (Zz (Zz (Zz (Zz (Zz (Zz (.cons (.own Z Z) (Zz (Zz (Zz (.cons (.own Z Z) (Zz (Zz (.cons (.own Z Z) (Zz (Zz (Zz (Zz (.cons (.own Z Z) (Zz (Zz (Zz (Zz (.cons (.own Z Z) (Zz (Zz (Zz (Zz (Zz (Zz (Zz (Zz (Zz (Zz (Zz (.cons (.own Z Z) (Zz (Zz (Zz (.cons (.own Z Z) (Zz (Zz (.cons (.own Z Z) (Zz (Zz (Zz (Zz (.cons (.own Z Z) (Zz (Zz (Zz (Zz (.cons (.own Z Z) (Zz (Zz (Zz (Zz (Zz (Zz (Zz (.cons (.own Z Z) (Zz .nil)))))))))))))))))))))))))))))))))))))))))))))))))))))))))))))))))))))))) .nil), Z, Z⟩)
def Zl (a0 : (List Qf)) (Q : ((List Qf)) → Prop) : Prop :=
 ((a0 = [] → Q (([] : (List Qf)))) ∧ (((([] : List Qf)).length + a0.length) * 40 ≤ 140737488355328) ∧ Q (((([] : List Qf)) ++ a0)))
def QM (a0 : (List Qf)) (r : (List Qf)) : Prop := Zl a0 fun x => r = x
theorem Kl (a0 : (List Qf)) (r : (List Qf)) (h : QM a0 r) : Qz Try.prog 28 [.c (.l 3 (List.map QC a0))] [.c (.own 3 (List.map QC r))] [] := by
  refine Qx tb Try.func28 Z (by kernel_rfl) Z Z (Nat.le_of_ble_eq_true Z) Z ?_;intro E;unfold QM Zl at h;refine ZN (fun Q hQ => ?_);refine tk fun L hL => QD Z Z <| rt (hL _ ?_);refine sk fun L1 hL1 => sk fun L hL => K9 Z Z Z Z Z (fun h0 => hL _ ?_) (hL _ ?_)
  · replace h := h.1 (by simpa using h0);refine KW Z Z <| tk fun L hL => QD Z Z <| rt (hL _ ?_);obtain rfl := h;exact Qm (hQ _ _ ⟨.inr Z, _, _, _, (.cons (.p Z) .nil), (.cons (.c (.nilo _ (Nat.le_of_ble_eq_true Z))) .nil), Z, Z⟩)
  · replace h := h.2;refine KX Z Z <| Qv (hL1 _ ?_);refine tk fun L hL => ul (Ka (f := QC) Z Z Z Z Z) <| mv Z ?_;obtain ⟨hm2, h⟩ := h;refine ul (Zi (f := QC) (L := ([] : List Qf)) (L' := a0) hm2 Z Z Z Z Z Z Z Z Z Z Z (KZ KQ Z Z Z Z Z)) <| QD Z Z <| rt (hL _ ?_);obtain rfl := h;exact Qm (hQ _ _ (BP Z Z Z Z))
def ZD (a0 : (List Qr)) (Q : ((List Qr)) → Prop) : Prop :=
 ((a0 = [] → Q (([] : (List Qr)))) ∧ (((([] : List Qr)).length + a0.length) * 40 ≤ 140737488355328) ∧ Q (((([] : List Qr)) ++ a0)))
def QT (a0 : (List Qr)) (r : (List Qr)) : Prop := ZD a0 fun x => r = x
theorem KF (a0 : (List Qr)) (r : (List Qr)) (h : QT a0 r) : Qz Try.prog 29 [.c (.l 4 (List.map QU a0))] [.c (.own 4 (List.map QU r))] [] := by
  refine Qx tb Try.func29 Z (by kernel_rfl) Z Z (Nat.le_of_ble_eq_true Z) Z ?_;intro E;unfold QT ZD at h;refine ZN (fun Q hQ => ?_);refine tk fun L hL => QD Z Z <| rt (hL _ ?_);refine sk fun L1 hL1 => sk fun L hL => K9 Z Z Z Z Z (fun h0 => hL _ ?_) (hL _ ?_)
  · replace h := h.1 (by simpa using h0);refine KW Z Z <| tk fun L hL => QD Z Z <| rt (hL _ ?_);obtain rfl := h;exact Qm (hQ _ _ ⟨.inr Z, _, _, _, (.cons (.p Z) .nil), (.cons (.c (.nilo _ (Nat.le_of_ble_eq_true Z))) .nil), Z, Z⟩)
  · replace h := h.2;refine KX Z Z <| Qv (hL1 _ ?_);refine tk fun L hL => ul (Ka (f := QU) Z Z Z Z Z) <| mv Z ?_;obtain ⟨hm2, h⟩ := h;refine ul (Zi (f := QU) (L := ([] : List Qr)) (L' := a0) hm2 Z Z Z Z Z Z Z Z Z Z Z (KZ KQ Z Z Z Z Z)) <| QD Z Z <| rt (hL _ ?_);obtain rfl := h;exact Qm (hQ _ _ (BP Z Z Z Z))
def Jk (a0 : (List Q4)) (Q : ((List Q4)) → Prop) : Prop :=
 jn (fun (p1 : (List Q4)) => Q p1) (fun (J1 : (List Q4) → Prop) => lp (fun (X2 : (List Q4) × Int → Prop) (s2 : (List Q4) × Int) => (((decide (s2.2 < ((a0.length : Int)))) = true → jn (fun (p4 : (List Q4)) => X2 (p4, (IntKind.i64.wrap (s2.2 + 1)))) (fun (J4 : (List Q4) → Prop) => ∃ v5, ix a0 s2.2 v5 ∧ ∃ v6, ZC v5.fOp v6 ∧ ∃ v7, Zo v5.fj v7 ∧ ∃ v8, QM v5.f3 v8 ∧ ∃ v9, QT v5.fa9 v9 ∧ jn (fun (p10 : (List Q4) × (List ByteArray) × (List Qt) × (List Int) × (List Int) × (List Int) × (List Int) × (List Int) × (List Q5) × (List Q5) × (List (List ByteArray)) × (List Int) × (List Int) × (List Q5) × (List Q5) × (List (List ByteArray)) × (List Int) × (List Qf) × (List Qr)) => ((p10.1.length + ([(Q4.mk v5.fa5 (Qs.mk v6.fo v6.fb2 v6.ff p10.2.1 v6.fb p10.2.2.1 p10.2.2.2.1 v6.fa0 v6.fa4 v6.f7 v6.fb1 v6.f8 v6.fx v6.fq p10.2.2.2.2.1) (Qn.mk v7.fc2 v7.fc4 v7.fb6 p10.2.2.2.2.2.1 v7.fa1 (Qd.mk v7.fc.fb v7.fc.fp (Qb.mk v7.fc.fg.fv v7.fc.fg.fi v7.fc.fg.fu p10.2.2.2.2.2.2.1 v7.fc.fg.fa) (Qh.mk v7.fc.fw.f4 v7.fc.fw.fu p10.2.2.2.2.2.2.2.1) (Qu.mk v7.fc.fa2.fi v7.fc.fa2.fk p10.2.2.2.2.2.2.2.2.1 v7.fc.fa2.fa) (Qc.mk v7.fc.fh.fi v7.fc.fh.fk v7.fc.fh.fb5 p10.2.2.2.2.2.2.2.2.2.1 v7.fc.fh.fa) (Qk.mk v7.fc.fm.fi v7.fc.fm.fk v7.fc.fm.fa7 p10.2.2.2.2.2.2.2.2.2.2.1 v7.fc.fm.fa)) (Qd.mk v7.ff.fb v7.ff.fp (Qb.mk v7.ff.fg.fv v7.ff.fg.fi v7.ff.fg.fu p10.2.2.2.2.2.2.2.2.2.2.2.1 v7.ff.fg.fa) (Qh.mk v7.ff.fw.f4 v7.ff.fw.fu p10.2.2.2.2.2.2.2.2.2.2.2.2.1) (Qu.mk v7.ff.fa2.fi v7.ff.fa2.fk p10.2.2.2.2.2.2.2.2.2.2.2.2.2.1 v7.ff.fa2.fa) (Qc.mk v7.ff.fh.fi v7.ff.fh.fk v7.ff.fh.fb5 p10.2.2.2.2.2.2.2.2.2.2.2.2.2.2.1 v7.ff.fh.fa) (Qk.mk v7.ff.fm.fi v7.ff.fm.fk v7.ff.fm.fa7 p10.2.2.2.2.2.2.2.2.2.2.2.2.2.2.2.1 v7.ff.fm.fa)) v7.fc5 v7.fc6 v7.f7 v7.f8 v7.fAt p10.2.2.2.2.2.2.2.2.2.2.2.2.2.2.2.2.1 v7.fc0) v5.f0 p10.2.2.2.2.2.2.2.2.2.2.2.2.2.2.2.2.2.1 p10.2.2.2.2.2.2.2.2.2.2.2.2.2.2.2.2.2.2)]).length) * 1088 ≤ 140737488355328) ∧ J4 ((p10.1 ++ ([(Q4.mk v5.fa5 (Qs.mk v6.fo v6.fb2 v6.ff p10.2.1 v6.fb p10.2.2.1 p10.2.2.2.1 v6.fa0 v6.fa4 v6.f7 v6.fb1 v6.f8 v6.fx v6.fq p10.2.2.2.2.1) (Qn.mk v7.fc2 v7.fc4 v7.fb6 p10.2.2.2.2.2.1 v7.fa1 (Qd.mk v7.fc.fb v7.fc.fp (Qb.mk v7.fc.fg.fv v7.fc.fg.fi v7.fc.fg.fu p10.2.2.2.2.2.2.1 v7.fc.fg.fa) (Qh.mk v7.fc.fw.f4 v7.fc.fw.fu p10.2.2.2.2.2.2.2.1) (Qu.mk v7.fc.fa2.fi v7.fc.fa2.fk p10.2.2.2.2.2.2.2.2.1 v7.fc.fa2.fa) (Qc.mk v7.fc.fh.fi v7.fc.fh.fk v7.fc.fh.fb5 p10.2.2.2.2.2.2.2.2.2.1 v7.fc.fh.fa) (Qk.mk v7.fc.fm.fi v7.fc.fm.fk v7.fc.fm.fa7 p10.2.2.2.2.2.2.2.2.2.2.1 v7.fc.fm.fa)) (Qd.mk v7.ff.fb v7.ff.fp (Qb.mk v7.ff.fg.fv v7.ff.fg.fi v7.ff.fg.fu p10.2.2.2.2.2.2.2.2.2.2.2.1 v7.ff.fg.fa) (Qh.mk v7.ff.fw.f4 v7.ff.fw.fu p10.2.2.2.2.2.2.2.2.2.2.2.2.1) (Qu.mk v7.ff.fa2.fi v7.ff.fa2.fk p10.2.2.2.2.2.2.2.2.2.2.2.2.2.1 v7.ff.fa2.fa) (Qc.mk v7.ff.fh.fi v7.ff.fh.fk v7.ff.fh.fb5 p10.2.2.2.2.2.2.2.2.2.2.2.2.2.2.1 v7.ff.fh.fa) (Qk.mk v7.ff.fm.fi v7.ff.fm.fk v7.ff.fm.fa7 p10.2.2.2.2.2.2.2.2.2.2.2.2.2.2.2.1 v7.ff.fm.fa)) v7.fc5 v7.fc6 v7.f7 v7.f8 v7.fAt p10.2.2.2.2.2.2.2.2.2.2.2.2.2.2.2.2.1 v7.fc0) v5.f0 p10.2.2.2.2.2.2.2.2.2.2.2.2.2.2.2.2.2.1 p10.2.2.2.2.2.2.2.2.2.2.2.2.2.2.2.2.2.2)])))) (fun (J10 : (List Q4) × (List ByteArray) × (List Qt) × (List Int) × (List Int) × (List Int) × (List Int) × (List Int) × (List Q5) × (List Q5) × (List (List ByteArray)) × (List Int) × (List Int) × (List Q5) × (List Q5) × (List (List ByteArray)) × (List Int) × (List Qf) × (List Qr) → Prop) => lp (fun (X11 : (List Q4) × (List Qf) × Int × (List ByteArray) × (List Qt) × (List Int) × (List Int) × (List Int) × (List Int) × (List Int) × (List Q5) × (List Q5) × (List (List ByteArray)) × (List Int) × (List Int) × (List Q5) × (List Q5) × (List (List ByteArray)) × (List Int) × (List Qr) → Prop) (s11 : (List Q4) × (List Qf) × Int × (List ByteArray) × (List Qt) × (List Int) × (List Int) × (List Int) × (List Int) × (List Int) × (List Q5) × (List Q5) × (List (List ByteArray)) × (List Int) × (List Int) × (List Q5) × (List Q5) × (List (List ByteArray)) × (List Int) × (List Qr)) => (((decide (s11.2.2.1 < ((v8.length : Int)))) = true → ∃ v14, ix s11.2.1 s11.2.2.1 v14 ∧ ∃ v15, QJ v14.f9 v15 ∧ ∃ v16, ix s11.2.1 s11.2.2.1 v16 ∧ X11 (s11.1, (List.set s11.2.1 (Int.toNat s11.2.2.1) ((Qf.mk v16.fb9 v16.fa6 v15))), (IntKind.i64.wrap (s11.2.2.1 + 1)), s11.2.2.2.1, s11.2.2.2.2.1, s11.2.2.2.2.2.1, s11.2.2.2.2.2.2.1, s11.2.2.2.2.2.2.2.1, s11.2.2.2.2.2.2.2.2.1, s11.2.2.2.2.2.2.2.2.2.1, s11.2.2.2.2.2.2.2.2.2.2.1, s11.2.2.2.2.2.2.2.2.2.2.2.1, s11.2.2.2.2.2.2.2.2.2.2.2.2.1, s11.2.2.2.2.2.2.2.2.2.2.2.2.2.1, s11.2.2.2.2.2.2.2.2.2.2.2.2.2.2.1, s11.2.2.2.2.2.2.2.2.2.2.2.2.2.2.2.1, s11.2.2.2.2.2.2.2.2.2.2.2.2.2.2.2.2.1, s11.2.2.2.2.2.2.2.2.2.2.2.2.2.2.2.2.2.1, s11.2.2.2.2.2.2.2.2.2.2.2.2.2.2.2.2.2.2.1, s11.2.2.2.2.2.2.2.2.2.2.2.2.2.2.2.2.2.2.2)) ∧ ((decide (s11.2.2.1 < ((v8.length : Int)))) = false → J10 (s11.1, s11.2.2.2.1, s11.2.2.2.2.1, s11.2.2.2.2.2.1, s11.2.2.2.2.2.2.1, s11.2.2.2.2.2.2.2.1, s11.2.2.2.2.2.2.2.2.1, s11.2.2.2.2.2.2.2.2.2.1, s11.2.2.2.2.2.2.2.2.2.2.1, s11.2.2.2.2.2.2.2.2.2.2.2.1, s11.2.2.2.2.2.2.2.2.2.2.2.2.1, s11.2.2.2.2.2.2.2.2.2.2.2.2.2.1, s11.2.2.2.2.2.2.2.2.2.2.2.2.2.2.1, s11.2.2.2.2.2.2.2.2.2.2.2.2.2.2.2.1, s11.2.2.2.2.2.2.2.2.2.2.2.2.2.2.2.2.1, s11.2.2.2.2.2.2.2.2.2.2.2.2.2.2.2.2.2.1, s11.2.2.2.2.2.2.2.2.2.2.2.2.2.2.2.2.2.2.1, s11.2.1, s11.2.2.2.2.2.2.2.2.2.2.2.2.2.2.2.2.2.2.2)))) (s2.1, v8, 0, v6.f9, v6.fy, v6.fb3, v6.fb0, v7.fa8, v7.fc.fg.fc1, v7.fc.fw.fa3, v7.fc.fa2.f6, v7.fc.fh.f6, v7.fc.fm.f5, v7.ff.fg.fc1, v7.ff.fw.fa3, v7.ff.fa2.f6, v7.ff.fh.f6, v7.ff.fm.f5, v7.fb0, v9)))) ∧ ((decide (s2.2 < ((a0.length : Int)))) = false → J1 s2.1))) (([] : (List Q4)), 0))
def Zx (a0 : (List Q4)) (r : (List Q4)) : Prop := Jk a0 fun x => r = x
theorem Va (a0 : (List Q4)) (r : (List Q4)) (h : Zx a0 r) : Qz Try.prog 17 [.c (.l 97 (List.map Qj a0))] [.c (.own 97 (List.map Qj r))] [] := by
  refine Qx tb Try.func17 Z (by kernel_rfl) Z Z (Nat.le_of_ble_eq_true Z) Z ?_;intro E;unfold Zx Jk at h;refine ZN (fun Q hQ => ?_);refine tk fun L hL => QD Z Z <| rt (hL _ ?_);refine tk fun L hL => QD Z Z <| rt (hL _ ?_);refine Km (fun (p1 : (List Q4)) => (⟨[(3, .c (.sl (3, 1000) 0 (List.map Qj p1).length))], [((3, 1000), some (.row 97 (List.map Qj p1) true))]⟩ : St)) h (fun p1 h => ?_) (fun J1 L1 hL1 h => ?_)
  · refine tk fun L hL => mv Z <| QD Z Z <| rt (hL _ ?_);obtain rfl := h;exact Qm (hQ _ _ (BP Z Z Z Z))
  · refine tk fun L hL => mv Z <| u0 (Qw Z Z Z Z) <| u0 (Qa Z Z) <| rt (hL _ ?_);refine QE ?_;refine KY (fun (s2 : (List Q4) × Int) => (⟨[(3, .c (.sl (3, 1000) 0 (List.map Qj s2.1).length)), (8, .c (.p (.l 97 (List.map Qj a0)))), (9, .c (.p (.v (.int .i64 ((a0.length : Int)))))), (10, .c (.p (.v (.int .i64 s2.2))))], [((3, 1000), some (.row 97 (List.map Qj s2.1) true))]⟩ : St)) h ((Z9.blk (3, 1050) 97 Z Z Z).trans ((Z9.slot 3 Z (.nilo (b := (3, 1050)) Z)).trans (Z9.nm [3, 8, 9, 10] [((3, 1050), (3, 1000))] Z (by kernel_rfl)))) (fun X2 L2 hL2 s2 h => ?_);refine tk fun L hL => u0 (Q9 (c := decide (s2.2 < ((a0.length : Int)))) Z Z Z Z Z) <| rt (hL _ ?_);refine sk fun L3 hL3 => ?_;refine ZZ Z h (fun h => ?_) fun h => ?_
    · refine Qv (hL3 _ ?_);refine Km (fun (p4 : (List Q4)) => (⟨[(3, .c (.sl (3, 1000) 0 (List.map Qj p4).length)), (8, .c (.p (.l 97 (List.map Qj a0)))), (9, .c (.p (.v (.int .i64 ((a0.length : Int)))))), (10, .c (.p (.v (.int .i64 s2.2))))], [((3, 1000), some (.row 97 (List.map Qj p4) true))]⟩ : St)) h (fun p4 h => ?_) (fun J4 L4 hL4 h => ?_)
      · refine tl fun L hL => u0 (Zu Z Z Z Z Z) <| mv Z ?_;refine rt (hL _ (hL2 _ _ h (Z9.nm [3, 8, 9, 10] [((3, 1000), (3, 1000))] Z (by kernel_rfl))))
      · refine QE <| tk fun L hL => ?_;obtain ⟨v5, hv5, h⟩ := h;refine u0 (Qq hv5 Z Z Z Z Z Z Z Z) <| u0 (QQ Z Z Z Z Z Z Z) <| u1 (Kc Z Z Z) <| un (Zq Z Z Z Z Z Z Z Z Z) <| rt (hL _ ?_);refine dk mixed (fun L hL => ?_);refine u0 (Q1 Z Z Z Z Z Z Z Z Z) <| u0 (Qi Z Z Z Z Z Z Z) ?_;obtain ⟨v6, hv6, h⟩ := h;refine ul (QK (JN _ _ hv6) Z Z (.cons (.agg (.pp (.pp (.pp (.pp (.pp (.pp (.pp (.pp (.pp (.pp (.pp (.pp (.pp (.pp (.pp (.pp (.pp (.pp (.pp (.pp (.pp (.pp .nil))))))))))))))))))))))) .nil) Z Z Z) <| u0 (Q1 Z Z Z Z Z Z Z Z Z) <| u0 (Qi Z Z Z Z Z Z Z) ?_;obtain ⟨v7, hv7, h⟩ := h;refine ul (QK (Vh _ _ hv7) Z Z (.cons (.agg (.pp (.pp (.pp (.pp (.pp (.pp (.pp (.pp (.pp (.pp (.pp (.pp (.pp (.pp (.pp (.pp (.pp (.pp (.pp (.pp (.pp (.pp (.pp (.pp (.pp (.pp (.pp (.pp (.pp (.pp (.pp (.pp (.pp (.pp (.pp (.pp (.pp (.pp (.pp (.pp (.pp (.pp (.pp (.pp (.pp (.pp (.pp (.pp (.pp (.pp (.pp (.pp (.pp (.pp (.pp (.pp (.pp (.pp (.pp (.pp (.pp (.pp (.pp (.pp (.pp (.pp (.pp (.pp (.pp (.pp (.pp .nil)))))))))))))))))))))))))))))))))))))))))))))))))))))))))))))))))))))))) .nil) Z Z Z) <| u0 (Q1 Z Z Z Z Z Z Z Z Z) <| un (Zq Z Z Z Z Z Z Z Z Z) <| u0 (Q1 Z Z Z Z Z Z Z Z Z) <| un (Zq Z Z Z Z Z Z Z Z Z) <| rd (hL _ ?_)
        refine dk mixed (fun L hL => ?_);refine u0 (Q1 Z Z Z Z Z Z Z Z Z) <| u0 (Q2 Z Z Z Z Z Z) ?_;obtain ⟨v8, hv8, h⟩ := h;refine ul (QK (Kl _ _ hv8) Z Z (.cons (.c (.p _)) .nil) Z Z Z) <| u0 (Q1 Z Z Z Z Z Z Z Z Z) <| u0 (Q2 Z Z Z Z Z Z) ?_;obtain ⟨v9, hv9, h⟩ := h;refine ul (QK (KF _ _ hv9) Z Z (.cons (.c (.p _)) .nil) Z Z Z) <| u0 (Q1 Z Z Z Z Z Z Z Z Z) <| un (Za Z Z Z Z Z Z Z Z Z Z) <| u0 (Q1 Z Z Z Z Z Z Z Z Z) <| un (Za Z Z Z Z Z Z Z Z Z Z) <| rd (hL _ ?_);refine Km (fun (p10 : (List Q4) × (List ByteArray) × (List Qt) × (List Int) × (List Int) × (List Int) × (List Int) × (List Int) × (List Q5) × (List Q5) × (List (List ByteArray)) × (List Int) × (List Int) × (List Q5) × (List Q5) × (List (List ByteArray)) × (List Int) × (List Qf) × (List Qr)) => (⟨[(3, .c (.sl (3, 1000) 0 (List.map Qj p10.1).length)), (5, .c (.ptr (5, 0) 0 0)), (8, .c (.p (.l 97 (List.map Qj a0)))), (9, .c (.p (.v (.int .i64 ((a0.length : Int)))))), (10, .c (.p (.v (.int .i64 s2.2))))], [((3, 1000), some (.row 97 (List.map Qj p10.1) true)), ((5, 2004), some (.row 1 (List.map eS p10.2.1) true)), ((5, 2009), some (.row 2 (List.map Ze p10.2.2.1) true)), ((5, 2010), some (.row 1 (List.map (eI .u8) p10.2.2.2.1) true)), ((5, 2022), some (.row 1 (List.map (eI .u8) p10.2.2.2.2.1) true)), ((5, 2026), some (.row 1 (List.map (eI .i64) p10.2.2.2.2.2.1) true)), ((5, 2038), some (.row 1 (List.map (eI .i64) p10.2.2.2.2.2.2.1) true)), ((5, 2042), some (.row 1 (List.map (eI .i64) p10.2.2.2.2.2.2.2.1) true)), ((5, 2045), some (.row 3 (List.map Ql p10.2.2.2.2.2.2.2.2.1) true)), ((5, 2050), some (.row 3 (List.map Ql p10.2.2.2.2.2.2.2.2.2.1) true)), ((5, 2055), some (.row 1 (List.map (eL 1 eS) p10.2.2.2.2.2.2.2.2.2.2.1) true)), ((5, 2067), some (.row 1 (List.map (eI .i64) p10.2.2.2.2.2.2.2.2.2.2.2.1) true)), ((5, 2071), some (.row 1 (List.map (eI .i64) p10.2.2.2.2.2.2.2.2.2.2.2.2.1) true)), ((5, 2074), some (.row 3 (List.map Ql p10.2.2.2.2.2.2.2.2.2.2.2.2.2.1) true)), ((5, 2079), some (.row 3 (List.map Ql p10.2.2.2.2.2.2.2.2.2.2.2.2.2.2.1) true)), ((5, 2084), some (.row 1 (List.map (eL 1 eS) p10.2.2.2.2.2.2.2.2.2.2.2.2.2.2.2.1) true)), ((5, 2092), some (.row 1 (List.map (eI .u8) p10.2.2.2.2.2.2.2.2.2.2.2.2.2.2.2.2.1) true)), ((5, 2095), some (.row 3 (List.map QC p10.2.2.2.2.2.2.2.2.2.2.2.2.2.2.2.2.2.1) true)), ((5, 2096), some (.row 4 (List.map QU p10.2.2.2.2.2.2.2.2.2.2.2.2.2.2.2.2.2.2) true)), ((5, 0), some (.box ([.p (.v (.bool v5.fa5)), .p (.v (.int .i64 v6.fo)), .p (.v (.string v6.fb2)), .p (.v (.string v6.ff)), .sl (5, 2004) 0 (List.map eS p10.2.1).length, .p (.v (.int .i64 v6.fb.fo)), .p (.v (.int .i64 v6.fb.fi)), .p (.v (.int .i64 v6.fb.fv)), .p (.v (.int .u64 v6.fb.fu)), .sl (5, 2009) 0 (List.map Ze p10.2.2.1).length, .sl (5, 2010) 0 (List.map (eI .u8) p10.2.2.2.1).length, .p (.v (.int .i64 v6.fa0)), .p (.v (.int .i64 v6.fa4)), .p (.v (.int .i64 v6.f7)), .p (.v (.int .i64 v6.fb1)), .p (.v (.int .i64 v6.f8)), .p (.v (.int .i64 v6.fx)), .p (.v (.int .i64 v6.fq.fo)), .p (.v (.string v6.fq.fb4)), .p (.v (.int .i64 v6.fq.fx)), .p (.v (.int .i64 v6.fq.fc3)), .p (.v (.int .i64 v6.fq.fb8)), .sl (5, 2022) 0 (List.map (eI .u8) p10.2.2.2.2.1).length, .p (.v (.int .i64 v7.fc2)), .p (.v (.int .i64 v7.fc4)), .p (.v (.bool v7.fb6)), .sl (5, 2026) 0 (List.map (eI .i64) p10.2.2.2.2.2.1).length, .p (.v (.int .i64 v7.fa1)), .p (.v (.int .i64 v7.fc.fb.fo)), .p (.v (.int .i64 v7.fc.fb.fi)), .p (.v (.int .i64 v7.fc.fb.fv)), .p (.v (.int .u64 v7.fc.fb.fu)), .p (.v (.int .i64 v7.fc.fp.fk)), .p (.v (.int .i64 v7.fc.fp.fy)), .p (.v (.bool v7.fc.fp.fa)), .p (.v (.int .i64 v7.fc.fg.fv)), .p (.v (.int .i64 v7.fc.fg.fi)), .p (.v (.int .u64 v7.fc.fg.fu)), .sl (5, 2038) 0 (List.map (eI .i64) p10.2.2.2.2.2.2.1).length, .p (.v (.bool v7.fc.fg.fa)), .p (.v (.int .i64 v7.fc.fw.f4)), .p (.v (.int .u64 v7.fc.fw.fu)), .sl (5, 2042) 0 (List.map (eI .i64) p10.2.2.2.2.2.2.2.1).length, .p (.v (.int .i64 v7.fc.fa2.fi)), .p (.v (.int .i64 v7.fc.fa2.fk)), .sl (5, 2045) 0 (List.map Ql p10.2.2.2.2.2.2.2.2.1).length, .p (.v (.bool v7.fc.fa2.fa)), .p (.v (.int .i64 v7.fc.fh.fi)), .p (.v (.int .i64 v7.fc.fh.fk)), .p (.v (.int .i64 v7.fc.fh.fb5)), .sl (5, 2050) 0 (List.map Ql p10.2.2.2.2.2.2.2.2.2.1).length, .p (.v (.bool v7.fc.fh.fa)), .p (.v (.int .i64 v7.fc.fm.fi)), .p (.v (.int .i64 v7.fc.fm.fk)), .p (.v (.int .i64 v7.fc.fm.fa7)), .sl (5, 2055) 0 (List.map (eL 1 eS) p10.2.2.2.2.2.2.2.2.2.2.1).length, .p (.v (.bool v7.fc.fm.fa)), .p (.v (.int .i64 v7.ff.fb.fo)), .p (.v (.int .i64 v7.ff.fb.fi)), .p (.v (.int .i64 v7.ff.fb.fv)), .p (.v (.int .u64 v7.ff.fb.fu)), .p (.v (.int .i64 v7.ff.fp.fk)), .p (.v (.int .i64 v7.ff.fp.fy)), .p (.v (.bool v7.ff.fp.fa)), .p (.v (.int .i64 v7.ff.fg.fv)), .p (.v (.int .i64 v7.ff.fg.fi)), .p (.v (.int .u64 v7.ff.fg.fu)), .sl (5, 2067) 0 (List.map (eI .i64) p10.2.2.2.2.2.2.2.2.2.2.2.1).length, .p (.v (.bool v7.ff.fg.fa)), .p (.v (.int .i64 v7.ff.fw.f4)), .p (.v (.int .u64 v7.ff.fw.fu)), .sl (5, 2071) 0 (List.map (eI .i64) p10.2.2.2.2.2.2.2.2.2.2.2.2.1).length, .p (.v (.int .i64 v7.ff.fa2.fi)), .p (.v (.int .i64 v7.ff.fa2.fk)), .sl (5, 2074) 0 (List.map Ql p10.2.2.2.2.2.2.2.2.2.2.2.2.2.1).length, .p (.v (.bool v7.ff.fa2.fa)), .p (.v (.int .i64 v7.ff.fh.fi)), .p (.v (.int .i64 v7.ff.fh.fk)), .p (.v (.int .i64 v7.ff.fh.fb5)), .sl (5, 2079) 0 (List.map Ql p10.2.2.2.2.2.2.2.2.2.2.2.2.2.2.1).length, .p (.v (.bool v7.ff.fh.fa)), .p (.v (.int .i64 v7.ff.fm.fi)), .p (.v (.int .i64 v7.ff.fm.fk)), .p (.v (.int .i64 v7.ff.fm.fa7)), .sl (5, 2084) 0 (List.map (eL 1 eS) p10.2.2.2.2.2.2.2.2.2.2.2.2.2.2.2.1).length, .p (.v (.bool v7.ff.fm.fa)), .p (.v (.int .i64 v7.fc5)), .p (.v (.int .i64 v7.fc6)), .p (.v (.int .i64 v7.f7)), .p (.v (.int .i64 v7.f8)), .p (.v (.int .i64 v7.fAt.fa1)), .p (.v (.int .i64 v7.fAt.fc7)), .sl (5, 2092) 0 (List.map (eI .u8) p10.2.2.2.2.2.2.2.2.2.2.2.2.2.2.2.2.1).length, .p (.v (.bool v7.fc0)), .p (.v (.int .i64 v5.f0)), .sl (5, 2095) 0 (List.map QC p10.2.2.2.2.2.2.2.2.2.2.2.2.2.2.2.2.2.1).length, .sl (5, 2096) 0 (List.map QU p10.2.2.2.2.2.2.2.2.2.2.2.2.2.2.2.2.2.2).length])))]⟩ : St)) h (fun p10 h => ?_) (fun J10 L10 hL10 h => ?_)
        · refine tl fun L hL => mv Z <| u0 (Qi Z Z Z Z Z Z Z) <| ul (Z1 (b := (5, 2096)) Z Z (Z1 (b := (5, 2095)) Z Z (Z1 (b := (5, 2092)) Z Z (Z1 (b := (5, 2084)) Z Z (Z1 (b := (5, 2079)) Z Z (Z1 (b := (5, 2074)) Z Z (Z1 (b := (5, 2071)) Z Z (Z1 (b := (5, 2067)) Z Z (Z1 (b := (5, 2055)) Z Z (Z1 (b := (5, 2050)) Z Z (Z1 (b := (5, 2045)) Z Z (Z1 (b := (5, 2042)) Z Z (Z1 (b := (5, 2038)) Z Z (Z1 (b := (5, 2026)) Z Z (Z1 (b := (5, 2022)) Z Z (Z1 (b := (5, 2010)) Z Z (Z1 (b := (5, 2009)) Z Z (Z1 (b := (5, 2004)) Z Z (JV (rows := List.map Qj [(Q4.mk v5.fa5 (Qs.mk v6.fo v6.fb2 v6.ff p10.2.1 v6.fb p10.2.2.1 p10.2.2.2.1 v6.fa0 v6.fa4 v6.f7 v6.fb1 v6.f8 v6.fx v6.fq p10.2.2.2.2.1) (Qn.mk v7.fc2 v7.fc4 v7.fb6 p10.2.2.2.2.2.1 v7.fa1 (Qd.mk v7.fc.fb v7.fc.fp (Qb.mk v7.fc.fg.fv v7.fc.fg.fi v7.fc.fg.fu p10.2.2.2.2.2.2.1 v7.fc.fg.fa) (Qh.mk v7.fc.fw.f4 v7.fc.fw.fu p10.2.2.2.2.2.2.2.1) (Qu.mk v7.fc.fa2.fi v7.fc.fa2.fk p10.2.2.2.2.2.2.2.2.1 v7.fc.fa2.fa) (Qc.mk v7.fc.fh.fi v7.fc.fh.fk v7.fc.fh.fb5 p10.2.2.2.2.2.2.2.2.2.1 v7.fc.fh.fa) (Qk.mk v7.fc.fm.fi v7.fc.fm.fk v7.fc.fm.fa7 p10.2.2.2.2.2.2.2.2.2.2.1 v7.fc.fm.fa)) (Qd.mk v7.ff.fb v7.ff.fp (Qb.mk v7.ff.fg.fv v7.ff.fg.fi v7.ff.fg.fu p10.2.2.2.2.2.2.2.2.2.2.2.1 v7.ff.fg.fa) (Qh.mk v7.ff.fw.f4 v7.ff.fw.fu p10.2.2.2.2.2.2.2.2.2.2.2.2.1) (Qu.mk v7.ff.fa2.fi v7.ff.fa2.fk p10.2.2.2.2.2.2.2.2.2.2.2.2.2.1 v7.ff.fa2.fa) (Qc.mk v7.ff.fh.fi v7.ff.fh.fk v7.ff.fh.fb5 p10.2.2.2.2.2.2.2.2.2.2.2.2.2.2.1 v7.ff.fh.fa) (Qk.mk v7.ff.fm.fi v7.ff.fm.fk v7.ff.fm.fa7 p10.2.2.2.2.2.2.2.2.2.2.2.2.2.2.2.1 v7.ff.fm.fa)) v7.fc5 v7.fc6 v7.f7 v7.f8 v7.fAt p10.2.2.2.2.2.2.2.2.2.2.2.2.2.2.2.2.1 v7.fc0) v5.f0 p10.2.2.2.2.2.2.2.2.2.2.2.2.2.2.2.2.2.1 p10.2.2.2.2.2.2.2.2.2.2.2.2.2.2.2.2.2.2)]) Z Z Z Z Z Z Z Z Z (.c (.c (.c (.c (.cons (.fr Z (QO Z)) (.c (.c (.c (.c (.cons (.fr Z (QO Z)) (.cons (.fr Z (QO Z)) (.c (.c (.c (.c (.c (.c (.c (.c (.c (.c (.c (.cons (.fr Z (QO Z)) (.c (.c (.c (.cons (.fr Z (QO Z)) (.c (.c (.c (.c (.c (.c (.c (.c (.c (.c (.c (.cons (.fr Z (QO Z)) (.c (.c (.c (.cons (.fr Z (QO Z)) (.c (.c (.cons (.fr Z (QO Z)) (.c (.c (.c (.c (.cons (.fr Z (QO Z)) (.c (.c (.c (.c (.cons (.fr Z (QO Z)) (.c (.c (.c (.c (.c (.c (.c (.c (.c (.c (.c (.cons (.fr Z (QO Z)) (.c (.c (.c (.cons (.fr Z (QO Z)) (.c (.c (.cons (.fr Z (QO Z)) (.c (.c (.c (.c (.cons (.fr Z (QO Z)) (.c (.c (.c (.c (.cons (.fr Z (QO Z)) (.c (.c (.c (.c (.c (.c (.c (.cons (.fr Z (QO Z)) (.c (.c (.cons (.fr Z (QO Z)) (.cons (.fr Z (QO Z)) .nil))))))))))))))))))))))))))))))))))))))))))))))))))))))))))))))))))))))))))))))))))))))))))))))))) Z Z Z))))))))))))))))))) ?_
          obtain ⟨hm17, h⟩ := h;refine ul (Zi (f := Qj) (L := p10.1) (L' := [(Q4.mk v5.fa5 (Qs.mk v6.fo v6.fb2 v6.ff p10.2.1 v6.fb p10.2.2.1 p10.2.2.2.1 v6.fa0 v6.fa4 v6.f7 v6.fb1 v6.f8 v6.fx v6.fq p10.2.2.2.2.1) (Qn.mk v7.fc2 v7.fc4 v7.fb6 p10.2.2.2.2.2.1 v7.fa1 (Qd.mk v7.fc.fb v7.fc.fp (Qb.mk v7.fc.fg.fv v7.fc.fg.fi v7.fc.fg.fu p10.2.2.2.2.2.2.1 v7.fc.fg.fa) (Qh.mk v7.fc.fw.f4 v7.fc.fw.fu p10.2.2.2.2.2.2.2.1) (Qu.mk v7.fc.fa2.fi v7.fc.fa2.fk p10.2.2.2.2.2.2.2.2.1 v7.fc.fa2.fa) (Qc.mk v7.fc.fh.fi v7.fc.fh.fk v7.fc.fh.fb5 p10.2.2.2.2.2.2.2.2.2.1 v7.fc.fh.fa) (Qk.mk v7.fc.fm.fi v7.fc.fm.fk v7.fc.fm.fa7 p10.2.2.2.2.2.2.2.2.2.2.1 v7.fc.fm.fa)) (Qd.mk v7.ff.fb v7.ff.fp (Qb.mk v7.ff.fg.fv v7.ff.fg.fi v7.ff.fg.fu p10.2.2.2.2.2.2.2.2.2.2.2.1 v7.ff.fg.fa) (Qh.mk v7.ff.fw.f4 v7.ff.fw.fu p10.2.2.2.2.2.2.2.2.2.2.2.2.1) (Qu.mk v7.ff.fa2.fi v7.ff.fa2.fk p10.2.2.2.2.2.2.2.2.2.2.2.2.2.1 v7.ff.fa2.fa) (Qc.mk v7.ff.fh.fi v7.ff.fh.fk v7.ff.fh.fb5 p10.2.2.2.2.2.2.2.2.2.2.2.2.2.2.1 v7.ff.fh.fa) (Qk.mk v7.ff.fm.fi v7.ff.fm.fk v7.ff.fm.fa7 p10.2.2.2.2.2.2.2.2.2.2.2.2.2.2.2.1 v7.ff.fm.fa)) v7.fc5 v7.fc6 v7.f7 v7.f8 v7.fAt p10.2.2.2.2.2.2.2.2.2.2.2.2.2.2.2.2.1 v7.fc0) v5.f0 p10.2.2.2.2.2.2.2.2.2.2.2.2.2.2.2.2.2.1 p10.2.2.2.2.2.2.2.2.2.2.2.2.2.2.2.2.2.2)]) hm17 Z Z Z Z Z Z Z Z Z Z Z (Vw KQ Z Z Z Z Z Z)) ?_
          refine QD Z Z ?_;refine rt (hL _ (hL4 _ _ h (Z9.nm [3, 8, 9, 10] [((50, 0), (3, 1000))] Z (by kernel_rfl))))
        · refine tk fun L hL => u0 (Q1 Z Z Z Z Z Z Z Z Z) <| u0 (Q2 Z Z Z Z Z Z) <| u0 (JB Z Z Z Z Z Z) <| u0 (Qa Z Z) <| rt (hL _ ?_);refine QE ?_;refine KY (fun (s11 : (List Q4) × (List Qf) × Int × (List ByteArray) × (List Qt) × (List Int) × (List Int) × (List Int) × (List Int) × (List Int) × (List Q5) × (List Q5) × (List (List ByteArray)) × (List Int) × (List Int) × (List Q5) × (List Q5) × (List (List ByteArray)) × (List Int) × (List Qr)) => (⟨[(3, .c (.sl (3, 1000) 0 (List.map Qj s11.1).length)), (5, .c (.ptr (5, 0) 0 0)), (8, .c (.p (.l 97 (List.map Qj a0)))), (9, .c (.p (.v (.int .i64 ((a0.length : Int)))))), (10, .c (.p (.v (.int .i64 s2.2)))), (31, .c (.sl (31, 1000) 0 (List.map QC s11.2.1).length)), (32, .c (.p (.v (.int .i64 ((v8.length : Int)))))), (33, .c (.p (.v (.int .i64 s11.2.2.1))))], [((3, 1000), some (.row 97 (List.map Qj s11.1) true)), ((31, 1000), some (.row 3 (List.map QC s11.2.1) true)), ((5, 2004), some (.row 1 (List.map eS s11.2.2.2.1) true)), ((5, 2009), some (.row 2 (List.map Ze s11.2.2.2.2.1) true)), ((5, 2010), some (.row 1 (List.map (eI .u8) s11.2.2.2.2.2.1) true)), ((5, 2022), some (.row 1 (List.map (eI .u8) s11.2.2.2.2.2.2.1) true)), ((5, 2026), some (.row 1 (List.map (eI .i64) s11.2.2.2.2.2.2.2.1) true)), ((5, 2038), some (.row 1 (List.map (eI .i64) s11.2.2.2.2.2.2.2.2.1) true)), ((5, 2042), some (.row 1 (List.map (eI .i64) s11.2.2.2.2.2.2.2.2.2.1) true)), ((5, 2045), some (.row 3 (List.map Ql s11.2.2.2.2.2.2.2.2.2.2.1) true)), ((5, 2050), some (.row 3 (List.map Ql s11.2.2.2.2.2.2.2.2.2.2.2.1) true)), ((5, 2055), some (.row 1 (List.map (eL 1 eS) s11.2.2.2.2.2.2.2.2.2.2.2.2.1) true)), ((5, 2067), some (.row 1 (List.map (eI .i64) s11.2.2.2.2.2.2.2.2.2.2.2.2.2.1) true)), ((5, 2071), some (.row 1 (List.map (eI .i64) s11.2.2.2.2.2.2.2.2.2.2.2.2.2.2.1) true)), ((5, 2074), some (.row 3 (List.map Ql s11.2.2.2.2.2.2.2.2.2.2.2.2.2.2.2.1) true)), ((5, 2079), some (.row 3 (List.map Ql s11.2.2.2.2.2.2.2.2.2.2.2.2.2.2.2.2.1) true)), ((5, 2084), some (.row 1 (List.map (eL 1 eS) s11.2.2.2.2.2.2.2.2.2.2.2.2.2.2.2.2.2.1) true)), ((5, 2092), some (.row 1 (List.map (eI .u8) s11.2.2.2.2.2.2.2.2.2.2.2.2.2.2.2.2.2.2.1) true)), ((5, 2096), some (.row 4 (List.map QU s11.2.2.2.2.2.2.2.2.2.2.2.2.2.2.2.2.2.2.2) true)), ((5, 0), some (.box ([.p (.v (.bool v5.fa5)), .p (.v (.int .i64 v6.fo)), .p (.v (.string v6.fb2)), .p (.v (.string v6.ff)), .sl (5, 2004) 0 (List.map eS s11.2.2.2.1).length, .p (.v (.int .i64 v6.fb.fo)), .p (.v (.int .i64 v6.fb.fi)), .p (.v (.int .i64 v6.fb.fv)), .p (.v (.int .u64 v6.fb.fu)), .sl (5, 2009) 0 (List.map Ze s11.2.2.2.2.1).length, .sl (5, 2010) 0 (List.map (eI .u8) s11.2.2.2.2.2.1).length, .p (.v (.int .i64 v6.fa0)), .p (.v (.int .i64 v6.fa4)), .p (.v (.int .i64 v6.f7)), .p (.v (.int .i64 v6.fb1)), .p (.v (.int .i64 v6.f8)), .p (.v (.int .i64 v6.fx)), .p (.v (.int .i64 v6.fq.fo)), .p (.v (.string v6.fq.fb4)), .p (.v (.int .i64 v6.fq.fx)), .p (.v (.int .i64 v6.fq.fc3)), .p (.v (.int .i64 v6.fq.fb8)), .sl (5, 2022) 0 (List.map (eI .u8) s11.2.2.2.2.2.2.1).length, .p (.v (.int .i64 v7.fc2)), .p (.v (.int .i64 v7.fc4)), .p (.v (.bool v7.fb6)), .sl (5, 2026) 0 (List.map (eI .i64) s11.2.2.2.2.2.2.2.1).length, .p (.v (.int .i64 v7.fa1)), .p (.v (.int .i64 v7.fc.fb.fo)), .p (.v (.int .i64 v7.fc.fb.fi)), .p (.v (.int .i64 v7.fc.fb.fv)), .p (.v (.int .u64 v7.fc.fb.fu)), .p (.v (.int .i64 v7.fc.fp.fk)), .p (.v (.int .i64 v7.fc.fp.fy)), .p (.v (.bool v7.fc.fp.fa)), .p (.v (.int .i64 v7.fc.fg.fv)), .p (.v (.int .i64 v7.fc.fg.fi)), .p (.v (.int .u64 v7.fc.fg.fu)), .sl (5, 2038) 0 (List.map (eI .i64) s11.2.2.2.2.2.2.2.2.1).length, .p (.v (.bool v7.fc.fg.fa)), .p (.v (.int .i64 v7.fc.fw.f4)), .p (.v (.int .u64 v7.fc.fw.fu)), .sl (5, 2042) 0 (List.map (eI .i64) s11.2.2.2.2.2.2.2.2.2.1).length, .p (.v (.int .i64 v7.fc.fa2.fi)), .p (.v (.int .i64 v7.fc.fa2.fk)), .sl (5, 2045) 0 (List.map Ql s11.2.2.2.2.2.2.2.2.2.2.1).length, .p (.v (.bool v7.fc.fa2.fa)), .p (.v (.int .i64 v7.fc.fh.fi)), .p (.v (.int .i64 v7.fc.fh.fk)), .p (.v (.int .i64 v7.fc.fh.fb5)), .sl (5, 2050) 0 (List.map Ql s11.2.2.2.2.2.2.2.2.2.2.2.1).length, .p (.v (.bool v7.fc.fh.fa)), .p (.v (.int .i64 v7.fc.fm.fi)), .p (.v (.int .i64 v7.fc.fm.fk)), .p (.v (.int .i64 v7.fc.fm.fa7)), .sl (5, 2055) 0 (List.map (eL 1 eS) s11.2.2.2.2.2.2.2.2.2.2.2.2.1).length, .p (.v (.bool v7.fc.fm.fa)), .p (.v (.int .i64 v7.ff.fb.fo)), .p (.v (.int .i64 v7.ff.fb.fi)), .p (.v (.int .i64 v7.ff.fb.fv)), .p (.v (.int .u64 v7.ff.fb.fu)), .p (.v (.int .i64 v7.ff.fp.fk)), .p (.v (.int .i64 v7.ff.fp.fy)), .p (.v (.bool v7.ff.fp.fa)), .p (.v (.int .i64 v7.ff.fg.fv)), .p (.v (.int .i64 v7.ff.fg.fi)), .p (.v (.int .u64 v7.ff.fg.fu)), .sl (5, 2067) 0 (List.map (eI .i64) s11.2.2.2.2.2.2.2.2.2.2.2.2.2.1).length, .p (.v (.bool v7.ff.fg.fa)), .p (.v (.int .i64 v7.ff.fw.f4)), .p (.v (.int .u64 v7.ff.fw.fu)), .sl (5, 2071) 0 (List.map (eI .i64) s11.2.2.2.2.2.2.2.2.2.2.2.2.2.2.1).length, .p (.v (.int .i64 v7.ff.fa2.fi)), .p (.v (.int .i64 v7.ff.fa2.fk)), .sl (5, 2074) 0 (List.map Ql s11.2.2.2.2.2.2.2.2.2.2.2.2.2.2.2.1).length, .p (.v (.bool v7.ff.fa2.fa)), .p (.v (.int .i64 v7.ff.fh.fi)), .p (.v (.int .i64 v7.ff.fh.fk)), .p (.v (.int .i64 v7.ff.fh.fb5)), .sl (5, 2079) 0 (List.map Ql s11.2.2.2.2.2.2.2.2.2.2.2.2.2.2.2.2.1).length, .p (.v (.bool v7.ff.fh.fa)), .p (.v (.int .i64 v7.ff.fm.fi)), .p (.v (.int .i64 v7.ff.fm.fk)), .p (.v (.int .i64 v7.ff.fm.fa7)), .sl (5, 2084) 0 (List.map (eL 1 eS) s11.2.2.2.2.2.2.2.2.2.2.2.2.2.2.2.2.2.1).length, .p (.v (.bool v7.ff.fm.fa)), .p (.v (.int .i64 v7.fc5)), .p (.v (.int .i64 v7.fc6)), .p (.v (.int .i64 v7.f7)), .p (.v (.int .i64 v7.f8)), .p (.v (.int .i64 v7.fAt.fa1)), .p (.v (.int .i64 v7.fAt.fc7)), .sl (5, 2092) 0 (List.map (eI .u8) s11.2.2.2.2.2.2.2.2.2.2.2.2.2.2.2.2.2.2.1).length, .p (.v (.bool v7.fc0)), .p (.v (.int .i64 v5.f0)), .sl (31, 1000) 0 (List.map QC s11.2.1).length, .sl (5, 2096) 0 (List.map QU s11.2.2.2.2.2.2.2.2.2.2.2.2.2.2.2.2.2.2.2).length])))]⟩ : St)) h (Z9.nm [3, 5, 8, 9, 10, 31, 32, 33] [((3, 1000), (3, 1000)), ((24, 0), (31, 1000)), ((16, 3), (5, 2004)), ((16, 8), (5, 2009)), ((16, 9), (5, 2010)), ((16, 21), (5, 2022)), ((19, 3), (5, 2026)), ((19, 15), (5, 2038)), ((19, 19), (5, 2042)), ((19, 22), (5, 2045)), ((19, 27), (5, 2050)), ((19, 32), (5, 2055)), ((19, 44), (5, 2067)), ((19, 48), (5, 2071)), ((19, 51), (5, 2074)), ((19, 56), (5, 2079)), ((19, 61), (5, 2084)), ((19, 69), (5, 2092)), ((27, 0), (5, 2096)), ((5, 0), (5, 0))] Z (by kernel_rfl)) (fun X11 L11 hL11 s11 h => ?_)
          refine tk fun L hL => u0 (Q9 (c := decide (s11.2.2.1 < ((v8.length : Int)))) Z Z Z Z Z) <| rt (hL _ ?_);refine sk fun L12 hL12 => ?_;refine ZZ Z h (fun h => ?_) fun h => ?_
          · refine Qv (hL12 _ ?_);refine sk fun L13 hL13 => QE <| tk fun L hL => mv Z ?_;obtain ⟨v14, hv14, h⟩ := h;refine u0 (ZS hv14 Z Z Z Z Z Z Z Z Z Z) <| u0 (Y5 Z Z (gm hv14.2) Z Z Z Z Z Z) <| u1 (Kc Z Z Z) <| QD Z Z <| un (Zq Z Z Z Z Z Z Z Z Z) <| rt (hL _ ?_);refine dl mixed (fun L hL => ?_);refine u0 (Q1 Z Z Z Z Z Z Z Z Z) <| u0 (Q2 Z Z Z Z Z Z) <| mv Z <| u0 (Q1 Z Z Z Z Z Z Z Z Z) <| u0 (Q2 Z Z Z Z Z Z) ?_;obtain ⟨v15, hv15, h⟩ := h;refine ul (QK (Zn _ _ hv15) Z Z (.cons (.c (.p _)) .nil) Z Z Z) ?_;obtain ⟨v16, hv16, h⟩ := h;refine u0 (ZS hv16 Z Z Z Z Z Z Z Z Z Z) <| u0 (Q1 Z Z Z Z Z Z Z Z Z) <| YN Z (Z1 (b := (43, 0)) Z Z (ZO (x1 := (Qf.mk v16.fb9 v16.fa6 v15)) hv16.2 Z Z Z Z (.cons (.fr Z (QO Z)) .nil) Z Z Z Z Z Z)) <| rd (hL _ (hL13 _ ?_));refine tl fun L hL => u0 (Zu Z Z Z Z Z) <| mv Z ?_;refine rt (hL _ (hL11 _ _ h ((Z9.slot 31 Z (.n (n' := (List.map QC (List.set s11.2.1 (Int.toNat s11.2.2.1) ((Qf.mk v16.fb9 v16.fa6 v15)))).length) (by simp))).trans ((Z9.cells (5, 0) Z (.c (.c (.c (.c (.c (.c (.c (.c (.c (.c (.c (.c (.c (.c (.c (.c (.c (.c (.c (.c (.c (.c (.c (.c (.c (.c (.c (.c (.c (.c (.c (.c (.c (.c (.c (.c (.c (.c (.c (.c (.c (.c (.c (.c (.c (.c (.c (.c (.c (.c (.c (.c (.c (.c (.c (.c (.c (.c (.c (.c (.c (.c (.c (.c (.c (.c (.c (.c (.c (.c (.c (.c (.c (.c (.c (.c (.c (.c (.c (.c (.c (.c (.c (.c (.c (.c (.c (.c (.c (.c (.c (.c (.c (.c (.c (.cons (.n (n' := (List.map QC (List.set s11.2.1 (Int.toNat s11.2.2.1) ((Qf.mk v16.fb9 v16.fa6 v15)))).length) (by simp)) (.c .nil)))))))))))))))))))))))))))))))))))))))))))))))))))))))))))))))))))))))))))))))))))))))))))))))))).trans (Z9.nm [3, 5, 8, 9, 10, 31, 32, 33] [((3, 1000), (3, 1000)), ((31, 1000), (31, 1000)), ((5, 2004), (5, 2004)), ((5, 2009), (5, 2009)), ((5, 2010), (5, 2010)), ((5, 2022), (5, 2022)), ((5, 2026), (5, 2026)), ((5, 2038), (5, 2038)), ((5, 2042), (5, 2042)), ((5, 2045), (5, 2045)), ((5, 2050), (5, 2050)), ((5, 2055), (5, 2055)), ((5, 2067), (5, 2067)), ((5, 2071), (5, 2071)), ((5, 2074), (5, 2074)), ((5, 2079), (5, 2079)), ((5, 2084), (5, 2084)), ((5, 2092), (5, 2092)), ((5, 2096), (5, 2096)), ((5, 0), (5, 0))] Z (by kernel_rfl))))))
          · refine Zv (hL10 _ _ h (Z9.nm [3, 5, 8, 9, 10] [((3, 1000), (3, 1000)), ((5, 2004), (5, 2004)), ((5, 2009), (5, 2009)), ((5, 2010), (5, 2010)), ((5, 2022), (5, 2022)), ((5, 2026), (5, 2026)), ((5, 2038), (5, 2038)), ((5, 2042), (5, 2042)), ((5, 2045), (5, 2045)), ((5, 2050), (5, 2050)), ((5, 2055), (5, 2055)), ((5, 2067), (5, 2067)), ((5, 2071), (5, 2071)), ((5, 2074), (5, 2074)), ((5, 2079), (5, 2079)), ((5, 2084), (5, 2084)), ((5, 2092), (5, 2092)), ((31, 1000), (5, 2095)), ((5, 2096), (5, 2096)), ((5, 0), (5, 0))] Z (by kernel_rfl)))
    · refine Zv (hL1 _ _ h (Z9.nm [3] [((3, 1000), (3, 1000))] Z (by kernel_rfl)))
def Kx (a0 : (List Q4)) (a1 : Int) (a2 : Qs) (a3 : Int) (Q : ((List Q4) × Int) → Prop) : Prop :=
 ((((bif decide (a1 < 0) then true else decide (a1 ≥ ((a0.length : Int))))) = true → Q (([] : (List Q4)), 5)) ∧ (((bif decide (a1 < 0) then true else decide (a1 ≥ ((a0.length : Int))))) = false → ∃ v3, Kt a2 v3 ∧ ((((v3 != 0)) = true → Q (([] : (List Q4)), v3)) ∧ (((v3 != 0)) = false → ∃ v5, ix a0 a1 v5 ∧ ((v5.fa5 = true → Q (([] : (List Q4)), 12)) ∧ (v5.fa5 = false → ∃ v6, Zx a0 v6 ∧ ∃ v7, ix v6 a1 v7 ∧ ∃ v8, ZC a2 v8 ∧ Q ((List.set (List.set (List.set (List.set v6 (Int.toNat a1) ((Q4.mk true v7.fOp v7.fj v7.f0 v7.f3 v7.fa9))) (Int.toNat a1) ((Q4.mk true (Qs.mk v8.fo v8.fb2 v8.ff v8.f9 v8.fb v8.fy v8.fb3 v8.fa0 v8.fa4 v8.f7 v8.fb1 v8.f8 v8.fx v8.fq v8.fb0) v7.fj v7.f0 v7.f3 v7.fa9))) (Int.toNat a1) ((Q4.mk true (Qs.mk v8.fo v8.fb2 v8.ff v8.f9 v8.fb v8.fy v8.fb3 v8.fa0 v8.fa4 v8.f7 v8.fb1 v8.f8 v8.fx v8.fq v8.fb0) (Qn.mk 0 0 false (([] : (List Int))) 0 (Qd.mk (Qe.mk 0 0 0 0) (QA.mk 0 0 false) (Qb.mk 0 0 0 (([] : (List Int))) false) (Qh.mk 0 0 (([] : (List Int)))) (Qu.mk 0 0 (([] : (List Q5))) false) (Qc.mk 0 0 0 (([] : (List Q5))) false) (Qk.mk 0 0 0 (([] : (List (List ByteArray)))) false)) (Qd.mk (Qe.mk 0 0 0 0) (QA.mk 0 0 false) (Qb.mk 0 0 0 (([] : (List Int))) false) (Qh.mk 0 0 (([] : (List Int)))) (Qu.mk 0 0 (([] : (List Q5))) false) (Qc.mk 0 0 0 (([] : (List Q5))) false) (Qk.mk 0 0 0 (([] : (List (List ByteArray)))) false)) 0 0 0 0 (QS.mk 0 0) (([] : (List Int))) false) v7.f0 v7.f3 v7.fa9))) (Int.toNat a1) ((Q4.mk true (Qs.mk v8.fo v8.fb2 v8.ff v8.f9 v8.fb v8.fy v8.fb3 v8.fa0 v8.fa4 v8.f7 v8.fb1 v8.f8 v8.fx v8.fq v8.fb0) (Qn.mk 0 0 false (([] : (List Int))) 0 (Qd.mk (Qe.mk 0 0 0 0) (QA.mk 0 0 false) (Qb.mk 0 0 0 (([] : (List Int))) false) (Qh.mk 0 0 (([] : (List Int)))) (Qu.mk 0 0 (([] : (List Q5))) false) (Qc.mk 0 0 0 (([] : (List Q5))) false) (Qk.mk 0 0 0 (([] : (List (List ByteArray)))) false)) (Qd.mk (Qe.mk 0 0 0 0) (QA.mk 0 0 false) (Qb.mk 0 0 0 (([] : (List Int))) false) (Qh.mk 0 0 (([] : (List Int)))) (Qu.mk 0 0 (([] : (List Q5))) false) (Qc.mk 0 0 0 (([] : (List Q5))) false) (Qk.mk 0 0 0 (([] : (List (List ByteArray)))) false)) 0 0 0 0 (QS.mk 0 0) (([] : (List Int))) false) a3 v7.f3 v7.fa9))), 0)))))))
def Zd (a0 : (List Q4)) (a1 : Int) (a2 : Qs) (a3 : Int) (r : (List Q4) × Int) : Prop := Kx a0 a1 a2 a3 fun x => r = x
theorem Vq (a0 : (List Q4)) (a1 : Int) (a2 : Qs) (a3 : Int) (r : (List Q4) × Int) (h : Zd a0 a1 a2 a3 r) : Qz Try.prog 12 [.c (.l 97 (List.map Qj a0)), .c (.v (.int .i64 a1)), .agg (Zp a2), .c (.v (.int .i64 a3))] [.c (.own 97 (List.map Qj r.1)), .c (.p (.v (.int .i64 r.2)))] [] := by
  refine Qx tb Try.func12 Z (by kernel_rfl) Z Z (Nat.le_of_ble_eq_true Z) Z ?_;intro E;unfold Zd Kx at h;refine ZN (fun Q hQ => ?_);refine tk fun L hL => u1 (QR Z Z) <| QD Z Z <| QD Z Z <| rt (hL _ ?_);refine sk fun L1 hL1 => tk fun L hL => mv Z <| u0 (Q9 (c := decide (a1 < 0)) Z Z Z Z Z) <| mv Z <| Q3 Z Z Q7 (fun hg => Qa Z Z) <| Q3 Z Z Q7 (fun hg => Qa Z Z) <| Q3 Z Z Q7 (fun hg => Qw (Q8 hg) Z Z Z) <| Q3 Z Z Q7 (fun hg => Q9 (c := decide (a1 ≥ ((a0.length : Int)))) (Q8 hg) (Q8 hg) Z Z Z) <| u0 (Qp (v := .bool true) (w := .bool (decide (a1 ≥ ((a0.length : Int))))) Z Z Q7 Z QB Z Z Z) <| rt (hL _ ?_);refine ZZ Z h (fun h => ?_) fun h => ?_
  · refine tk fun L hL => QD Z Z <| QD Z Z <| rt (hL _ ?_);obtain rfl := h;exact Qm (hQ _ _ (Dg Z Z Z Z))
  · refine Qv (hL1 _ ?_);refine ZI (st' := ⟨[(0, .c (.p (.l 97 (List.map Qj a0)))), (1, .c (.p (.v (.int .i64 a1)))), (3, .c (.p (.v (.int .i64 a3)))), (6, .c (.ptr (6, 0) 0 0))], [((6, 0), some (.box (List.map CV.p (Zp a2))))]⟩) (Z9.nm [0, 1, 3, 6] [((6, 0), (6, 0))] Z Z) ?_;refine sk fun L2 hL2 => tk fun L hL => u0 (Qi Z Z Z Z Z Z Z) ?_;obtain ⟨v3, hv3, h⟩ := h;refine u0 (Qy (VV _ _ hv3) Z Z (.cons (.agg (.pp (.pp (.pp (.pp (.pp (.pp (.pp (.pp (.pp (.pp (.pp (.pp (.pp (.pp (.pp (.pp (.pp (.pp (.pp (.pp (.pp (.pp .nil))))))))))))))))))))))) .nil) Z Z Z) <| QD Z Z <| rt (hL _ ?_);refine tk fun L hL => mv Z <| u0 (Q9 (c := (v3 != 0)) Z Z Z Z Z) <| rt (hL _ ?_);refine ZZ Z h (fun h => ?_) fun h => ?_
    · refine tk fun L hL => mv Z <| QD Z Z <| QD Z Z <| rt (hL _ ?_);obtain rfl := h;exact Qm (hQ _ _ (Dg Z Z Z Z))
    · refine Qv (hL2 _ ?_);refine sk fun L4 hL4 => tk fun L hL => mv Z <| mv Z ?_;obtain ⟨v5, hv5, h⟩ := h;refine u0 (Qq hv5 Z Z Z Z Z Z Z Z) <| u0 (QF Z Z Z Z Z Z Z Z) <| u0 (Qo Z Z Z Z Z) <| rt (hL _ ?_);refine ZZ Z h (fun h => ?_) fun h => ?_
      · refine tk fun L hL => QD Z Z <| QD Z Z <| rt (hL _ ?_);obtain rfl := h;exact Qm (hQ _ _ (Dg Z Z Z Z))
      · refine Qv (hL4 _ ?_);refine tk fun L hL => mv Z ?_;obtain ⟨v6, hv6, h⟩ := h;refine ul (QK (Va _ _ hv6) Z Z (.cons (.c (.p _)) .nil) Z Z Z) <| QD Z Z <| rt (hL _ ?_);refine tk fun L hL => mv Z <| mv Z ?_;obtain ⟨v7, hv7, h⟩ := h;refine u0 (ZS hv7 Z Z Z Z Z Z Z Z Z Z) <| QD Z Z <| rt (hL _ ?_);refine tk fun L hL => mv Z <| mv Z <| mv Z <| mv Z <| u0 (Qi Z Z Z Z Z Z Z) ?_;obtain ⟨v8, hv8, h⟩ := h;refine ul (QK (JN _ _ hv8) Z Z (.cons (.agg (.pp (.pp (.pp (.pp (.pp (.pp (.pp (.pp (.pp (.pp (.pp (.pp (.pp (.pp (.pp (.pp (.pp (.pp (.pp (.pp (.pp (.pp .nil))))))))))))))))))))))) .nil) Z Z Z) <| u0 (ZJ Z Z Z Z Z Z Z) <| mv Z <| u0 (ZQ Z Z Z) <| u0 (Q1 Z Z Z Z Z Z Z Z Z) <| un (Jc (x1 := (Q4.mk true v7.fOp v7.fj v7.f0 v7.f3 v7.fa9)) hv7.2 Z Z Z Z Z Z Z Z Z Z Z) <| u0 (ZQ Z Z Z) <| u0 (Q1 Z Z Z Z Z Z Z Z Z) <| YN Z (Z1 (b := (41, 21)) Z Z (Z1 (b := (41, 9)) Z Z (Z1 (b := (41, 8)) Z Z (Z1 (b := (41, 3)) Z Z (ZO (x1 := (Q4.mk true (Qs.mk v8.fo v8.fb2 v8.ff v8.f9 v8.fb v8.fy v8.fb3 v8.fa0 v8.fa4 v8.f7 v8.fb1 v8.f8 v8.fx v8.fq v8.fb0) v7.fj v7.f0 v7.f3 v7.fa9)) (KP hv7.2) Z Z Z Z (.c (.c (.c (.cons (.fr Z (QO Z)) (.c (.c (.c (.c (.cons (.fr Z (QO Z)) (.cons (.fr Z (QO Z)) (.c (.c (.c (.c (.c (.c (.c (.c (.c (.c (.c (.cons (.fr Z (QO Z)) .nil)))))))))))))))))))))) Z Z Z Z Z Z))))) <| u0 (ZQ Z Z Z) <| u0 (Q1 Z Z Z Z Z Z Z Z Z) <| un (ZO (x1 := (Q4.mk true (Qs.mk v8.fo v8.fb2 v8.ff v8.f9 v8.fb v8.fy v8.fb3 v8.fa0 v8.fa4 v8.f7 v8.fb1 v8.f8 v8.fx v8.fq v8.fb0) (Qn.mk 0 0 false (([] : (List Int))) 0 (Qd.mk (Qe.mk 0 0 0 0) (QA.mk 0 0 false) (Qb.mk 0 0 0 (([] : (List Int))) false) (Qh.mk 0 0 (([] : (List Int)))) (Qu.mk 0 0 (([] : (List Q5))) false) (Qc.mk 0 0 0 (([] : (List Q5))) false) (Qk.mk 0 0 0 (([] : (List (List ByteArray)))) false)) (Qd.mk (Qe.mk 0 0 0 0) (QA.mk 0 0 false) (Qb.mk 0 0 0 (([] : (List Int))) false) (Qh.mk 0 0 (([] : (List Int)))) (Qu.mk 0 0 (([] : (List Q5))) false) (Qc.mk 0 0 0 (([] : (List Q5))) false) (Qk.mk 0 0 0 (([] : (List (List ByteArray)))) false)) 0 0 0 0 (QS.mk 0 0) (([] : (List Int))) false) v7.f0 v7.f3 v7.fa9)) (KP (KP hv7.2)) Z Z Z Z (.c (.c (.c (.cons (.nil _) (.c (.c (.c (.c (.c (.c (.c (.c (.c (.c (.c (.cons (.nil _) (.c (.c (.c (.cons (.nil _) (.c (.c (.cons (.nil _) (.c (.c (.c (.c (.cons (.nil _) (.c (.c (.c (.c (.cons (.nil _) (.c (.c (.c (.c (.c (.c (.c (.c (.c (.c (.c (.cons (.nil _) (.c (.c (.c (.cons (.nil _) (.c (.c (.cons (.nil _) (.c (.c (.c (.c (.cons (.nil _) (.c (.c (.c (.c (.cons (.nil _) (.c (.c (.c (.c (.c (.c (.c (.cons (.nil _) (.c .nil))))))))))))))))))))))))))))))))))))))))))))))))))))))))))))))))))))))) Z Z Z Z Z Z) ?_
        refine u0 (ZQ Z Z Z) <| u0 (Q1 Z Z Z Z Z Z Z Z Z) <| un (Jc (x1 := (Q4.mk true (Qs.mk v8.fo v8.fb2 v8.ff v8.f9 v8.fb v8.fy v8.fb3 v8.fa0 v8.fa4 v8.f7 v8.fb1 v8.f8 v8.fx v8.fq v8.fb0) (Qn.mk 0 0 false (([] : (List Int))) 0 (Qd.mk (Qe.mk 0 0 0 0) (QA.mk 0 0 false) (Qb.mk 0 0 0 (([] : (List Int))) false) (Qh.mk 0 0 (([] : (List Int)))) (Qu.mk 0 0 (([] : (List Q5))) false) (Qc.mk 0 0 0 (([] : (List Q5))) false) (Qk.mk 0 0 0 (([] : (List (List ByteArray)))) false)) (Qd.mk (Qe.mk 0 0 0 0) (QA.mk 0 0 false) (Qb.mk 0 0 0 (([] : (List Int))) false) (Qh.mk 0 0 (([] : (List Int)))) (Qu.mk 0 0 (([] : (List Q5))) false) (Qc.mk 0 0 0 (([] : (List Q5))) false) (Qk.mk 0 0 0 (([] : (List (List ByteArray)))) false)) 0 0 0 0 (QS.mk 0 0) (([] : (List Int))) false) a3 v7.f3 v7.fa9)) (KP (KP (KP hv7.2))) Z Z Z Z Z Z Z Z Z Z Z) <| rt (hL _ ?_);refine tk fun L hL => mv Z <| QD Z Z <| QD Z Z <| rt (hL _ ?_)
        obtain rfl := h;exact Qm (hQ _ _ ⟨.inr Z, _, _, _, (.cons (.s Z) (.cons (.p Z) .nil)), (.cons (.c (.own Z (by simp))) (.cons (.c (.p _)) .nil)), Z, Z⟩)
def KV (a0 : (List Q4)) (Q : ((List Int)) → Prop) : Prop :=
 jn (fun (p1 : (List Int)) => Q p1) (fun (J1 : (List Int) → Prop) => lp (fun (X2 : (List Int) × Int → Prop) (s2 : (List Int) × Int) => (((decide (s2.2 < ((a0.length : Int)))) = true → jn (fun (p4 : (List Int)) => X2 (p4, (IntKind.i64.wrap (s2.2 + 1)))) (fun (J4 : (List Int) → Prop) => ∃ v5, ix a0 s2.2 v5 ∧ ((v5.fa5 = true → ((s2.1.length + ([s2.2]).length) * 8 ≤ 140737488355328) ∧ J4 ((s2.1 ++ ([s2.2])))) ∧ (v5.fa5 = false → J4 s2.1)))) ∧ ((decide (s2.2 < ((a0.length : Int)))) = false → J1 s2.1))) (([] : (List Int)), 0))
def ZM (a0 : (List Q4)) (r : (List Int)) : Prop := KV a0 fun x => r = x
theorem Xu (a0 : (List Q4)) (r : (List Int)) (h : ZM a0 r) : Qz Try.prog 13 [.c (.l 97 (List.map Qj a0))] [.c (.own 1 (List.map (eI .i64) r))] [] := by
  refine Qx tb Try.func13 Z (by kernel_rfl) Z Z (Nat.le_of_ble_eq_true Z) Z ?_;intro E;unfold ZM KV at h;refine ZN (fun Q hQ => ?_);refine tk fun L hL => QD Z Z <| rt (hL _ ?_);refine tk fun L hL => QD Z Z <| rt (hL _ ?_);refine Km (fun (p1 : (List Int)) => (⟨[(3, .c (.sl (3, 1000) 0 (List.map (eI .i64) p1).length))], [((3, 1000), some (.row 1 (List.map (eI .i64) p1) true))]⟩ : St)) h (fun p1 h => ?_) (fun J1 L1 hL1 h => ?_)
  · refine tk fun L hL => mv Z <| QD Z Z <| rt (hL _ ?_);obtain rfl := h;exact Qm (hQ _ _ (BP Z Z Z Z))
  · refine tk fun L hL => mv Z <| u0 (Qw Z Z Z Z) <| u0 (Qa Z Z) <| rt (hL _ ?_);refine QE ?_;refine KY (fun (s2 : (List Int) × Int) => (⟨[(3, .c (.sl (3, 1000) 0 (List.map (eI .i64) s2.1).length)), (6, .c (.p (.l 97 (List.map Qj a0)))), (7, .c (.p (.v (.int .i64 ((a0.length : Int)))))), (8, .c (.p (.v (.int .i64 s2.2))))], [((3, 1000), some (.row 1 (List.map (eI .i64) s2.1) true))]⟩ : St)) h ((Z9.blk (3, 1050) 1 Z Z Z).trans ((Z9.slot 3 Z (.nilo (b := (3, 1050)) Z)).trans (Z9.nm [3, 6, 7, 8] [((3, 1050), (3, 1000))] Z (by kernel_rfl)))) (fun X2 L2 hL2 s2 h => ?_);refine tk fun L hL => u0 (Q9 (c := decide (s2.2 < ((a0.length : Int)))) Z Z Z Z Z) <| rt (hL _ ?_);refine sk fun L3 hL3 => ?_;refine ZZ Z h (fun h => ?_) fun h => ?_
    · refine Qv (hL3 _ ?_);refine Km (fun (p4 : (List Int)) => (⟨[(3, .c (.sl (3, 1000) 0 (List.map (eI .i64) p4).length)), (6, .c (.p (.l 97 (List.map Qj a0)))), (7, .c (.p (.v (.int .i64 ((a0.length : Int)))))), (8, .c (.p (.v (.int .i64 s2.2))))], [((3, 1000), some (.row 1 (List.map (eI .i64) p4) true))]⟩ : St)) h (fun p4 h => ?_) (fun J4 L4 hL4 h => ?_)
      · refine tl fun L hL => u0 (Zu Z Z Z Z Z) <| mv Z ?_;refine rt (hL _ (hL2 _ _ h (Z9.nm [3, 6, 7, 8] [((3, 1000), (3, 1000))] Z (by kernel_rfl))))
      · refine QE <| tk fun L hL => mv Z ?_;obtain ⟨v5, hv5, h⟩ := h;refine u0 (Qq hv5 Z Z Z Z Z Z Z Z) <| u0 (QQ Z Z Z Z Z Z Z) <| u1 (Kc Z Z Z) <| QD Z Z <| un (Zq Z Z Z Z Z Z Z Z Z) <| rt (hL _ ?_);refine tk fun L hL => u0 (Q1 Z Z Z Z Z Z Z Z Z) <| u0 (Q2 Z Z Z Z Z Z) <| rt (hL _ ?_);refine ZZ Z h (fun h => ?_) fun h => ?_
        · refine tl fun L hL => mv Z <| mv Z <| ul (Yp (rows := List.map (eI .i64) [s2.2]) Z Z Z Z Z Z Z Z Z Z Z Z Z) ?_;obtain ⟨hm6, h⟩ := h;refine ul (Zi (f := (eI .i64)) (L := s2.1) (L' := [s2.2]) hm6 Z Z Z Z Z Z Z Z Z Z Z (Vw KQ Z Z Z Z Z Z)) <| QD Z Z ?_;refine rt (hL _ (hL4 _ _ h (Z9.nm [3, 6, 7, 8] [((18, 0), (3, 1000))] Z (by kernel_rfl))))
        · refine Qv (hL4 _ _ h (Z9.nm [3, 6, 7, 8] [((3, 1000), (3, 1000))] Z (by kernel_rfl)))
    · refine Zv (hL1 _ _ h (Z9.nm [3] [((3, 1000), (3, 1000))] Z (by kernel_rfl)))
def V2 (a0 : (List Q4)) (a1 : Int) (Q : ((List Q4) × Int) → Prop) : Prop :=
 ((((bif decide (a1 < 0) then true else decide (a1 ≥ ((a0.length : Int))))) = true → Q (([] : (List Q4)), 5)) ∧ (((bif decide (a1 < 0) then true else decide (a1 ≥ ((a0.length : Int))))) = false → ∃ v3, ix a0 a1 v3 ∧ (((!(v3.fa5)) = true → Q (([] : (List Q4)), 13)) ∧ ((!(v3.fa5)) = false → ∃ v4, Zx a0 v4 ∧ ∃ v5, ix v4 a1 v5 ∧ Q ((List.set (List.set (List.set (List.set v4 (Int.toNat a1) ((Q4.mk false v5.fOp v5.fj v5.f0 v5.f3 v5.fa9))) (Int.toNat a1) ((Q4.mk false (Qs.mk 0 ByteArray.empty ByteArray.empty (([] : (List ByteArray))) (Qe.mk 0 0 0 0) (([] : (List Qt))) (([] : (List Int))) 0 0 0 0 0 0 (QI.mk 0 ByteArray.empty 0 0 0) (([] : (List Int)))) v5.fj v5.f0 v5.f3 v5.fa9))) (Int.toNat a1) ((Q4.mk false (Qs.mk 0 ByteArray.empty ByteArray.empty (([] : (List ByteArray))) (Qe.mk 0 0 0 0) (([] : (List Qt))) (([] : (List Int))) 0 0 0 0 0 0 (QI.mk 0 ByteArray.empty 0 0 0) (([] : (List Int)))) (Qn.mk 0 0 false (([] : (List Int))) 0 (Qd.mk (Qe.mk 0 0 0 0) (QA.mk 0 0 false) (Qb.mk 0 0 0 (([] : (List Int))) false) (Qh.mk 0 0 (([] : (List Int)))) (Qu.mk 0 0 (([] : (List Q5))) false) (Qc.mk 0 0 0 (([] : (List Q5))) false) (Qk.mk 0 0 0 (([] : (List (List ByteArray)))) false)) (Qd.mk (Qe.mk 0 0 0 0) (QA.mk 0 0 false) (Qb.mk 0 0 0 (([] : (List Int))) false) (Qh.mk 0 0 (([] : (List Int)))) (Qu.mk 0 0 (([] : (List Q5))) false) (Qc.mk 0 0 0 (([] : (List Q5))) false) (Qk.mk 0 0 0 (([] : (List (List ByteArray)))) false)) 0 0 0 0 (QS.mk 0 0) (([] : (List Int))) false) v5.f0 v5.f3 v5.fa9))) (Int.toNat a1) ((Q4.mk false (Qs.mk 0 ByteArray.empty ByteArray.empty (([] : (List ByteArray))) (Qe.mk 0 0 0 0) (([] : (List Qt))) (([] : (List Int))) 0 0 0 0 0 0 (QI.mk 0 ByteArray.empty 0 0 0) (([] : (List Int)))) (Qn.mk 0 0 false (([] : (List Int))) 0 (Qd.mk (Qe.mk 0 0 0 0) (QA.mk 0 0 false) (Qb.mk 0 0 0 (([] : (List Int))) false) (Qh.mk 0 0 (([] : (List Int)))) (Qu.mk 0 0 (([] : (List Q5))) false) (Qc.mk 0 0 0 (([] : (List Q5))) false) (Qk.mk 0 0 0 (([] : (List (List ByteArray)))) false)) (Qd.mk (Qe.mk 0 0 0 0) (QA.mk 0 0 false) (Qb.mk 0 0 0 (([] : (List Int))) false) (Qh.mk 0 0 (([] : (List Int)))) (Qu.mk 0 0 (([] : (List Q5))) false) (Qc.mk 0 0 0 (([] : (List Q5))) false) (Qk.mk 0 0 0 (([] : (List (List ByteArray)))) false)) 0 0 0 0 (QS.mk 0 0) (([] : (List Int))) false) 0 v5.f3 v5.fa9))), 0)))))
def Ku (a0 : (List Q4)) (a1 : Int) (r : (List Q4) × Int) : Prop := V2 a0 a1 fun x => r = x
theorem YR (a0 : (List Q4)) (a1 : Int) (r : (List Q4) × Int) (h : Ku a0 a1 r) : Qz Try.prog 14 [.c (.l 97 (List.map Qj a0)), .c (.v (.int .i64 a1))] [.c (.own 97 (List.map Qj r.1)), .c (.p (.v (.int .i64 r.2)))] [] := by
  refine Qx tb Try.func14 Z (by kernel_rfl) Z Z (Nat.le_of_ble_eq_true Z) Z ?_;intro E;unfold Ku V2 at h;refine ZN (fun Q hQ => ?_);refine tk fun L hL => QD Z Z <| QD Z Z <| rt (hL _ ?_);refine sk fun L1 hL1 => tk fun L hL => mv Z <| u0 (Q9 (c := decide (a1 < 0)) Z Z Z Z Z) <| mv Z <| Q3 Z Z Q7 (fun hg => Qa Z Z) <| Q3 Z Z Q7 (fun hg => Qa Z Z) <| Q3 Z Z Q7 (fun hg => Qw (Q8 hg) Z Z Z) <| Q3 Z Z Q7 (fun hg => Q9 (c := decide (a1 ≥ ((a0.length : Int)))) (Q8 hg) (Q8 hg) Z Z Z) <| u0 (Qp (v := .bool true) (w := .bool (decide (a1 ≥ ((a0.length : Int))))) Z Z Q7 Z QB Z Z Z) <| rt (hL _ ?_);refine ZZ Z h (fun h => ?_) fun h => ?_
  · refine tk fun L hL => QD Z Z <| QD Z Z <| rt (hL _ ?_);obtain rfl := h;exact Qm (hQ _ _ (Dg Z Z Z Z))
  · refine Qv (hL1 _ ?_);refine ZI (st' := ⟨[(0, .c (.p (.l 97 (List.map Qj a0)))), (1, .c (.p (.v (.int .i64 a1))))], []⟩) (Z9.nm [0, 1] [] Z Z) ?_;refine sk fun L2 hL2 => tk fun L hL => mv Z <| mv Z ?_;obtain ⟨v3, hv3, h⟩ := h;refine u0 (Qq hv3 Z Z Z Z Z Z Z Z) <| u0 (QF Z Z Z Z Z Z Z Z) <| u0 (Qo Z Z Z Z Z) <| u0 (ZE Z Z Z) <| rt (hL _ ?_);refine ZZ Z h (fun h => ?_) fun h => ?_
    · refine tk fun L hL => QD Z Z <| QD Z Z <| rt (hL _ ?_);obtain rfl := h;exact Qm (hQ _ _ (Dg Z Z Z Z))
    · refine Qv (hL2 _ ?_);refine tk fun L hL => mv Z ?_;obtain ⟨v4, hv4, h⟩ := h;refine ul (QK (Va _ _ hv4) Z Z (.cons (.c (.p _)) .nil) Z Z Z) <| QD Z Z <| rt (hL _ ?_);refine tk fun L hL => mv Z <| mv Z ?_;obtain ⟨v5, hv5, h⟩ := h;refine u0 (ZS hv5 Z Z Z Z Z Z Z Z Z Z) <| QD Z Z <| rt (hL _ ?_);refine tk fun L hL => mv Z <| mv Z <| mv Z <| mv Z <| u0 (ZJ Z Z Z Z Z Z Z) <| u0 (ZJ Z Z Z Z Z Z Z) <| u0 (ZQ Z Z Z) <| u0 (Q1 Z Z Z Z Z Z Z Z Z) <| un (Jc (x1 := (Q4.mk false v5.fOp v5.fj v5.f0 v5.f3 v5.fa9)) hv5.2 Z Z Z Z Z Z Z Z Z Z Z) <| u0 (ZQ Z Z Z) <| u0 (Q1 Z Z Z Z Z Z Z Z Z) <| un (ZO (x1 := (Q4.mk false (Qs.mk 0 ByteArray.empty ByteArray.empty (([] : (List ByteArray))) (Qe.mk 0 0 0 0) (([] : (List Qt))) (([] : (List Int))) 0 0 0 0 0 0 (QI.mk 0 ByteArray.empty 0 0 0) (([] : (List Int)))) v5.fj v5.f0 v5.f3 v5.fa9)) (KP hv5.2) Z Z Z Z (.c (.c (.c (.cons (.nil _) (.c (.c (.c (.c (.cons (.nil _) (.cons (.nil _) (.c (.c (.c (.c (.c (.c (.c (.c (.c (.c (.c (.cons (.nil _) .nil)))))))))))))))))))))) Z Z Z Z Z Z) <| u0 (ZQ Z Z Z) <| u0 (Q1 Z Z Z Z Z Z Z Z Z) <| un (ZO (x1 := (Q4.mk false (Qs.mk 0 ByteArray.empty ByteArray.empty (([] : (List ByteArray))) (Qe.mk 0 0 0 0) (([] : (List Qt))) (([] : (List Int))) 0 0 0 0 0 0 (QI.mk 0 ByteArray.empty 0 0 0) (([] : (List Int)))) (Qn.mk 0 0 false (([] : (List Int))) 0 (Qd.mk (Qe.mk 0 0 0 0) (QA.mk 0 0 false) (Qb.mk 0 0 0 (([] : (List Int))) false) (Qh.mk 0 0 (([] : (List Int)))) (Qu.mk 0 0 (([] : (List Q5))) false) (Qc.mk 0 0 0 (([] : (List Q5))) false) (Qk.mk 0 0 0 (([] : (List (List ByteArray)))) false)) (Qd.mk (Qe.mk 0 0 0 0) (QA.mk 0 0 false) (Qb.mk 0 0 0 (([] : (List Int))) false) (Qh.mk 0 0 (([] : (List Int)))) (Qu.mk 0 0 (([] : (List Q5))) false) (Qc.mk 0 0 0 (([] : (List Q5))) false) (Qk.mk 0 0 0 (([] : (List (List ByteArray)))) false)) 0 0 0 0 (QS.mk 0 0) (([] : (List Int))) false) v5.f0 v5.f3 v5.fa9)) (KP (KP hv5.2)) Z Z Z Z (.c (.c (.c (.cons (.nil _) (.c (.c (.c (.c (.c (.c (.c (.c (.c (.c (.c (.cons (.nil _) (.c (.c (.c (.cons (.nil _) (.c (.c (.cons (.nil _) (.c (.c (.c (.c (.cons (.nil _) (.c (.c (.c (.c (.cons (.nil _) (.c (.c (.c (.c (.c (.c (.c (.c (.c (.c (.c (.cons (.nil _) (.c (.c (.c (.cons (.nil _) (.c (.c (.cons (.nil _) (.c (.c (.c (.c (.cons (.nil _) (.c (.c (.c (.c (.cons (.nil _) (.c (.c (.c (.c (.c (.c (.c (.cons (.nil _) (.c .nil))))))))))))))))))))))))))))))))))))))))))))))))))))))))))))))))))))))) Z Z Z Z Z Z) ?_
      refine u0 (ZQ Z Z Z) <| u0 (Q1 Z Z Z Z Z Z Z Z Z) <| un (Jc (x1 := (Q4.mk false (Qs.mk 0 ByteArray.empty ByteArray.empty (([] : (List ByteArray))) (Qe.mk 0 0 0 0) (([] : (List Qt))) (([] : (List Int))) 0 0 0 0 0 0 (QI.mk 0 ByteArray.empty 0 0 0) (([] : (List Int)))) (Qn.mk 0 0 false (([] : (List Int))) 0 (Qd.mk (Qe.mk 0 0 0 0) (QA.mk 0 0 false) (Qb.mk 0 0 0 (([] : (List Int))) false) (Qh.mk 0 0 (([] : (List Int)))) (Qu.mk 0 0 (([] : (List Q5))) false) (Qc.mk 0 0 0 (([] : (List Q5))) false) (Qk.mk 0 0 0 (([] : (List (List ByteArray)))) false)) (Qd.mk (Qe.mk 0 0 0 0) (QA.mk 0 0 false) (Qb.mk 0 0 0 (([] : (List Int))) false) (Qh.mk 0 0 (([] : (List Int)))) (Qu.mk 0 0 (([] : (List Q5))) false) (Qc.mk 0 0 0 (([] : (List Q5))) false) (Qk.mk 0 0 0 (([] : (List (List ByteArray)))) false)) 0 0 0 0 (QS.mk 0 0) (([] : (List Int))) false) 0 v5.f3 v5.fa9)) (KP (KP (KP hv5.2))) Z Z Z Z Z Z Z Z Z Z Z) <| rt (hL _ ?_)
      refine tk fun L hL => mv Z <| QD Z Z <| QD Z Z <| rt (hL _ ?_);obtain rfl := h;exact Qm (hQ _ _ ⟨.inr Z, _, _, _, (.cons (.s Z) (.cons (.p Z) .nil)), (.cons (.c (.own Z (by simp))) (.cons (.c (.p _)) .nil)), Z, Z⟩)
def Vi  (Q : Bool → Prop) : Prop :=
 ∃ v1, Zr 2 v1 ∧ ∃ v2, Zd v1.1 1 (Qs.mk 4 ByteArray.empty ByteArray.empty ([] : (List ByteArray)) (Qe.mk 0 0 0 0) ([] : (List Qt)) ([] : (List Int)) 0 0 0 0 0 0 (QI.mk 0 ByteArray.empty 0 0 0) ([] : (List Int))) 7 v2 ∧ ∃ v3, Zd v2.1 1 (Qs.mk 4 ByteArray.empty ByteArray.empty ([] : (List ByteArray)) (Qe.mk 0 0 0 0) ([] : (List Qt)) ([] : (List Int)) 0 0 0 0 0 0 (QI.mk 0 ByteArray.empty 0 0 0) ([] : (List Int))) 8 v3 ∧ ∃ v4, ZM v2.1 v4 ∧ ∃ v5, Ku v2.1 1 v5 ∧ ∃ (v6 : Int), (((bif (bif (bif (bif (v1.2 == 0) then (v2.2 == 0) else false) then (v3.2 == 12) else false) then (v5.2 == 0) else false) then (((v4.length : Int)) == 1) else false)) = true → ix v4 0 v6) ∧ ∃ (v7 : Q4), (((bif (bif (bif (bif (bif (bif (v1.2 == 0) then (v2.2 == 0) else false) then (v3.2 == 12) else false) then (v5.2 == 0) else false) then (((v4.length : Int)) == 1) else false) then (v6 == 1) else false) then (((v5.1.length : Int)) == 2) else false)) = true → ix v5.1 1 v7) ∧ ∃ (v8 : Q4), (((bif (bif (bif (bif (bif (bif (bif (bif (v1.2 == 0) then (v2.2 == 0) else false) then (v3.2 == 12) else false) then (v5.2 == 0) else false) then (((v4.length : Int)) == 1) else false) then (v6 == 1) else false) then (((v5.1.length : Int)) == 2) else false) then !(v7.fa5) else false) then (((v2.1.length : Int)) == 2) else false)) = true → ix v2.1 1 v8) ∧ Q (((bif (bif (bif (bif (bif (bif (bif (bif (bif (v1.2 == 0) then (v2.2 == 0) else false) then (v3.2 == 12) else false) then (v5.2 == 0) else false) then (((v4.length : Int)) == 1) else false) then (v6 == 1) else false) then (((v5.1.length : Int)) == 2) else false) then !(v7.fa5) else false) then (((v2.1.length : Int)) == 2) else false) then (v8.f0 == 7) else false)))
def KO  (r : Bool) : Prop := Vi  fun x => r = x
theorem W4  (r : Bool) (h : KO  r) : Qz Try.prog 7 [] [.c (.p (.v (.bool r)))] [] := by
  refine Qx tb Try.func7 Z (by kernel_rfl) Z Z (Nat.le_of_ble_eq_true Z) Z ?_;intro E;unfold KO Vi at h;refine ZN (fun Q hQ => ?_);refine tk fun L hL => QD Z Z <| rt (hL _ ?_);refine tk fun L hL => ?_;obtain ⟨v1, hv1, h⟩ := h;refine ul (QK (JX _ _ hv1) Z Z (.cons (.c (.p _)) .nil) Z Z Z) <| u0 (Kn Z Z) <| u0 (QN Z Z Z) <| u0 (QN Z Z Z) <| QD Z Z <| QD Z Z <| rt (hL _ ?_);refine tk fun L hL => mv Z <| u0 (ZJ Z Z Z Z Z Z Z) ?_;obtain ⟨v2, hv2, h⟩ := h;refine ul (QK (Vq _ _ _ _ _ hv2) Z Z (.cons (.c (.fr Z (QO Z))) (.cons (.c (.p _)) (.cons (.agg (.pp (.pp (.pp (.cons (.nil _) (.pp (.pp (.pp (.pp (.cons (.nil _) (.cons (.nil _) (.pp (.pp (.pp (.pp (.pp (.pp (.pp (.pp (.pp (.pp (.pp (.cons (.nil _) .nil))))))))))))))))))))))) (.cons (.c (.p _)) .nil)))) Z Z Z) <| u0 (Kn Z Z) <| u0 (QN Z Z Z) <| u0 (QN Z Z Z) <| QD Z Z <| QD Z Z <| rt (hL _ ?_);refine tk fun L hL => mv Z <| u0 (ZJ Z Z Z Z Z Z Z) ?_;obtain ⟨v3, hv3, h⟩ := h;refine ul (QK (Vq _ _ _ _ _ hv3) Z Z (.cons (.c (.fr Z (QO Z))) (.cons (.c (.p _)) (.cons (.agg (.pp (.pp (.pp (.cons (.nil _) (.pp (.pp (.pp (.pp (.cons (.nil _) (.cons (.nil _) (.pp (.pp (.pp (.pp (.pp (.pp (.pp (.pp (.pp (.pp (.pp (.cons (.nil _) .nil))))))))))))))))))))))) (.cons (.c (.p _)) .nil)))) Z Z Z) <| u0 (Kn Z Z) <| u0 (QN Z Z Z) <| u0 (QN Z Z Z) <| QD Z Z <| QD Z Z <| rt (hL _ ?_)
  refine tk fun L hL => mv Z ?_;obtain ⟨v4, hv4, h⟩ := h;refine ul (Y1 (Xu _ _ hv4) (CY (W2.cons (.o (Cb nl_eI)) W2.nil)) Z Z (.cons (.c (.fr Z (QO Z))) .nil) Z Z Z) <| QD Z Z <| rt (hL _ ?_);refine tk fun L hL => mv Z ?_;obtain ⟨v5, hv5, h⟩ := h;refine ul (QK (YR _ _ _ hv5) Z Z (.cons (.c (.fr Z (QO Z))) (.cons (.c (.p _)) .nil)) Z Z Z) <| u0 (Kn Z Z) <| u0 (QN Z Z Z) <| u0 (QN Z Z Z) <| QD Z Z <| QD Z Z <| rt (hL _ ?_);refine tk fun L hL => mv Z <| u0 (Q9 (c := (v1.2 == 0)) Z Z Z Z Z) <| mv Z <| Q3 Z Z Q6 (fun hg => Qa Z Z) <| Q3 Z Z Q6 (fun hg => Q9 (c := (v2.2 == 0)) (Q8 hg) Z Z Z Z) <| u0 (Qg (v := .bool ((v2.2 == 0))) (w := .bool false) Z Z Q6 Z QB Z Z Z) <| mv Z <| Q3 Z Z Q6 (fun hg => Qa Z Z) <| Q3 Z Z Q6 (fun hg => Q9 (c := (v3.2 == 12)) (Q8 hg) Z Z Z Z) <| u0 (Qg (v := .bool ((v3.2 == 12))) (w := .bool false) Z Z Q6 Z QB Z Z Z) <| mv Z <| Q3 Z Z Q6 (fun hg => Qa Z Z) <| Q3 Z Z Q6 (fun hg => Q9 (c := (v5.2 == 0)) (Q8 hg) Z Z Z Z) <| u0 (Qg (v := .bool ((v5.2 == 0))) (w := .bool false) Z Z Q6 Z QB Z Z Z) <| mv Z <| Q3 Z Z Q6 (fun hg => Qa Z Z) <| Q3 Z Z Q6 (fun hg => JB (Q8 hg) Z Z Z Z Z) <| Q3 Z Z Q6 (fun hg => Q9 (c := (((v4.length : Int)) == 1)) (Q8 hg) Z Z Z Z) <| u0 (Qg (v := .bool ((((v4.length : Int)) == 1))) (w := .bool false) Z Z Q6 Z QB Z Z Z) <| mv Z <| Q3 Z Z Q6 (fun hg => Qa Z Z) ?_
  obtain ⟨v6, hv6, h⟩ := h;refine Q3 Z Z Q6 (fun hg => ZS (hv6 hg) (Q8 hg) Z Z Z Z Z Z Z Z Z) <| Q3 Z Z Q6 (fun hg => KR (Q8 hg) Z (gm (hv6 hg).2) Z Z Z Z) <| Q3 Z Z Q6 (fun hg => Q9 (c := (v6 == 1)) (Q8 hg) Z Z Z Z) <| u0 (Qg (v := .bool ((v6 == 1))) (w := .bool false) Z Z Q6 Z QB Z Z Z) <| mv Z <| Q3 Z Z Q6 (fun hg => Qa Z Z) <| Q3 Z Z Q6 (fun hg => JB (Q8 hg) Z Z Z Z Z) <| Q3 Z Z Q6 (fun hg => Q9 (c := (((v5.1.length : Int)) == 2)) (Q8 hg) Z Z Z Z) <| u0 (Qg (v := .bool ((((v5.1.length : Int)) == 2))) (w := .bool false) Z Z Q6 Z QB Z Z Z) <| mv Z <| Q3 Z Z Q6 (fun hg => Qa Z Z) ?_;obtain ⟨v7, hv7, h⟩ := h;refine Q3 Z Z Q6 (fun hg => ZS (hv7 hg) (Q8 hg) Z Z Z Z Z Z Z Z Z) <| Q3 Z Z Q6 (fun hg => Q1 (Q8 hg) Z Z Z Z Z Z Z Z) <| Q3 Z Z Q6 (fun hg => KR (Q8 hg) Z (gm (hv7 hg).2) Z Z Z Z) <| Q3 Z Z Q6 (fun hg => ZE (Q8 hg) Z Z) <| u0 (Qg (v := .bool (!(v7.fa5))) (w := .bool false) Z Z Q6 Z QB Z Z Z) <| mv Z <| Q3 Z Z Q6 (fun hg => Qa Z Z) <| Q3 Z Z Q6 (fun hg => JB (Q8 hg) Z Z Z Z Z) <| Q3 Z Z Q6 (fun hg => Q9 (c := (((v2.1.length : Int)) == 2)) (Q8 hg) Z Z Z Z) <| u0 (Qg (v := .bool ((((v2.1.length : Int)) == 2))) (w := .bool false) Z Z Q6 Z QB Z Z Z) <| mv Z <| Q3 Z Z Q6 (fun hg => Qa Z Z) ?_
  obtain ⟨v8, hv8, h⟩ := h;refine Q3 Z Z Q6 (fun hg => ZS (hv8 hg) (Q8 hg) Z Z Z Z Z Z Z Z Z) <| Q3 Z Z Q6 (fun hg => Q1 (Q8 hg) Z Z Z Z Z Z Z Z) <| Q3 Z Z Q6 (fun hg => KR (Q8 hg) Z (gm (hv8 hg).2) Z Z Z Z) <| Q3 Z Z Q6 (fun hg => Q9 (c := (v8.f0 == 7)) (Q8 hg) Z Z Z Z) <| u0 (Qg (v := .bool ((v8.f0 == 7))) (w := .bool false) Z Z Q6 Z QB Z Z Z) <| QD Z Z <| rt (hL _ ?_);refine ZI (st' := ⟨[(0, .c (.p (.v (.bool ((bif (bif (bif (bif (bif (bif (bif (bif (bif (v1.2 == 0) then (v2.2 == 0) else false) then (v3.2 == 12) else false) then (v5.2 == 0) else false) then (((v4.length : Int)) == 1) else false) then (v6 == 1) else false) then (((v5.1.length : Int)) == 2) else false) then !(v7.fa5) else false) then (((v2.1.length : Int)) == 2) else false) then (v8.f0 == 7) else false))))))], []⟩) (Z9.nm [0] [] Z Z) ?_;obtain rfl := h;exact Qm (hQ _ _ (K8 Z Z))
def KG (a0 : Int) (a1 : Int) (Q : Bool → Prop) : Prop :=
 ∃ v1, Zr a0 v1 ∧ ∃ v2, Zf a0 v2 ∧ ∃ v3, Zr (IntKind.i64.wrap ((Bp .i64 a1 127) - 2)) v3 ∧ ∃ v4, Zf (IntKind.i64.wrap ((Bp .i64 a1 127) - 2)) v4 ∧ ∃ (v5 : Bool), (((v1.2 == v2.2)) = true → Zb v1.1 v2.1 v5) ∧ ∃ (v6 : Bool), (((bif (bif (v1.2 == v2.2) then v5 else false) then (v3.2 == v4.2) else false)) = true → Zb v3.1 v4.1 v6) ∧ ∃ (v7 : Bool), (((bif (bif (bif (v1.2 == v2.2) then v5 else false) then (v3.2 == v4.2) else false) then v6 else false)) = true → KO  v7) ∧ Q (((bif (bif (bif (bif (v1.2 == v2.2) then v5 else false) then (v3.2 == v4.2) else false) then v6 else false) then v7 else false)))
def K0 (a0 : Int) (a1 : Int) (r : Bool) : Prop := KG a0 a1 fun x => r = x
theorem Xe (a0 : Int) (a1 : Int) (r : Bool) (h : K0 a0 a1 r) : Qz Try.prog 3 [.c (.v (.int .i64 a0)), .c (.v (.int .i64 a1))] [.c (.p (.v (.bool r)))] [] := by
  refine Qx tb Try.func3 Z (by kernel_rfl) Z Z (Nat.le_of_ble_eq_true Z) Z ?_;intro E;unfold K0 KG at h;refine ZN (fun Q hQ => ?_);refine tk fun L hL => QD Z Z <| rt (hL _ ?_);refine tk fun L hL => mv Z ?_;obtain ⟨v1, hv1, h⟩ := h;refine ul (QK (JX _ _ hv1) Z Z (.cons (.c (.p _)) .nil) Z Z Z) <| u0 (Kn Z Z) <| u0 (QN Z Z Z) <| u0 (QN Z Z Z) <| QD Z Z <| QD Z Z <| rt (hL _ ?_);refine tk fun L hL => mv Z ?_;obtain ⟨v2, hv2, h⟩ := h;refine ul (QK (JI _ _ hv2) Z Z (.cons (.c (.p _)) .nil) Z Z Z) <| u0 (Kn Z Z) <| u0 (QN Z Z Z) <| u0 (QN Z Z Z) <| QD Z Z <| QD Z Z <| rt (hL _ ?_);refine tk fun L hL => mv Z <| u0 (X0 (z := .int .i64 (Bp .i64 a1 127)) Z Z Z Z Z) <| u0 (A5 Z Z Z Z Z) ?_;obtain ⟨v3, hv3, h⟩ := h;refine ul (QK (JX _ _ hv3) Z Z (.cons (.c (.p _)) .nil) Z Z Z) <| u0 (Kn Z Z) <| u0 (QN Z Z Z) <| u0 (QN Z Z Z) <| QD Z Z <| QD Z Z <| rt (hL _ ?_);refine tk fun L hL => mv Z <| u0 (X0 (z := .int .i64 (Bp .i64 a1 127)) Z Z Z Z Z) <| u0 (A5 Z Z Z Z Z) ?_;obtain ⟨v4, hv4, h⟩ := h
  refine ul (QK (JI _ _ hv4) Z Z (.cons (.c (.p _)) .nil) Z Z Z) <| u0 (Kn Z Z) <| u0 (QN Z Z Z) <| u0 (QN Z Z Z) <| QD Z Z <| QD Z Z <| rt (hL _ ?_);refine tk fun L hL => mv Z <| mv Z <| u0 (Q9 (c := (v1.2 == v2.2)) Z Z Z Z Z) <| mv Z <| Q3 Z Z Q6 (fun hg => Qa Z Z) <| Q3 Z Z Q6 (fun hg => Qa Z Z) ?_;obtain ⟨v5, hv5, h⟩ := h;refine Q3 Z Z Q6 (fun hg => Y1 (JC _ _ _ (hv5 hg)) (CY (W2.cons (.p Z) W2.nil)) Z Z (.cons (Zh hg (.c (.fr Z (QO Z)))) (.cons (Zh hg (.c (.fr Z (QO Z)))) .nil)) Z Z Z) <| u0 (Qg (v := .bool v5) (w := .bool false) Z Z Q6 Z QB Z Z Z) <| mv Z <| Q3 Z Z Q6 (fun hg => Qa Z Z) <| Q3 Z Z Q6 (fun hg => Qa Z Z) <| Q3 Z Z Q6 (fun hg => Q9 (c := (v3.2 == v4.2)) (Q8 hg) (Q8 hg) Z Z Z) <| u0 (Qg (v := .bool ((v3.2 == v4.2))) (w := .bool false) Z Z Q6 Z QB Z Z Z) <| mv Z <| Q3 Z Z Q6 (fun hg => Qa Z Z) <| Q3 Z Z Q6 (fun hg => Qa Z Z) ?_;obtain ⟨v6, hv6, h⟩ := h;refine Q3 Z Z Q6 (fun hg => Y1 (JC _ _ _ (hv6 hg)) (CY (W2.cons (.p Z) W2.nil)) Z Z (.cons (Zh hg (.c (.fr Z (QO Z)))) (.cons (Zh hg (.c (.fr Z (QO Z)))) .nil)) Z Z Z) <| u0 (Qg (v := .bool v6) (w := .bool false) Z Z Q6 Z QB Z Z Z) <| mv Z ?_
  obtain ⟨v7, hv7, h⟩ := h;refine Q3 Z Z Q6 (fun hg => Qy (W4  _ (hv7 hg)) Z Z .nil Z Z Z) <| u0 (Qg (v := .bool v7) (w := .bool false) Z Z Q6 Z QB Z Z Z) <| QD Z Z <| rt (hL _ ?_);refine ZI (st' := ⟨[(4, .c (.p (.v (.bool ((bif (bif (bif (bif (v1.2 == v2.2) then v5 else false) then (v3.2 == v4.2) else false) then v6 else false) then v7 else false))))))], []⟩) (Z9.nm [4] [] Z Z) ?_;obtain rfl := h;exact Qm (hQ _ _ (K8 Z Z))
end Go.Proofs.Ytknonlnggohkoaa

namespace Go.Proofs.Ytknonlnggohkoaa
open Go.RowKit
theorem XQ {a b : Bool} : (bif a then b else false) = (a && b) := by cases a <;> rfl
theorem Vz {a b : Bool} : (bif a then true else b) = (a || b) := by cases a <;> rfl
theorem Yq {n lo hi : Int} {r : Bool} : Z8 n lo hi r ↔ r = wI n lo hi := by
  unfold Z8 JG wI; by_cases h : lo ≤ n <;> simp [h]
theorem W5 {c : Int} {r : Bool} : Ki c r ↔ r = wI c 97 122 := by
  unfold Ki Ve wI; by_cases h : (97 : Int) ≤ c <;> simp [h]
theorem W6 {c : Int} {r : Bool} : KL c r ↔ r = wI c 48 57 := by
  unfold KL Vf wI; by_cases h : (48 : Int) ≤ c <;> simp [h]
theorem KH {n lo hi : Int} {r : Int} : QH n lo hi r ↔ r = if lo ≤ n ∧ n ≤ hi then 0 else 5 := by
  unfold QH KE
  by_cases h : n < lo
  · simp [h]; rw [if_neg (by omega)]
  · by_cases h2 : n > hi
    · simp [h, h2]; rw [if_neg (by omega)]
    · simp [h, h2]; rw [if_pos (by omega)]
theorem Cj {s : ByteArray} : (decide (1 ≤ (s.size : Int)) && decide ((s.size : Int) ≤ 32)) = decide (1 ≤ s.size ∧ s.size ≤ 32) := by
  rw [Bool.decide_and]; congr 1 <;> exact decide_eq_decide.2 (by omega)
theorem Xo {s : ByteArray} {r : Bool} : Kj s r ↔ r = decide (1 ≤ s.size ∧ s.size ≤ 32) := by
  unfold Kj Vg; rw [XQ, ← Cj]
def W7 (k s d z : Int) : Int :=
  if k = 1 then (if s ≠ 0 ∨ d ≠ 0 ∨ z ≠ 0 then 10 else 0)
  else if k = 2 then (if ¬ (1 ≤ d ∧ d ≤ 8 ∧ 1 ≤ s ∧ s ≤ 64) then 5 else 0)
  else if k = 3 then (if ¬ (2 ≤ s ∧ s ≤ 8) then 5 else if d ≠ 0 then 10 else 0)
  else if k = 4 ∨ k = 5 then (if ¬ (1 ≤ s ∧ s ≤ 32) then 5 else if d ≠ 0 ∨ z ≠ 0 then 10 else 0)
  else if k = 6 then (if ¬ (2 ≤ s ∧ s ≤ 32 ∧ s % 2 = 0) then 5 else if d ≠ 0 ∨ z ≠ 0 then 10 else 0)
  else 8
theorem Vr (p : Qe) : Zc p (W7 p.fo p.fi p.fv p.fu) := by
  unfold Zc K3
  simp only [jn, Yq, exists_eq_left, XQ, Vz]
  obtain ⟨k, s, d, z⟩ := p
  simp only
  by_cases h1 : k = 1
  · subst h1; by_cases hs : s = 0 <;> by_cases hd : d = 0 <;> by_cases hz : z = 0 <;> simp [W7, hs, hd, hz]
  by_cases h2 : k = 2
  · subst h2
    by_cases hd : wI d 1 8 = true <;> by_cases hs : wI s 1 64 = true <;> simp [W7, hs, hd] <;> simp [wI] at hs hd <;> omega
  by_cases h3 : k = 3
  · subst h3
    by_cases hd : d = 0 <;> by_cases hs : wI s 2 8 = true <;> simp [W7, hs, hd] <;> simp [wI] at hs hd <;> omega
  by_cases h4 : k = 4 ∨ k = 5
  · have hk : (k == 4 || k == 5) = true := by simpa using h4
    by_cases hd : d = 0 <;> by_cases hz : z = 0 <;> by_cases hs : wI s 1 32 = true <;> rcases h4 with rfl | rfl <;> simp [W7, hs, hd, hz] <;> simp [wI] at hs hd <;> omega
  by_cases h6 : k = 6
  · subst h6
    by_cases hs : wI s 2 32 = true
    · have hs' : 2 ≤ s ∧ s ≤ 32 := by simpa [wI] using hs
      have ht : s.tmod 2 = s % 2 := Int.tmod_eq_emod_of_nonneg (by omega)
      by_cases hm : s % 2 = 0 <;> by_cases hd : d = 0 <;> by_cases hz : z = 0 <;> simp [W7, hs, hd, hz, ht, hm, hs']
    · have hs' : ¬ (2 ≤ s ∧ s ≤ 32) := by simpa [wI] using hs
      simp [W7, hs]; omega
  · have h4' : ¬ k = 4 ∧ ¬ k = 5 := by omega
    simp [W7, h1, h2, h3, h4'.1, h4'.2, h6]
def BG (k : Int) (key : ByteArray) (c n d : Int) : Int :=
  if ¬ (1 ≤ k ∧ k ≤ 7) then 8
  else if (k = 2 ∨ k = 6) ∧ ¬ (1 ≤ key.size ∧ key.size ≤ 32) then 7
  else if k = 5 ∧ ¬ (0 ≤ c ∧ c ≤ 32) then 5
  else if k = 7 ∧ ¬ (1 ≤ d ∧ d ≤ 1000000 ∧ 0 ≤ n ∧ n ≤ d) then 5
  else if (¬ (k = 2 ∨ k = 6) ∧ key.toList ≠ []) ∨ (k ≠ 5 ∧ c ≠ 0) ∨ (k ≠ 7 ∧ (n ≠ 0 ∨ d ≠ 0)) then 18 else 0
theorem YS : (⟨#[]⟩ : ByteArray).toList = [] := by unfold ByteArray.toList; unfold ByteArray.toList.loop; simp [ByteArray.size]
theorem Y9 (q : QI) : K4 q (BG q.fo q.fb4 q.fx q.fc3 q.fb8) := by
  unfold K4 Jt
  simp only [jn, Xo, XQ, Vz, YS]
  obtain ⟨k, s, c, n, d⟩ := q
  simp only
  by_cases hk : 1 ≤ k ∧ k ≤ 7
  · have h7 : k = 1 ∨ k = 2 ∨ k = 3 ∨ k = 4 ∨ k = 5 ∨ k = 6 ∨ k = 7 := by omega
    clear hk; unfold BG
    generalize s.toList = l
    rcases h7 with rfl | rfl | rfl | rfl | rfl | rfl | rfl
    all_goals simp
    all_goals grind
  · have h1 : k < 1 ∨ k > 7 := by omega
    simp [BG, hk, h1]
theorem UU (n : Nat) (hn : n ≤ 4611686018427387904) {B : (Int → Prop) → Int → Prop} {J : Prop} (I : Nat → Prop) (h0 : I 0)
    (hB : ∀ j, j < n → I j → ∀ X : Int → Prop, (I (j + 1) → X (IntKind.i64.wrap ((j : Int) + 1))) → B X (j : Int)) (hJ : I n → J) :
    lp (fun X s => (decide (s < (n : Int)) = true → B X s) ∧ (decide (s < (n : Int)) = false → J)) 0 := by
  refine XH (I := fun k s => ∃ j : Nat, s = (j : Int) ∧ j ≤ n ∧ k = n - j ∧ I j) ?_ (k := n) ⟨0, rfl, by omega, by omega, h0⟩
  rintro k s ⟨j, rfl, hj, hk, hI⟩ X hX
  refine ⟨fun h => ?_, fun h => ?_⟩
  · have hj2 : (j : Int) < n := by simpa using h
    refine hB j (by omega) hI X fun hI2 => ?_
    rw [Um (by omega)]
    exact hX (n - (j + 1)) _ (by omega) ⟨j + 1, by omega, by omega, rfl, hI2⟩
  · have hj2 : ¬ (j : Int) < n := by simpa using h
    have : j = n := by omega
    subst this; exact hJ hI
def Ut (s : ByteArray) (j : Nat) : Int := if h : j < s.size then (s[j].toNat : Int) else 0
theorem BH {s : ByteArray} {j : Nat} (h : j < s.size) : bx s (j : Int) (Ut s j) := bx_of rfl h (by simp [Ut, h])
def Dj (c : Int) : Bool := wI c 97 122 || wI c 48 57 || c == 45 || c == 46
def BQ (s : ByteArray) : Bool := decide (1 ≤ s.size ∧ s.size ≤ 16) && wI (Ut s 0) 97 122 && (List.range s.size).all fun j => Dj (Ut s j)
theorem Ck {s : ByteArray} (h1 : 1 ≤ s.size ∧ s.size ≤ 16) (h2 : wI (Ut s 0) 97 122 = true) (h : ∀ i, i < s.size → Dj (Ut s i) = true) : BQ s = true := by
  simp only [BQ, h1, h2]; simpa using h
theorem Cl {s : ByteArray} {i : Nat} (hi : i < s.size) (h : Dj (Ut s i) = false) : BQ s = false := by
  have : ((List.range s.size).all fun j => Dj (Ut s j)) = false := by
    rw [List.all_eq_false]; exact ⟨i, by simpa using hi, by simp [h]⟩
  simp [BQ, this]
theorem YT (s : ByteArray) : Kr s (BQ s) := by
  unfold Kr V0
  simp only [W5, W6, XQ, Vz, jn, exists_eq_left]
  by_cases hz : 1 ≤ s.size ∧ s.size ≤ 16
  · have h1 : decide ((s.size : Int) < 1) = false := by simp; omega
    have h2 : decide ((s.size : Int) > 16) = false := by simp; omega
    rw [h1, h2]
    refine ⟨Ut s 0, fun _ => BH (j := 0) (by omega), wI (Ut s 0) 97 122, fun _ => rfl, ?_, ?_⟩
    · intro h; simp at h; simp [BQ, h]
    · intro h
      have h3 : wI (Ut s 0) 97 122 = true := by simpa using h
      refine UU s.size (by omega) (fun j => ∀ i, i < j → Dj (Ut s i) = true) (fun i hi => absurd hi (by omega)) ?_ ?_
      · intro j hj hI X hX
        refine ⟨Ut s j, BH hj, wI (Ut s j) 48 57, fun _ => rfl, ?_, ?_⟩
        · intro hb; refine Cl hj ?_; simp at hb; simp [Dj, hb]
        · intro hb; refine hX fun i hi => ?_
          by_cases e : i = j
          · subst e; unfold Dj; revert hb; cases wI (Ut s i) 97 122 <;> cases wI (Ut s i) 48 57 <;> simp <;> grind
          · exact hI i (by omega)
      · intro hI; exact Ck hz h3 hI
  · refine ⟨0, ?_, false, ?_, ?_, ?_⟩
    · intro h; simp at h; omega
    · intro h; simp at h; omega
    · intro h; simp [BQ, hz]
    · intro h; simp at h
theorem Jv (s : ByteArray) : ZG s (if BQ s = true then 0 else 6) := by
  refine ⟨BQ s, YT s, ?_, ?_⟩ <;> intro h <;> simp at h <;> simp [h]
def Cm (x : Qt) : Int := if ¬ (1 ≤ x.fb4.size ∧ x.fb4.size ≤ 32) then 7 else if ¬ (1 ≤ x.fb7 ∧ x.fb7 ≤ 4294967295) then 5 else 0
theorem VW (x : Qt) : Zs x (Cm x) := by
  unfold Zs Ks Cm
  simp only [Xo, XQ, Vz, exists_eq_left]
  by_cases h : 1 ≤ x.fb4.size ∧ x.fb4.size ≤ 32 <;> simp [h]; grind
def Ya {α : Type} (f : α → Int) : List α → Int
  | [] => 0
  | x :: r => if f x ≠ 0 then f x else Ya f r
theorem BI {α : Type} {f : α → Int} {l : List α} (h : ∀ (j : Nat) x, l[j]? = some x → f x = 0) : Ya f l = 0 := by
  induction l with
  | nil => rfl
  | cons x r ih => simp [Ya, h 0 x rfl]; exact ih fun j x hx => h (j + 1) x (by simpa using hx)
theorem Am {α : Type} {f : α → Int} {l : List α} {j : Nat} {x : α} (hx : l[j]? = some x) (hn : f x ≠ 0) (h : ∀ i, i < j → ∀ y, l[i]? = some y → f y = 0) : Ya f l = f x := by
  induction l generalizing j with
  | nil => simp at hx
  | cons z r ih =>
    cases j with
    | zero => simp at hx; subst hx; simp [Ya, hn]
    | succ j =>
      simp [Ya, h 0 (by omega) z rfl]
      exact ih (by simpa using hx) fun i hi y hy => h (i + 1) (by omega) y (by simpa using hy)
theorem An {α : Type} {l : List α} (hl : l.length ≤ 4611686018427387904) {B : (Int → Prop) → Int → Prop} {J : Prop} {f : α → Int}
    (hB : ∀ (j : Nat) x, l[j]? = some x → (∀ i, i < j → ∀ y, l[i]? = some y → f y = 0) → ∀ X : Int → Prop, (f x = 0 → X (IntKind.i64.wrap ((j : Int) + 1))) → B X (j : Int)) (hJ : Ya f l = 0 → J) :
    lp (fun X s => (decide (s < (l.length : Int)) = true → B X s) ∧ (decide (s < (l.length : Int)) = false → J)) 0 := by
  refine UU l.length hl (fun j => ∀ i, i < j → ∀ y, l[i]? = some y → f y = 0) (fun i hi => absurd hi (by omega)) ?_ ?_
  · intro j hj hI X hX
    obtain ⟨x, hx⟩ : ∃ x, l[j]? = some x := ⟨l[j], by simp [hj]⟩
    refine hB j x hx hI X fun h0 => hX fun i hi y hy => ?_
    by_cases e : i = j
    · subst e; rw [hx] at hy; cases hy; exact h0
    · exact hI i (by omega) y hy
  · intro hI
    refine hJ (BI fun j x hx => hI j ?_ x hx)
    rw [List.getElem?_eq_some_iff] at hx; exact hx.1
def Cn (s : ByteArray) : Int := if BQ s = true then 0 else 6
def nlE (l : List ByteArray) : Int := if ¬ (1 ≤ l.length ∧ l.length ≤ 16) then 5 else Ya Cn l
def ilE (l : List Qt) : Int := if ¬ (1 ≤ l.length ∧ l.length ≤ 64) then 5 else Ya Cm l
theorem Yb (l : List ByteArray) : K2 l (nlE l) := by
  unfold K2 Js
  simp only [KH, exists_eq_left, jn]
  by_cases hz : 1 ≤ l.length ∧ l.length ≤ 16
  · have e : ((1 : Int) ≤ l.length ∧ (l.length : Int) ≤ 16) := by omega
    rw [if_pos e]
    refine ⟨fun h => by simp at h, fun _ => ?_⟩
    refine An (f := Cn) (by omega) ?_ ?_
    · intro j x hx hb X hX
      refine ⟨x, Cy rfl hx, Cn x, Jv x, fun h => ?_, fun h => hX (by simpa using h)⟩
      have hn : Cn x ≠ 0 := by simpa using h
      simp only [nlE, hz, not_true, and_self, if_false]; exact Am hx hn hb
    · intro h; simp [nlE, hz, h]
  · have e : ¬ ((1 : Int) ≤ l.length ∧ (l.length : Int) ≤ 16) := by omega
    rw [if_neg e]
    exact ⟨fun _ => by simp [nlE, hz], fun h => by simp at h⟩
theorem XR (l : List Qt) : ZT l (ilE l) := by
  unfold ZT Jf
  simp only [KH, exists_eq_left, jn]
  by_cases hz : 1 ≤ l.length ∧ l.length ≤ 64
  · have e : ((1 : Int) ≤ l.length ∧ (l.length : Int) ≤ 64) := by omega
    rw [if_pos e]
    refine ⟨fun h => by simp at h, fun _ => ?_⟩
    refine An (f := Cm) (by omega) ?_ ?_
    · intro j x hx hb X hX
      refine ⟨x, Cy rfl hx, Cm x, VW x, fun h => ?_, fun h => hX (by simpa using h)⟩
      have hn : Cm x ≠ 0 := by simpa using h
      simp only [ilE, hz, not_true, and_self, if_false]; exact Am hx hn hb
    · intro h; simp [ilE, hz, h]
  · have e : ¬ ((1 : Int) ≤ l.length ∧ (l.length : Int) ≤ 64) := by omega
    rw [if_neg e]
    exact ⟨fun _ => by simp [ilE, hz], fun h => by simp at h⟩
end Go.Proofs.Ytknonlnggohkoaa
namespace Go.Proofs.Ytknonlnggohkoaa
open Go.RowKit Go.ChangeShapes Go.WideShapes
theorem VA (n : Nat) (hn : n ≤ 4611686018427387904) {B : (Int → Prop) → Int → Prop} {J : Prop} (hB : ∀ j : Nat, j < n → ∀ X : Int → Prop, X (IntKind.i64.wrap ((j : Int) + 1)) → B X (j : Int)) (hJ : J) :
    lp (fun X s => (decide (s < (n : Int)) = true → B X s) ∧ (decide (s < (n : Int)) = false → J)) 0 :=
  UU n hn (fun _ => True) trivial (fun j hj _ X hX => hB j hj X (hX trivial)) (fun _ => hJ)
theorem Z2 {α : Type} {l : List α} {j : Nat} (h : j < l.length) : ix l (j : Int) l[j] := ⟨by omega, by simp [h]⟩
theorem VF (l : List Int) (hl : l.length ≤ 4611686018427387904) : ZP l l true := by
  unfold ZP JF
  simp only [jn]
  refine ⟨fun h => by simp at h, fun _ => ?_⟩
  exact VA l.length hl (fun j hj X hX => ⟨_, Z2 hj, _, Z2 hj, fun h => by simp at h, fun _ => hX⟩) trivial
theorem V3 (l : List Q5) (hl : l.length ≤ 4611686018427387904) : Zm l l true := by
  unfold Zm KU
  simp only [jn]
  refine ⟨fun h => by simp at h, fun _ => ?_⟩
  exact VA l.length hl (fun j hj X hX => ⟨_, Z2 hj, _, Z2 hj, fun h => by simp at h, fun _ => hX⟩) trivial
theorem Yc (k : Qk) (hl : k.f5.length ≤ 4611686018427387904) (hs : ∀ x ∈ k.f5, x.length ≤ 4611686018427387904) : K1 k k true := by
  unfold K1 Jq
  simp only [jn]
  refine ⟨fun h => by simp at h, fun _ => ?_⟩
  refine VA k.f5.length hl (fun j hj X hX => ⟨_, Z2 hj, _, Z2 hj, fun h => by simp at h, fun _ => ?_⟩) trivial
  have hx := hs k.f5[j] (List.getElem_mem hj)
  refine XH (I := fun n s => ∃ i : Nat, s = (i : Int) ∧ i ≤ k.f5[j].length ∧ n = k.f5[j].length - i) ?_ (k := k.f5[j].length) ⟨0, rfl, by omega, by omega⟩
  rintro n s ⟨i, rfl, hi, hn⟩ Y hY
  refine ⟨_, Z2 hj, fun h => ?_, fun h => hX⟩
  have hi2 : i < k.f5[j].length := by simpa using h
  refine ⟨_, Z2 hj, _, Z2 hi2, _, Z2 hj, _, Z2 hi2, fun h => by simp at h, fun _ => ?_⟩
  rw [Um (by omega)]
  exact hY (k.f5[j].length - (i + 1)) _ (by omega) ⟨i + 1, by simp, by omega, rfl⟩
def SmK (k : Qd) : Prop := k.fg.fc1.length ≤ 100000 ∧ k.fw.fa3.length ≤ 100000 ∧ k.fa2.f6.length ≤ 100000 ∧ k.fh.f6.length ≤ 100000 ∧ k.fm.f5.length ≤ 100000 ∧ ∀ x ∈ k.fm.f5, x.length ≤ 100000
theorem XS (k : Qd) (h : SmK k) : Kw k k true := by
  obtain ⟨h1, h2, h3, h4, h5, h6⟩ := h
  unfold Kw Vy
  refine ⟨true, fun _ => ?_, true, fun _ => ?_, true, fun _ => ?_, true, fun _ => ?_, true, fun _ => Yc _ (by omega) (fun x hx => by have := h6 x hx; omega), by simp⟩
  · exact ⟨true, fun _ => VF _ (by omega), by simp⟩
  · exact ⟨true, fun _ => VF _ (by omega), by simp⟩
  · exact ⟨true, fun _ => V3 _ (by omega), by simp⟩
  · exact ⟨true, fun _ => V3 _ (by omega), by simp⟩
def W8 (n lo hi : Int) : Int := if lo ≤ n ∧ n ≤ hi then 0 else 5
def UV (n m : Int) : Int := if n > m then 11 else 0
def Up (x : Qs) (f : Nat) : Int :=
  match f with
  | 0 => Cn x.fb2
  | 1 => Cn x.ff
  | 2 => nlE x.f9
  | 3 => W7 x.fb.fo x.fb.fi x.fb.fv x.fb.fu
  | 4 => ilE x.fy
  | 5 => UV x.fb3.length 64
  | 6 => W8 x.fa0 1 1048576
  | 7 => W8 x.fa4 1 1048576
  | 8 => W8 x.f7 0 3
  | 9 => W8 x.fb1 0 15
  | 10 => W8 x.f8 0 3
  | 11 => W8 x.fx 0 32
  | 12 => BG x.fq.fo x.fq.fb4 x.fq.fx x.fq.fc3 x.fq.fb8
  | _ => UV x.fb0.length 65536
theorem Zg (n lo hi : Int) : QH n lo hi (W8 n lo hi) := KH.2 rfl
theorem Vb (l : List Int) (m : Int) : Zw l m (UV l.length m) := by
  unfold Zw Jg UV
  by_cases h : (l.length : Int) > m <;> simp [h]
theorem XT (x : Qs) {f : Nat} (hf : f < 14) : ZU x (f : Int) (Up x f) := by
  unfold ZU Jh
  rcases CB hf with rfl | rfl | rfl | rfl | rfl | rfl | rfl | rfl | rfl | rfl | rfl | rfl | rfl | rfl
  · simp; exact Jv x.fb2
  · simp; exact Jv x.ff
  · simp; exact Yb x.f9
  · simp; exact Vr x.fb
  · simp; exact XR x.fy
  · simp; exact Vb x.fb3 64
  · simp; exact Zg x.fa0 1 1048576
  · simp; exact Zg x.fa4 1 1048576
  · simp; exact Zg x.f7 0 3
  · simp; exact Zg x.fb1 0 15
  · simp; exact Zg x.f8 0 3
  · simp; exact Zg x.fx 0 32
  · simp; exact Y9 x.fq
  · simp; exact Vb x.fb0 65536
theorem Ao {α : Type} {f : α → Int} (h : ∀ x, 0 ≤ f x ∧ f x ≤ 18) (l : List α) : 0 ≤ Ya f l ∧ Ya f l ≤ 18 := by
  induction l with
  | nil => simp [Ya]
  | cons a r ih => (unfold Ya; split; exact h a; exact ih)
theorem Co (x : Qs) (f : Nat) : 0 ≤ Up x f ∧ Up x f ≤ 18 := by
  have hn : ∀ s, 0 ≤ Cn s ∧ Cn s ≤ 18 := by intro s; unfold Cn; split <;> decide
  have hi : ∀ s, 0 ≤ Cm s ∧ Cm s ≤ 18 := by
      intro s; unfold Cm; repeat' split
      all_goals decide
  have hs : ∀ n m, 0 ≤ UV n m ∧ UV n m ≤ 18 := by intro n m; unfold UV; split <;> decide
  have hr : ∀ n a b, 0 ≤ W8 n a b ∧ W8 n a b ≤ 18 := by intro n a b; unfold W8; split <;> decide
  have hl := Ao hn
  have hl2 := Ao hi
  unfold Up
  split
  · exact hn _
  · exact hn _
  · unfold nlE; (split; decide; exact hl _)
  · unfold W7; repeat' split
    all_goals decide
  · unfold ilE; (split; decide; exact hl2 _)
  · exact hs _ _
  · exact hr _ _ _
  · exact hr _ _ _
  · exact hr _ _ _
  · exact hr _ _ _
  · exact hr _ _ _
  · exact hr _ _ _
  · unfold BG; repeat' split
    all_goals decide
  · exact hs _ _
theorem Dk {L : List Int} (h : ∀ e ∈ L, 0 ≤ e ∧ e ≤ 18) : 0 ≤ WO L ∧ WO L ≤ 18 := by
  induction L with
  | nil => simp [WO]
  | cons a r ih => (unfold WO; split; exact h a (by simp); exact ih fun e he => h e (by simp [he]))
def AK (x : Qs) : Int := UT (Us x) (Up x)
theorem Cp (x : Qs) : 0 ≤ AK x ∧ AK x ≤ 18 := by
  have h : 0 ≤ WO (XP (Us x).kind (Up x)) ∧ WO (XP (Us x).kind (Up x)) ≤ 18 := by
    refine Dk fun e he => ?_
    unfold XP at he
    obtain ⟨f, _, rfl⟩ := List.mem_map.1 he
    (split; exact Co _ _; decide)
  unfold AK UT
  split
  · decide
  · split
    · exact h
    · split <;> decide
theorem JD (x : Qs) : Kt x (AK x) := by
  refine ⟨?_, Up x, fun f hf _ => XT x hf, rfl⟩
  have h := Cp x
  simp [Lit.wf, IntKind.min, IntKind.max, IntKind.signed, IntKind.bits]; omega
theorem UW (l : List ByteArray) (h : l.length ≤ 1000000) : QJ l l := ⟨fun e => e, by simp only [List.length_nil]; omega, rfl⟩
theorem Dl (l : List (List ByteArray)) (h : l.length ≤ 1000000) : Z4 l l := ⟨fun e => e, by simp only [List.length_nil]; omega, rfl⟩
theorem Dm (l : List Qt) (h : l.length ≤ 1000000) : QZ l l := ⟨fun e => e, by simp only [List.length_nil]; omega, rfl⟩
theorem UX (l : List Int) (h : l.length ≤ 1000000) : QV l l := ⟨fun e => e, by simp only [List.length_nil]; omega, rfl⟩
theorem BJ (l : List Int) (h : l.length ≤ 1000000) : Z3 l l := ⟨fun e => e, by simp only [List.length_nil]; omega, rfl⟩
theorem CC (l : List Q5) (h : l.length ≤ 1000000) : QL l l := ⟨fun e => e, by simp only [List.length_nil]; omega, rfl⟩
theorem Dn (l : List Qf) (h : l.length ≤ 1000000) : QM l l := ⟨fun e => e, by simp only [List.length_nil]; omega, rfl⟩
theorem q_cur (l : List Qr) (h : l.length ≤ 1000000) : QT l l := ⟨fun e => e, by simp only [List.length_nil]; omega, rfl⟩
def SmO (o : Qs) : Prop := o.f9.length ≤ 1000000 ∧ o.fy.length ≤ 1000000 ∧ o.fb3.length ≤ 1000000 ∧ o.fb0.length ≤ 1000000
theorem YU (o : Qs) (h : SmO o) : ZC o o :=
  ⟨_, UW _ h.1, _, Dm _ h.2.1, _, UX _ h.2.2.1, _, UX _ h.2.2.2, rfl⟩
theorem Uq {α : Type} {l : List α} {i : Nat} (h : i < l.length) : List.set l (Int.toNat (i : Int)) l[i] = l := by
  rw [Int.toNat_natCast]; exact List.set_getElem_self h
theorem VX (k : Qd) (h : SmK k) : Z0 k k := by
  obtain ⟨h1, h2, h3, h4, h5, h6⟩ := h
  unfold Z0 K7
  simp only [jn]
  refine ⟨_, BJ _ (by omega), _, BJ _ (by omega), _, CC _ (by omega), _, CC _ (by omega), _, Dl _ (by omega), ?_⟩
  refine XH (I := fun n t => ∃ i : Nat, i ≤ k.fm.f5.length ∧ n = k.fm.f5.length - i ∧ t = (k.fm.f5, (i : Int), k.fg.fc1, k.fw.fa3, k.fa2.f6, k.fh.f6)) ?_ (k := k.fm.f5.length) ⟨0, by omega, rfl, rfl⟩
  rintro n t ⟨i, hi, hn, rfl⟩ X hX
  refine ⟨fun c => ?_, fun c => rfl⟩
  have hi2 : i < k.fm.f5.length := by simpa using c
  have hx := h6 k.fm.f5[i] (List.getElem_mem hi2)
  refine ⟨_, Z2 hi2, _, UW _ (by omega), _, Z2 hi2, ?_⟩
  refine hX (k.fm.f5.length - (i + 1)) _ (by omega) ⟨i + 1, by omega, rfl, ?_⟩
  simp only
  rw [Uq hi2, Um (by omega)]; rfl
def SmM (m : Qn) : Prop := m.fa8.length ≤ 1000000 ∧ m.fb0.length ≤ 1000000 ∧ SmK m.fc ∧ SmK m.ff
theorem Yr (m : Qn) (h : SmM m) : Zo m m :=
  ⟨_, BJ _ h.1, _, UX _ h.2.1, _, VX _ h.2.2.1, _, VX _ h.2.2.2, rfl⟩
def CE (s : Q4) : Prop := SmO s.fOp ∧ SmM s.fj ∧ s.f3.length ≤ 1000000 ∧ s.fa9.length ≤ 1000000 ∧ ∀ x ∈ s.f3, x.f9.length ≤ 1000000
theorem Ur (l : List Q4) (hl : l.length ≤ 1000000) (hs : ∀ s ∈ l, CE s) : Zx l l := by
  unfold Zx Jk
  simp only [jn]
  refine XH (I := fun k s => ∃ j : Nat, j ≤ l.length ∧ k = l.length - j ∧ s = (l.take j, (j : Int))) ?_ (k := l.length) ⟨0, by omega, rfl, rfl⟩
  rintro k s ⟨j, hj, hk, rfl⟩ X hX
  refine ⟨fun c => ?_, fun c => ?_⟩
  · have hj2 : j < l.length := by simpa using c
    obtain ⟨s, hs1⟩ : ∃ s, l[j] = s := ⟨_, rfl⟩
    have hix : ix l (j : Int) s := hs1 ▸ Z2 hj2
    obtain ⟨b1, b2, b3, b4, b5⟩ := hs s (hs1 ▸ List.getElem_mem hj2)
    refine ⟨s, hix, _, YU _ b1, _, Yr _ b2, _, Dn _ b3, _, q_cur _ b4, ?_⟩
    refine XH (I := fun n t => ∃ i : Nat, i ≤ s.f3.length ∧ n = s.f3.length - i ∧ t = (l.take j, s.f3, (i : Int), s.fOp.f9, s.fOp.fy, s.fOp.fb3, s.fOp.fb0, s.fj.fa8, s.fj.fc.fg.fc1, s.fj.fc.fw.fa3, s.fj.fc.fa2.f6, s.fj.fc.fh.f6, s.fj.fc.fm.f5, s.fj.ff.fg.fc1, s.fj.ff.fw.fa3, s.fj.ff.fa2.f6, s.fj.ff.fh.f6, s.fj.ff.fm.f5, s.fj.fb0, s.fa9)) ?_ (k := s.f3.length) ⟨0, by omega, rfl, rfl⟩
    rintro n t ⟨i, hi, hn, rfl⟩ Y hY
    refine ⟨fun c2 => ?_, fun c2 => ⟨?_, ?_⟩⟩
    · have hi2 : i < s.f3.length := by simpa using c2
      have hx := b5 s.f3[i] (List.getElem_mem hi2)
      refine ⟨_, Z2 hi2, _, UW _ hx, _, Z2 hi2, ?_⟩
      refine hY (s.f3.length - (i + 1)) _ (by omega) ⟨i + 1, by omega, rfl, ?_⟩
      have e := Uq hi2
      have e2 : List.set s.f3 (Int.toNat (i : Int)) ⟨s.f3[i].fb9, s.f3[i].fa6, s.f3[i].f9⟩ = s.f3 := e
      simp only
      rw [e2, Um (by omega)]; rfl
    · simp only [List.length_take, List.length_cons, List.length_nil]; omega
    · refine hX (l.length - (j + 1)) _ (by omega) ⟨j + 1, by omega, rfl, ?_⟩
      rw [Um (by omega), List.take_succ_eq_append_getElem hj2, hs1]; rfl
  · have hj2 : j = l.length := by simp at c; omega
    subst hj2
    simp
theorem WM (x : Qs) (h1 : x.f9.length ≤ 4611686018427387904) (h2 : x.fy.length ≤ 4611686018427387904) : Jd x x true := by
  unfold Jd Vx
  simp only [jn]
  refine ⟨fun c => by simp at c, fun _ => ?_⟩
  exact VA x.f9.length h1 (fun j hj X hX => ⟨_, Z2 hj, _, Z2 hj, fun h => by simp at h, fun _ => hX⟩)
    (VA x.fy.length h2 (fun j hj X hX => ⟨_, Z2 hj, _, Z2 hj, fun h => by simp at h, fun _ => hX⟩) trivial)
theorem Xf (m : Qn) (h : SmM m) : ZA m m true := by
  have h1 := h.1
  unfold ZA KB
  simp only [jn]
  refine ⟨fun c => by simp at c, fun _ => ?_⟩
  exact VA m.fa8.length (by omega) (fun j hj X hX => ⟨_, Z2 hj, _, Z2 hj, fun h => by simp at h, fun _ => hX⟩)
    ⟨true, fun _ => XS _ h.2.2.1, true, fun _ => XS _ h.2.2.2, by simp⟩
theorem Xg (l : List Qr) (h : l.length ≤ 1000000) : ZB l l true := by
  unfold ZB KC
  simp only [jn]
  refine ⟨fun c => by simp at c, fun _ => ?_⟩
  exact VA l.length (by omega) (fun j hj X hX => ⟨_, Z2 hj, _, Z2 hj, fun h => by simp at h, fun _ => hX⟩) trivial
theorem VK (l : List Qf) (h : l.length ≤ 1000000) (hs : ∀ x ∈ l, x.f9.length ≤ 1000000) : Zk l l true := by
  unfold Zk Kk
  simp only [jn]
  refine ⟨fun c => by simp at c, fun _ => ?_⟩
  refine VA l.length (by omega) (fun j hj X hX => ⟨_, Z2 hj, _, Z2 hj, _, fun _ => Z2 hj, _, fun _ => Z2 hj, _, fun _ => Z2 hj, _, fun _ => Z2 hj, fun h => by simp at h, fun _ => ?_⟩) trivial
  have hx := hs l[j] (List.getElem_mem hj)
  refine XH (I := fun n s => ∃ i : Nat, s = (i : Int) ∧ i ≤ l[j].f9.length ∧ n = l[j].f9.length - i) ?_ (k := l[j].f9.length) ⟨0, rfl, by omega, by omega⟩
  rintro n s ⟨i, rfl, hi, hn⟩ Y hY
  refine ⟨_, Z2 hj, fun h => ?_, fun h => hX⟩
  have hi2 : i < l[j].f9.length := by simpa using h
  refine ⟨_, Z2 hj, _, Z2 hi2, _, Z2 hj, _, Z2 hi2, fun h => by simp at h, fun _ => ?_⟩
  rw [Um (by omega)]
  exact hY (l[j].f9.length - (i + 1)) _ (by omega) ⟨i + 1, by simp, by omega, rfl⟩
theorem JE (l : List Q4) (h : l.length ≤ 1000000) (hs : ∀ s ∈ l, CE s) : Zb l l true := by
  unfold Zb Kq
  simp only [jn]
  refine ⟨fun c => by simp at c, fun _ => ?_⟩
  refine VA l.length (by omega) (fun j hj X hX => ?_) trivial
  obtain ⟨b1, b2, b3, b4, b5⟩ := hs l[j] (List.getElem_mem hj)
  have c1 := b1.1; have c2 := b1.2.1
  exact ⟨_, Z2 hj, _, Z2 hj, _, fun _ => Z2 hj, _, fun _ => Z2 hj, _, fun _ => Z2 hj, _, fun _ => Z2 hj, true, fun _ => WM _ (by omega) (by omega), _, fun _ => Z2 hj, _, fun _ => Z2 hj, true, fun _ => Xf _ b2, _, fun _ => Z2 hj, _, fun _ => Z2 hj, true, fun _ => VK _ b3 b5, _, fun _ => Z2 hj, _, fun _ => Z2 hj, true, fun _ => Xg _ b4, fun h => by simp at h, fun _ => hX⟩
def zM : Qn := (Qn.mk (0) (0) (false) ([] : (List Int)) (0) (Qd.mk (Qe.mk (0) (0) (0) (0)) (QA.mk (0) (0) (false)) (Qb.mk (0) (0) (0) ([] : (List Int)) (false)) (Qh.mk (0) (0) ([] : (List Int))) (Qu.mk (0) (0) ([] : (List Q5)) (false)) (Qc.mk (0) (0) (0) ([] : (List Q5)) (false)) (Qk.mk (0) (0) (0) ([] : (List (List ByteArray))) (false))) (Qd.mk (Qe.mk (0) (0) (0) (0)) (QA.mk (0) (0) (false)) (Qb.mk (0) (0) (0) ([] : (List Int)) (false)) (Qh.mk (0) (0) ([] : (List Int))) (Qu.mk (0) (0) ([] : (List Q5)) (false)) (Qc.mk (0) (0) (0) ([] : (List Q5)) (false)) (Qk.mk (0) (0) (0) ([] : (List (List ByteArray))) (false))) (0) (0) (0) (0) (QS.mk (0) (0)) ([] : (List Int)) (false))
def zO : Qs := (Qs.mk (0) (ByteArray.empty) (ByteArray.empty) ([] : (List ByteArray)) (Qe.mk (0) (0) (0) (0)) ([] : (List Qt)) ([] : (List Int)) (0) (0) (0) (0) (0) (0) (QI.mk (0) (ByteArray.empty) (0) (0) (0)) ([] : (List Int)))
def BR : Qs := (Qs.mk (4) (ByteArray.empty) (ByteArray.empty) ([] : (List ByteArray)) (Qe.mk (0) (0) (0) (0)) ([] : (List Qt)) ([] : (List Int)) (0) (0) (0) (0) (0) (0) (QI.mk (0) (ByteArray.empty) (0) (0) (0)) ([] : (List Int)))
def snp4 : List Qf := List.replicate (Int.toNat (4)) (Qf.mk (false) (0) ([] : (List ByteArray)))
def cur4 : List Qr := List.replicate (Int.toNat (4)) (Qr.mk (false) (0) (ByteArray.empty) (0))
def s0 : Q4 := ⟨false, zO, zM, 0, snp4, cur4⟩
def s1 : Q4 := ⟨true, BR, zM, 7, snp4, cur4⟩
theorem Ap : CE s0 := by
  refine ⟨⟨by decide, by decide, by decide, by decide⟩, ⟨by decide, by decide, ⟨by decide, by decide, by decide, by decide, by decide, fun x hx => by cases hx⟩, by decide, by decide, by decide, by decide, by decide, fun x hx => by cases hx⟩, by decide, by decide, fun x hx => ?_⟩
  have : x = Qf.mk (false) (0) ([] : (List ByteArray)) := List.eq_of_mem_replicate hx
  rw [this]; decide
theorem sm_s1 : CE s1 := by
  refine ⟨⟨by decide, by decide, by decide, by decide⟩, ⟨by decide, by decide, ⟨by decide, by decide, by decide, by decide, by decide, fun x hx => by cases hx⟩, by decide, by decide, by decide, by decide, by decide, fun x hx => by cases hx⟩, by decide, by decide, fun x hx => ?_⟩
  have : x = Qf.mk (false) (0) ([] : (List ByteArray)) := List.eq_of_mem_replicate hx
  rw [this]; decide
def WN (n : Int) : List Q4 × Int := if n < 1 ∨ n > 64 then ([], 5) else (List.replicate n.toNat s0, 0)
theorem V4 (n : Int) : Zr n (WN n) := by
  unfold Zr JW
  simp only [jn, Vz]
  refine ⟨fun c => ?_, fun c => ?_⟩
  · have h : n < 1 ∨ n > 64 := by simpa using c
    unfold WN; rw [if_pos h]
  have h : ¬ (n < 1 ∨ n > 64) := by simp at c; omega
  unfold WN; rw [if_neg h]
  refine XH (I := fun k s => ∃ j : Nat, (j : Int) ≤ n ∧ k = (n - j).toNat ∧ s = (List.replicate j s0, (j : Int))) ?_ (k := n.toNat) ⟨0, by omega, by simp, rfl⟩
  rintro k s ⟨j, hj, hk, rfl⟩ X hX
  refine ⟨fun c => ?_, fun c => ?_⟩
  · have hj2 : (j : Int) < n := by simpa using c
    refine ⟨by omega, by omega, by simp only [List.length_replicate, List.length_cons, List.length_nil]; omega, ?_⟩
    refine hX (n - ((j + 1 : Nat) : Int)).toNat _ (by omega) ⟨j + 1, by omega, rfl, ?_⟩
    rw [Um (by omega), List.replicate_succ']; rfl
  · have hj2 : (j : Int) = n := by simp at c; omega
    rw [← hj2]; simp
theorem JO (n : Int) : Zf n (WN n) := by
  unfold Zf Ky
  simp only [jn, Vz]
  refine ⟨fun c => ?_, fun c => ?_⟩
  · have h : n < 1 ∨ n > 64 := by simpa using c
    unfold WN; rw [if_pos h]
  have h : ¬ (n < 1 ∨ n > 64) := by simp at c; omega
  unfold WN; rw [if_neg h]
  refine XH (I := fun k s => ∃ j : Nat, (j : Int) ≤ n ∧ k = (n - j).toNat ∧ s = (List.replicate j s0, (j : Int))) ?_ (k := n.toNat) ⟨0, by omega, by simp, rfl⟩
  rintro k s ⟨j, hj, hk, rfl⟩ X hX
  refine ⟨fun c => ?_, fun c => ?_⟩
  · have hj2 : (j : Int) < n := by simpa using c
    refine ⟨by omega, by omega, by simp only [List.length_replicate, List.length_cons, List.length_nil]; omega, ?_⟩
    refine hX (n - ((j + 1 : Nat) : Int)).toNat _ (by omega) ⟨j + 1, by omega, rfl, ?_⟩
    rw [Um (by omega), List.replicate_succ']; rfl
  · have hj2 : (j : Int) = n := by simp at c; omega
    rw [← hj2]; simp
theorem Aq (n : Int) : (WN n).1.length ≤ 1000000 ∧ ∀ s ∈ (WN n).1, CE s := by
  unfold WN
  split
  · exact ⟨by simp, fun s hs => by cases hs⟩
  · refine ⟨?_, fun s hs => ?_⟩
    · simp only [List.length_replicate]; omega
    · rw [List.eq_of_mem_replicate hs]; exact Ap
theorem m4 (C : Nat → Int) : WO (XP 4 C) = 0 := rfl
theorem BK : AK BR = 0 := by
  have e : (ByteArray.empty).toList = [] := YS
  unfold AK UT
  rw [if_neg (by unfold JL Us BR; simp), if_neg (by show ¬ WO (XP 4 _) ≠ 0; rw [m4]; simp), if_pos]
  simp [List.range, List.range.loop, Cz, Us, BR, e]
theorem BL {a b : Q4} (ha : CE a) (hb : CE b) : ∀ s ∈ [a, b], CE s := by
  intro s hs
  simp only [List.mem_cons, List.not_mem_nil, or_false] at hs
  rcases hs with rfl | rfl
  · exact ha
  · exact hb
theorem Do : SmO BR := ⟨by decide, by decide, by decide, by decide⟩
theorem BM : Zd [s0, s0] 1 BR 7 ([s0, s1], 0) := by
  unfold Zd Kx
  simp only [Vz]
  refine ⟨fun c => by simp at c, fun _ => ⟨0, BK ▸ JD BR, fun c => by simp at c, fun _ => ⟨s0, ⟨by decide, rfl⟩, fun c => (by cases c), fun _ => ⟨[s0, s0], Ur _ (by decide) (BL Ap Ap), s0, ⟨by decide, rfl⟩, BR, YU _ Do, ?_⟩⟩⟩⟩
  rfl
theorem BN : Zd [s0, s1] 1 BR 8 ([], 12) := by
  unfold Zd Kx
  simp only [Vz]
  exact ⟨fun c => by simp at c, fun _ => ⟨0, BK ▸ JD BR, fun c => by simp at c, fun _ => ⟨s1, ⟨by decide, rfl⟩, fun _ => trivial, fun c => (by cases c)⟩⟩⟩
theorem Dp : ZM [s0, s1] [1] := by
  unfold ZM KV
  simp only [jn]
  refine XH (I := fun k s => (k = 2 ∧ s = ([], 0)) ∨ (k = 1 ∧ s = ([], 1)) ∨ (k = 0 ∧ s = ([1], 2))) ?_ (k := 2) (.inl ⟨rfl, rfl⟩)
  rintro k s (⟨rfl, rfl⟩ | ⟨rfl, rfl⟩ | ⟨rfl, rfl⟩) X hX
  · exact ⟨fun _ => ⟨s0, ⟨by decide, rfl⟩, fun c => (by cases c), fun _ => hX 1 _ (by omega) (.inr (.inl ⟨rfl, rfl⟩))⟩, fun c => by simp at c⟩
  · exact ⟨fun _ => ⟨s1, ⟨by decide, rfl⟩, fun _ => ⟨by decide, hX 0 _ (by omega) (.inr (.inr ⟨rfl, rfl⟩))⟩, fun c => (by cases c)⟩, fun c => by simp at c⟩
  · exact ⟨fun c => by simp at c, fun _ => rfl⟩
theorem Dq : Ku [s0, s1] 1 ([s0, s0], 0) := by
  unfold Ku V2
  simp only [Vz]
  refine ⟨fun c => by simp at c, fun _ => ⟨s1, ⟨by decide, rfl⟩, fun c => (by cases c), fun _ => ⟨[s0, s1], Ur _ (by decide) (BL Ap sm_s1), s1, ⟨by decide, rfl⟩, ?_⟩⟩⟩
  rfl
theorem W9 : KO true := by
  unfold KO Vi
  have hn : Zr 2 ([s0, s0], 0) := V4 2
  exact ⟨_, hn, _, BM, _, BN, _, Dp, _, Dq, 1, fun _ => ⟨by decide, rfl⟩, s0, fun _ => ⟨by decide, rfl⟩, s1, fun _ => ⟨by decide, rfl⟩, rfl⟩
theorem Xh (n m : Int) : K0 n m true := by
  unfold K0 KG
  have h1 := Aq n
  have h2 := Aq (IntKind.i64.wrap ((Bp .i64 m 127) - 2))
  exact ⟨_, V4 _, _, JO _, _, V4 _, _, JO _, true, fun _ => JE _ h1.1 h1.2, true, fun _ => JE _ h2.1 h2.2, true, fun _ => W9, by simp⟩
theorem SessionsNew_walk (a0 a1 : Int) (w : World) (h0 : (Lit.int .i64 a0).wf = true) (h1 : (Lit.int .i64 a1).wf = true) :
    Calls Try.prog 3 #[.int .i64 a0, .int .i64 a1] w fun e w' => e = .returned (.bool true) ∧ Below w.heap.size w w' := by
  refine (V7 (A := fun x => x < w.heap.size) (vs := #[.int .i64 a0, .int .i64 a1]) (g := 0) (q := 0) (Xe a0 a1 true (Xh a0 a1)) rfl (fun x h => h) ⟨.v _ h0, .v _ h1, trivial⟩).mono ?_
  rintro e w' ⟨rfl, hg⟩
  exact ⟨rfl, Yu hg⟩
end Go.Proofs.Ytknonlnggohkoaa
