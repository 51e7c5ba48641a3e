/- Parts of the proof, laid together. No condition. -/
import Derived.Test.YtmkhonigljegbaaK1
import Derived.ChangeKeysEq
import Derived.Laws.StructEq
import Derived.Laws.IdiomStrings
import Derived.Laws.MakeOwn
import Derived.ScopeJumps
import Derived.Lib.SliceRun
import Derived.MapKept
set_option linter.unusedVariables false
set_option linter.unusedSimpArgs false
namespace Go.Proofs.Ytmkhonigljegbaa
open Go.RowKit
def gt : Bool → TV → TV
  | true, t => t
  | false, _ => .tup []
theorem Q8 {g : Bool} {t : TV} (h : g = true) : gt g t = t := by subst h; rfl
theorem Q9 {b : Bool} : (b == true) = b := by cases b <;> rfl
theorem Q6 {b : Bool} : (b == false) = !b := by cases b <;> rfl
section
variable {E : En} {N : Nat} {P : Program} {T : Tb P} {ops : Array Oper} {o : Oper} {st : St} {r : List Oper} {acc : List (Fp × Ef)} {K : List (Fp × Ef) → St → Prop} {d : Nat} {ty : Nat} {pos : String} {af : Array Edge} {gd : Option (Nat × Bool)} {op : Op} {f : Fp} {t : TV} {fr : List (Nat × TV)} {H : List (QA × Option Bk)}
theorem Qc {j dj : Nat} {want b g g0 : Bool} (hj : (ops[j]?).bind (·.dst) = some dj) (hb : (⟨fr, H⟩ : St).g dj = gt g0 (.c (.p (.v (.bool b))))) (hg : (g0 && (b == want)) = g) (hop : g = true → K2 E N P ops ⟨some d, op, ty, pos, af, some (j, want)⟩ ⟨fr, H⟩ f ⟨t, []⟩)
    (h : V8 E N P ops r ((f, ⟨gt g t, []⟩) :: acc) ⟨(d, gt g t) :: fr, H⟩ K) : V8 E N P ops (⟨some d, op, ty, pos, af, some (j, want)⟩ :: r) acc ⟨fr, H⟩ K := by
  refine ⟨f, ⟨gt g t, []⟩, ?_, h⟩
  have hw : wn ops ⟨some d, op, ty, pos, af, some (j, want)⟩ ⟨fr, H⟩ = some g := by
    unfold wn
    simp only [hj, hb]
    subst hg
    cases g0
    · rfl
    · simp [gt]
  cases g with
  | true => exact .inl ⟨hw, hop rfl⟩
  | false => exact .inr ⟨hw, trivial, rfl⟩
theorem Q3 {j dj : Nat} {want b g : Bool} (hj : (ops[j]?).bind (·.dst) = some dj) (hb : (⟨fr, H⟩ : St).g dj = .c (.p (.v (.bool b)))) (hg : (b == want) = g) (hop : g = true → K2 E N P ops ⟨some d, op, ty, pos, af, some (j, want)⟩ ⟨fr, H⟩ f ⟨t, []⟩)
    (h : V8 E N P ops r ((f, ⟨gt g t, []⟩) :: acc) ⟨(d, gt g t) :: fr, H⟩ K) : V8 E N P ops (⟨some d, op, ty, pos, af, some (j, want)⟩ :: r) acc ⟨fr, H⟩ K := Qc (g0 := true) hj hb (by simpa using hg) hop h
theorem Qa {c x y : Operand} {b g : Bool} {v w : Value} {u : Value} (hv : st.ev c = .c (.p (.v (.bool b)))) (hx : st.ev x = gt g (.c (.p (.v v)))) (hg : (b == true) = g) (hy : st.ev y = .c (.p (.v w))) (hu : (bif b then v else w) = u) (hb : Zh c = true) (h1 : Zh x = true) (h2 : Zh y = true) :
    K2 E N P ops ⟨some d, .pick c x y, ty, pos, af, gd⟩ st ⟨[], []⟩ ⟨.c (.p (.v u)), []⟩ := by
  refine XJ hb h1 h2 hv ?_
  subst hg hu
  cases b
  · rw [if_neg (by simp)]; exact hy
  · rw [if_pos rfl]; exact hx
theorem Qb {c x y : Operand} {b g : Bool} {v w : Value} {u : Value} (hv : st.ev c = .c (.p (.v (.bool b)))) (hx : st.ev x = .c (.p (.v v))) (hg : (b == false) = g) (hy : st.ev y = gt g (.c (.p (.v w)))) (hu : (bif b then v else w) = u) (hb : Zh c = true) (h1 : Zh x = true) (h2 : Zh y = true) :
    K2 E N P ops ⟨some d, .pick c x y, ty, pos, af, gd⟩ st ⟨[], []⟩ ⟨.c (.p (.v u)), []⟩ := by
  refine XJ hb h1 h2 hv ?_
  subst hg hu
  cases b
  · rw [if_neg (by simp)]; exact hy
  · rw [if_pos rfl]; exact hx
theorem Qf {b x y : Bool} : (bif b then Value.bool x else Value.bool y) = .bool (bif b then x else y) := by cases b <;> rfl
end
def QG (st st' : St) : Prop := ∀ (E : En) (N : Nat) (cx : Cx) (a : Act) (w : World), K1 E N cx st a w → ∃ cx', K1 E N cx' st' a w
def jn {α : Type} (k : α → Prop) (m : (α → Prop) → Prop) : Prop := m k
def lp {σ : Type} (step : (σ → Prop) → σ → Prop) (s : σ) : Prop := ∀ X : σ → Prop, (∀ s, step X s → X s) → X s
def ix {α : Type} (l : List α) (n : Int) (x : α) : Prop := 0 ≤ n ∧ l[n.toNat]? = some x
def Uf (P : Program) (c : Code) (Q : Exit → Act → World → Prop) (a : Act) (w : World) : Prop :=
  ∀ (b : Frame) (kk : List Item) (cs : List Frame), ∃ e a' w', Q e a' w' ∧ Arrives P (lone (b.at a (.code c :: .inLoop c :: kk)) cs w) b kk cs e a' w'
theorem Ay {P : Program} {c : Code} {Q : Exit → Act → World → Prop} {a : Act} {w : World} (h : Uf P c Q a w) : (Code.loop c).wp P Q a w := by
  intro b kk cs
  obtain ⟨e, a', w', hq, harr⟩ := h b kk cs
  exact ⟨e, a', w', hq, .of_steps (.one step_loop) harr⟩
theorem Cl {P : Program} {c : Code} {Q : Exit → Act → World → Prop} {a : Act} {w : World} (h : c.wp P (Exit.then (Uf P c Q) Q) a w) : Uf P c Q a w := by
  intro b kk cs
  obtain ⟨e, a₁, w₁, hq, harr⟩ := h b (.inLoop c :: kk) cs
  cases e with
  | normal =>
    obtain ⟨e₂, a₂, w₂, hq₂, harr₂⟩ := hq b kk cs
    exact ⟨e₂, a₂, w₂, hq₂, .of_steps (Steps.trans harr (.one step_inLoop)) harr₂⟩
  | exit id => exact ⟨_, a₁, w₁, hq, .pass (x := .inLoop c) rfl (fun _ _ => .inl (by simp)) harr⟩
  | goto l => exact ⟨_, a₁, w₁, hq, .pass (x := .inLoop c) rfl (fun _ _ => .inl (by simp)) harr⟩
  | ret => exact ⟨_, a₁, w₁, hq, .pass (x := .inLoop c) rfl (fun _ _ => .inl (by simp)) harr⟩
  | panic ch => exact ⟨_, a₁, w₁, hq, .pass (x := .inLoop c) rfl (fun _ _ => .inl (by simp)) harr⟩
  | outgrown => exact ⟨_, a₁, w₁, hq, .pass (x := .inLoop c) rfl (fun _ _ => .inl (by simp)) harr⟩
section
variable {E : En} {N : Nat} {P : Program} {T : Tb P} {Q : Exit → St → Prop} {st st' st2 : St}
theorem QG.refl (st : St) : QG st st := fun _ _ cx _ _ h => ⟨cx, h⟩
theorem QG.trans (h : QG st st') (h2 : QG st' st2) : QG st st2 := fun E N cx a w hr => let ⟨cx', hr'⟩ := h E N cx a w hr; h2 E N cx' a w hr'
theorem QG.nm (ks : List Nat) (σ : List (QA × QA)) (h1 : okS σ = true) (h : st.norm ks σ = st') : QG st st' := fun E N cx a w hr => by subst h; exact hr.norm h1
theorem QF {c : Code} (h : QG st st') (h2 : AW E N P c Q st') : AW E N P c Q st := fun cx a w hr => let ⟨cx', hr'⟩ := h E N cx a w hr; h2 cx' a w hr'
def AL (E : En) (N : Nat) (P : Program) (c : Code) (Q : Exit → St → Prop) (st : St) : Prop :=
  ∀ cx a w, K1 E N cx st a w → Uf P c (fun e a' w' => ∃ st' cx', Q e st' ∧ K1 E N cx' st' a' w') a w
theorem Cm {c : Code} (h : AL E N P c Q st) : AW E N P (.loop c) Q st := fun cx a w hr => Ay (h cx a w hr)
theorem Cn {c : Code} (h : AW E N P c (WV Q (AL E N P c Q)) st) : AL E N P c Q st := by
  intro cx a w hr
  refine Cl (wp_mono (h cx a w hr) ?_)
  rintro e a' w' ⟨st', cx', h1, h2⟩
  cases e with
  | normal => exact h1 cx' a' w' h2
  | _ => exact ⟨st', cx', h1, h2⟩
theorem Ei {c : Code} (h : QG st st') (h2 : AL E N P c Q st') : AL E N P c Q st := fun cx a w hr => let ⟨cx', hr'⟩ := h E N cx a w hr; h2 cx' a w hr'
theorem ZK {σ : Type} {c : Code} {step : (σ → Prop) → σ → Prop} {s0 : σ} (S : σ → St) (h : lp step s0) (hs : QG st (S s0))
    (hb : ∀ (X : σ → Prop) (L : St → Prop), (∀ p st, X p → QG st (S p) → L st) → ∀ s, step X s → AW E N P c (WV Q L) (S s)) : AW E N P (.loop c) Q st :=
  Cm (h (fun s => ∀ st, QG st (S s) → AL E N P c Q st) (fun s hstep st hst => Ei hst (Cn (hb _ _ (fun p st hp hst => hp st hst) s hstep))) st hs)
theorem Zo {α : Type} {x y : Code} {k : α → Prop} {m : (α → Prop) → Prop} (S : α → St) (h : jn k m) (hk : ∀ p, k p → AW E N P y Q (S p))
    (hm : ∀ (J : α → Prop) (L : St → Prop), (∀ p st, J p → QG st (S p) → L st) → m J → AW E N P x (WV Q L) st) : AW E N P (.seq x y) Q st :=
  C8 (hm k _ (fun p st hp hst => QF hst (hk p hp)) h)
theorem Zx {c : Code} {Q0 : Exit → St → Prop} (h : ∀ Q : Exit → St → Prop, (∀ e st, Q0 e st → Q e st) → AW E N P c Q st) : AW E N P c Q0 st := h _ fun _ _ h => h
end
theorem Az (b b' : QA) (x : Option Bk) (fr : List (Nat × TV)) (H : List (QA × Option Bk)) : (⟨fr, (b, x) :: H⟩ : St).h b' = if b' = b then x else (⟨fr, H⟩ : St).h b' := by
  show (Vl ((b, x) :: H) b').getD none = _
  simp only [Vl]
  by_cases h : b' = b
  · subst h; rw [Z2.2 rfl, if_pos rfl]; rfl
  · have : KQ b b' = false := by
      cases hb : KQ b b' with
      | false => rfl
      | true => exact absurd (Z2.1 hb).symm h
    rw [this, if_neg h]; rfl
theorem Ej (s s' : Nat) (t : TV) (fr : List (Nat × TV)) (H : List (QA × Option Bk)) : (⟨(s, t) :: fr, H⟩ : St).g s' = if s' = s then t else (⟨fr, H⟩ : St).g s' := by
  show (Zv ((s, t) :: fr) s').getD (.c .any) = _
  simp only [Zv]
  by_cases h : s' = s
  · subst h; simp
  · have : Nat.beq s s' = false := by
      cases hb : Nat.beq s s' with
      | false => rfl
      | true => exact absurd (Nat.eq_of_beq_eq_true hb).symm h
    rw [this, if_neg h]; rfl
section
variable {E : En} {N : Nat} {P : Program} {T : Tb P} {Q : Exit → St → Prop} {st st' st2 : St} {cx : Cx} {a : Act} {w : World} {fr : List (Nat × TV)} {H : List (QA × Option Bk)}
theorem QG.blk (b : QA) (e : Nat) (he : Nat.blt 0 e = true) (hb0 : Nat.blt b.1 65536 = true) (hf : U8 b ⟨fr, H⟩ = true) : QG ⟨fr, H⟩ ⟨fr, (b, some (.row e [] true)) :: H⟩ := by
  intro E N cx a w hr
  have hf := Yx hf
  have hh := Az b (x := some (.row e [] true)) (fr := fr) (H := H)
  have hcmp : ∀ b', b' ≠ b → BM cx w (⟨fr, H⟩ : St).h (cx.upd b none) w (⟨fr, (b, some (.row e [] true)) :: H⟩ : St).h b' := by
    intro b' hne bk' hb
    rw [hh, if_neg hne] at hb
    exact ⟨bk', hb, rfl, Nat.le_refl _, by simp [Cx.upd, hne], fun g o c el fz _ h => ⟨c, el, fz, h, fun _ => rfl⟩⟩
  have hk : Kj cx.A w w := Kj.refl _ _
  refine ⟨cx.upd b none, hr.defers, hr.size, fun s' => ?_, fun b' bk hb => ?_, fun b1 b2 g o g' o' h1 h2 h3 h4 hne => ?_, fun b1 g o h1 h2 => ?_, hr.A, hr.A0, hr.kept, hr.sz, hr.os, hr.tape, hr.output, hr.hN, (U7 (Nat.le_of_ble_eq_true hb0)).trans hr.pin⟩
  · refine RT.tr (cx := cx) (fun _ h => h) hk (fun b' hb' => hcmp b' ?_) (hr.fr s')
    rintro rfl
    exact hf.2.1 s' hb'
  · rw [hh] at hb
    by_cases h : b' = b
    · rw [if_pos h] at hb
      cases hb
      subst h
      exact ⟨Nat.le_of_ble_eq_true he, by simp, by simp [Cx.upd]⟩
    · rw [if_neg h] at hb
      refine RB.tr (cx := cx) (fun _ h => h) hk (fun b2 hb2 => hcmp b2 ?_) (by simp [Cx.upd, h]) (fun g o _ => ⟨rfl, fun h => h⟩) (hr.bl b' bk hb)
      rintro rfl
      exact hf.2.2 b' bk hb hb2
  · rw [hh] at h1 h2
    simp only [Cx.upd] at h3 h4
    by_cases e1 : b1 = b
    · rw [if_pos e1] at h3; cases h3
    · by_cases e2 : b2 = b
      · rw [if_pos e2] at h4; cases h4
      · rw [if_neg e1] at h1 h3; rw [if_neg e2] at h2 h4
        exact hr.inj b1 b2 g o g' o' h1 h2 h3 h4 hne
  · rw [hh] at h1
    simp only [Cx.upd] at h2
    by_cases e1 : b1 = b
    · rw [if_pos e1] at h2; cases h2
    · rw [if_neg e1] at h1 h2
      exact hr.own b1 g o h1 h2
theorem K1.frz {b : QA} {e : Nat} {rows : List (List PV)} {mu : Bool} (hb : st.h b = some (.row e rows mu)) (hr : K1 E N cx st a w) : ∃ cx', (∀ x, cx.A x → cx'.A x) ∧ cx'.ι = cx.ι ∧ K1 E N cx' ⟨st.fr, (b, some (.row e rows false)) :: st.H⟩ a w := by
  have hh := Az b (x := some (.row e rows false)) (fr := st.fr) (H := st.H)
  let cx' : Cx := ⟨cx.ι, fun x => cx.A x ∨ ∃ q, cx.ι b = some (x, q)⟩
  have hA : ∀ x, cx.A x → cx'.A x := fun x h => .inl h
  have hk : Kj cx.A w w := Kj.refl _ _
  have hcmp : ∀ b', BM cx w st.h cx' w (⟨st.fr, (b, some (.row e rows false)) :: st.H⟩ : St).h b' := by
    intro b' bk' hb'
    rw [hh] at hb'
    by_cases h : b' = b
    · rw [if_pos h] at hb'
      cases hb'
      subst h
      exact ⟨_, hb, rfl, Nat.le_refl _, rfl, fun g o c el fz _ h => ⟨c, el, fz, h, fun _ => rfl⟩⟩
    · rw [if_neg h] at hb'
      exact ⟨bk', hb', rfl, Nat.le_refl _, rfl, fun g o c el fz _ h => ⟨c, el, fz, h, fun _ => rfl⟩⟩
  have hlive : ∀ b', (⟨st.fr, (b, some (.row e rows false)) :: st.H⟩ : St).h b' ≠ none → st.h b' ≠ none := by
    intro b' h1
    rw [hh] at h1
    by_cases h : b' = b
    · rw [h, hb]; simp
    · rwa [if_neg h] at h1
  refine ⟨cx', hA, rfl, hr.defers, hr.size, fun s' => ?_, fun b' bk hb' => ?_, fun b1 b2 g o g' o' h1 h2 h3 h4 hne => ?_, fun b1 g o h1 h2 => ?_, fun g hg => ?_, fun g hg => hA g (hr.A0 g hg), hr.kept, hr.sz, hr.os, hr.tape, hr.output, hr.hN, hr.pin⟩
  · exact RT.tr (cx := cx) hA hk (fun b' _ => hcmp b') (hr.fr s')
  · rw [hh] at hb'
    by_cases h : b' = b
    · rw [if_pos h] at hb'
      cases hb'
      subst h
      obtain ⟨h1, h2, h3⟩ := hr.bl b' _ hb
      refine ⟨h1, h2, ?_⟩
      revert h3
      show (match cx.ι b' with | none => _ | some (g, o) => _) → (match cx.ι b' with | none => _ | some (g, o) => _)
      cases hι : cx.ι b' with
      | none => exact fun h => h
      | some x =>
        obtain ⟨g, o⟩ := x
        rintro ⟨h3, c, el, fz, capR, h4, h5, h6, h7, h8, h9, h10⟩
        exact ⟨h3, c, el, fz, capR, h4, (fun h => by cases h), fun _ => .inr ⟨o, hι⟩, h7, h8, h9, fun i r k p hi hk' => let ⟨cv, hc, hp⟩ := h10 i r k p hi hk'; ⟨cv, hc, hp.mono hA (Nat.le_refl _) (fun _ _ _ => rfl)⟩⟩
    · rw [if_neg h] at hb'
      refine RB.tr (cx := cx) hA hk (fun b2 _ => hcmp b2) rfl (fun g o hg => ⟨rfl, fun hn hA' => ?_⟩) (hr.bl b' bk hb')
      rcases hA' with hA' | ⟨q, hq⟩
      · exact hn hA'
      · exact hr.inj b' b g o g q (by rw [hb']; simp) (by rw [hb]; simp) hg hq h rfl
  · exact hr.inj b1 b2 g o g' o' (hlive b1 h1) (hlive b2 h2) h3 h4 hne
  · exact hr.own b1 g o (hlive b1 h1) h2
  · rcases hg with hg | ⟨q, hq⟩
    · exact hr.A g hg
    · obtain ⟨h1, h2⟩ := hr.own b g q (by rw [hb]; simp) hq
      exact ⟨h1, h2.elim (fun h => .inr (.inl h)) (fun h => .inr (.inr h))⟩
theorem QG.frz (b : QA) {e : Nat} {rows : List (List PV)} {mu : Bool} (hb : (⟨fr, H⟩ : St).h b = some (.row e rows mu)) : QG ⟨fr, H⟩ ⟨fr, (b, some (.row e rows false)) :: H⟩ := fun E N cx a w hr =>
  let ⟨cx', _, _, h⟩ := hr.frz hb; ⟨cx', h⟩
inductive Ct (st : St) : CV → CV → Prop
  | k (c : CV) : Ct st c c
  | any (c : CV) : Ct st c .any
  | nil (e : Nat) : Ct st (.p (.v (.slice none 0 0))) (.p (.l e []))
  | nilo {b : QA} {bk : Bk} (hb : st.h b = some bk) : Ct st (.p (.v (.slice none 0 0))) (.sl b 0 0)
  | n {b : QA} {off n n' : Nat} (h : n = n') : Ct st (.sl b off n) (.sl b off n')
  | fr {b : QA} {e off n : Nat} {rows rows' : List (List PV)} (hb : st.h b = some (.row e rows false)) (hr : (rows.drop off).take n = rows') : Ct st (.sl b off n) (.p (.l e rows'))
theorem Co {c c' : CV} {v : Value} (hr : K1 E N cx st a w) (h : Ct st c c') (hc : RC cx w st.h c v) : RC cx w st.h c' v := by
  cases h with
  | k => exact hc
  | any => trivial
  | nil e => cases hc with | v _ _ => exact Cc e
  | n h => subst h; exact hc
  | nilo hb =>
    cases hc with
    | v _ _ =>
      intro bk hbk
      exact ⟨none, 0, rfl, Nat.le_refl _, Nat.zero_le _, Nat.zero_le _, .inl rfl⟩
  | @fr b e off n rows rows' hb hr' =>
    have hA : ∀ b' ∈ [b], ∀ g q, cx.ι b' = some (g, q) → cx.A g := by
      intro b' hb' g q hg
      rw [List.mem_singleton.1 hb'] at hg
      obtain ⟨_, _, h3⟩ := hr.bl b _ hb
      rw [hg] at h3
      obtain ⟨_, c, el, fz, capR, _, _, h6, _⟩ := h3
      exact h6 rfl
    exact Ua (x := .p (.l e rows')) (o := none) hr (.fr hb hr') hc (fun _ h => h) hA (fun b h => by cases h)
inductive By (st : St) : List CV → List CV → Prop
  | nil : By st [] []
  | cons {c c' : CV} {cs cs' : List CV} (h : Ct st c c') (hs : By st cs cs') : By st (c :: cs) (c' :: cs')
theorem By.k (cs : List CV) : By st cs cs := by
  induction cs with
  | nil => exact .nil
  | cons c cs ih => exact .cons (.k c) ih
theorem By.at {cs cs' : List CV} (h : By st cs cs') : cs'.length = cs.length ∧ ∀ (k : Nat) (c' : CV), cs'[k]? = some c' → ∃ c, cs[k]? = some c ∧ Ct st c c' := by
  induction h with
  | nil => exact ⟨rfl, fun k c' h => by simp at h⟩
  | cons h hs ih =>
    refine ⟨by simp [ih.1], fun k c' hk => ?_⟩
    cases k with
    | zero => rw [List.getElem?_cons_zero] at hk; cases hk; exact ⟨_, rfl, h⟩
    | succ k => rw [List.getElem?_cons_succ] at hk; obtain ⟨c, h1, h2⟩ := ih.2 k c' hk; exact ⟨c, by rw [List.getElem?_cons_succ]; exact h1, h2⟩
theorem Ek {cs cs' : List CV} {vs : Array Value} (hr : K1 E N cx st a w) (h : By st cs cs') (hc : RL cx w st.h cs vs) : RL cx w st.h cs' vs := by
  obtain ⟨h1, h2⟩ := h.at
  refine ⟨by rw [h1]; exact hc.1, fun i c hi => ?_⟩
  obtain ⟨c0, h3, h4⟩ := h2 i c hi
  obtain ⟨u, hu, h5, h6⟩ := hc.2 i c0 h3
  exact ⟨u, hu, h5, Co hr h4 h6⟩
theorem K1.re (hr : K1 E N cx st a w) {s : Nat} {t : TV} (ht : RT cx w st.h t (a.tmps.getD s undef)) : K1 E N cx ⟨(s, t) :: st.fr, st.H⟩ a w := by
  refine ⟨hr.defers, hr.size, fun s' => ?_, hr.bl, hr.inj, hr.own, hr.A, hr.A0, hr.kept, hr.sz, hr.os, hr.tape, hr.output, hr.hN, hr.pin⟩
  rw [Ej]
  by_cases h : s' = s
  · rw [if_pos h, h]; exact ht
  · rw [if_neg h]; exact hr.fr s'
theorem QG.slot (s : Nat) {c c' : CV} (hs : (⟨fr, H⟩ : St).g s = .c c) (hc : Ct ⟨fr, H⟩ c c') : QG ⟨fr, H⟩ ⟨(s, .c c') :: fr, H⟩ := by
  intro E N cx a w hr
  refine ⟨cx, hr.re ?_⟩
  have := hr.fr s
  rw [hs] at this
  refine ⟨?_, Co hr hc this.2⟩
  rcases this.1 with h | h
  · subst h; cases hc <;> exact .inl rfl
  · exact .inr h
theorem QG.cells (b : QA) {cs cs' : List CV} (hb : (⟨fr, H⟩ : St).h b = some (.box cs)) (hc : By ⟨fr, H⟩ cs cs') : QG ⟨fr, H⟩ ⟨fr, (b, some (.box cs')) :: H⟩ := by
  intro E N cx a w hr
  have hh := Az b (x := some (.box cs')) (fr := fr) (H := H)
  obtain ⟨hl, hat⟩ := hc.at
  have hcmp : ∀ b', BM cx w (⟨fr, H⟩ : St).h cx w (⟨fr, (b, some (.box cs')) :: H⟩ : St).h b' := by
    intro b' bk' hb'
    rw [hh] at hb'
    by_cases h : b' = b
    · rw [if_pos h] at hb'
      cases hb'
      subst h
      exact ⟨_, hb, rfl, Nat.le_refl _, rfl, fun g o c el fz _ h => ⟨c, el, fz, h, fun _ => rfl⟩⟩
    · rw [if_neg h] at hb'
      exact ⟨bk', hb', rfl, Nat.le_refl _, rfl, fun g o c el fz _ h => ⟨c, el, fz, h, fun _ => rfl⟩⟩
  have hk : Kj cx.A w w := Kj.refl _ _
  have hlive : ∀ b', (⟨fr, (b, some (.box cs')) :: H⟩ : St).h b' ≠ none → (⟨fr, H⟩ : St).h b' ≠ none := by
    intro b' h1
    rw [hh] at h1
    by_cases h : b' = b
    · rw [h, hb]; simp
    · rwa [if_neg h] at h1
  refine ⟨cx, hr.defers, hr.size, fun s' => ?_, fun b' bk hb' => ?_, fun b1 b2 g o g' o' h1 h2 h3 h4 hne => ?_, fun b1 g o h1 h2 => ?_, hr.A, hr.A0, hr.kept, hr.sz, hr.os, hr.tape, hr.output, hr.hN, hr.pin⟩
  · exact RT.tr (cx := cx) (fun _ h => h) hk (fun b' _ => hcmp b') (hr.fr s')
  · rw [hh] at hb'
    by_cases h : b' = b
    · rw [if_pos h] at hb'
      cases hb'
      subst h
      obtain ⟨g, o, c, el, h1, h2, h3, h4, h5⟩ := hr.bl b' _ hb
      refine ⟨g, o, c, el, h1, h2, h3, by rw [hl]; exact h4, fun k x hx => ?_⟩
      obtain ⟨x0, h6, h7⟩ := hat k x hx
      obtain ⟨cv, h8, h9, h10⟩ := h5 k x0 h6
      exact ⟨cv, h8, h9, RC.tr (cx := cx) (fun _ h => h) hk (fun b' _ => hcmp b') (Co hr h7 h10)⟩
    · rw [if_neg h] at hb'
      exact RB.tr (cx := cx) (fun _ h => h) hk (fun b2 _ => hcmp b2) rfl (fun g o _ => ⟨rfl, fun h => h⟩) (hr.bl b' bk hb')
  · exact hr.inj b1 b2 g o g' o' (hlive b1 h1) (hlive b2 h2) h3 h4 hne
  · exact hr.own b1 g o (hlive b1 h1) h2
end
def eI (k : IntKind) (n : Int) : List PV := [.v (.int k n)]
def eS (s : ByteArray) : List PV := [.v (.string s)]
def bx (s : ByteArray) (n v : Int) : Prop := 0 ≤ n ∧ ∃ b : UInt8, s[n.toNat]? = some b ∧ v = (b.toNat : Int)
def eqV : Value → Value → Bool
  | .int _ a, .int _ b => a == b
  | .bool a, .bool b => a == b
  | .string a, .string b => a.toList == b.toList
  | _, _ => false
def Bz : List Value → List Value → Bool
  | [], [] => true
  | a :: l, b :: m => eqV a b && Bz l m
  | _, _ => false
section
variable {α : Type} {f : α → List PV} {L L' : List α} {E : En} {N : Nat} {P : Program} {T : Tb P} {ops : Array Oper} {o : Oper} {st : St} {d : Nat} {ty : Nat} {pos : String} {af : Array Edge} {gd : Option (Nat × Bool)} {cx : Cx} {a : Act} {w w' : World}
theorem tn {n : Int} (h : 0 ≤ n) : n = (n.toNat : Int) := (Int.toNat_of_nonneg h).symm
theorem AU {x y : Operand} {t el e : Nat} {k : IntKind} {n : Int} {v : α} {tt te : TE} (hv : ix L n v) (h1 : st.ev x = .c (.p (.l e (L.map f)))) (h2 : st.ev y = .c (.p (.v (.int k n)))) (ht : Zv T.ty t = some tt) (hk : tt.kd = .slice el) (hel : Zv T.ty el = some te) (he : te.size = e) (hx : Zh x = true) (hy : Zh y = true) :
    K2 E N P ops ⟨some d, .indexAddr t x y, ty, pos, af, gd⟩ st ⟨[], []⟩ ⟨.c (.ep (f v) 0), []⟩ := UG h1 h2 (tn hv.1) (gm hv.2) ht hk hel he hx hy
theorem UW {x y : Operand} {t el e m : Nat} {b : QA} {mu : Bool} {k : IntKind} {n : Int} {v : α} {tt te : TE} (hv : ix L n v) (h1 : st.ev x = .c (.sl b 0 m)) (hb : st.h b = some (.row e (L.map f) mu)) (hm : (L.map f).length = m) (h2 : st.ev y = .c (.p (.v (.int k n)))) (ht : Zv T.ty t = some tt) (hk : tt.kd = .slice el) (hel : Zv T.ty el = some te) (he : te.size = e) (hx : Zh x = true) (hy : Zh y = true) :
    K2 E N P ops ⟨some d, .indexAddr t x y, ty, pos, af, gd⟩ st ⟨[b], []⟩ ⟨.c (.ptr b n.toNat 0), []⟩ :=
  U5 h1 hb h2 (tn hv.1) (by rw [← hm, List.length_map]; exact (List.getElem?_eq_some_iff.1 hv.2).1) ht hk hel he (Nat.zero_add _) hx hy
theorem YB {x y : Operand} {t : Nat} {s : ByteArray} {k : IntKind} {n v : Int} {tt : TE} (hv : bx s n v) (h1 : st.ev x = .c (.p (.v (.string s)))) (h2 : st.ev y = .c (.p (.v (.int k n)))) (ht : Zv T.ty t = some tt) (hk : tt.kd = .string) (hx : Zh x = true) (hy : Zh y = true) :
    K2 E N P ops ⟨some d, .index t x y, ty, pos, af, gd⟩ st ⟨[], []⟩ ⟨.c (.p (.v (.int .u8 v))), []⟩ := by
  obtain ⟨h0, b, hb, rfl⟩ := hv
  exact Ww h1 h2 (tn h0) hb ht hk hx hy
theorem AX {x : Operand} {t e : TypeId} {tt : TE} {k : Nat} (h1 : st.ev x = .c (.p (.l k (L.map f)))) (ht : Zv T.ty t = some tt) (hk : tt.kd = .slice e) (hx : Zh x = true) :
    K2 E N P ops ⟨some d, .call { callee := .builtin .len, args := #[x], argTypes := #[t] }, ty, pos, af, gd⟩ st ⟨[], []⟩ ⟨.c (.p (.v (.int .i64 (L.length : Int)))), []⟩ := by
  have := Bo (E := E) (N := N) (ops := ops) (d := d) (ty := ty) (pos := pos) (af := af) (gd := gd) h1 ht hk hx
  rwa [List.length_map] at this
theorem UX {x : Operand} {t e e' : TypeId} {tt : TE} {b : QA} {m : Nat} {mu : Bool} (h1 : st.ev x = .c (.sl b 0 m)) (hb : st.h b = some (.row e' (L.map f) mu)) (hm : (L.map f).length = m) (ht : Zv T.ty t = some tt) (hk : tt.kd = .slice e) (hx : Zh x = true) :
    K2 E N P ops ⟨some d, .call { callee := .builtin .len, args := #[x], argTypes := #[t] }, ty, pos, af, gd⟩ st ⟨[b], []⟩ ⟨.c (.p (.v (.int .i64 (L.length : Int)))), []⟩ := by
  have := Am (E := E) (N := N) (ops := ops) (d := d) (ty := ty) (pos := pos) (af := af) (gd := gd) h1 (by rw [hb]; rfl) ht hk hx
  rwa [← hm, List.length_map] at this
theorem E2 {xt yt : TypeId} {x y : Operand} {k : IntKind} {a b : Int} (hb : b ≠ 0) (h1 : st.ev x = .c (.p (.v (.int k a)))) (h2 : st.ev y = .c (.p (.v (.int k b)))) (hx : Zh x = true) (hy : Zh y = true) :
    K2 E N P ops ⟨some d, .binOp .rem xt x y yt, ty, pos, af, gd⟩ st ⟨[], []⟩ ⟨.c (.p (.v (.int k (a.tmod b)))), []⟩ := YP h1 h2 (by simp [WQ, hb]) hx hy
theorem Do {lo hi : Nat} : ((L.map f).take hi).drop lo = ((L.take hi).drop lo).map f := by simp
theorem BA {x : Operand} {y z : Option Operand} {t el e lo hi : Nat} {tt te : TE} (h1 : st.ev x = .c (.p (.l e (L.map f)))) (hlo : Bd st y 0 lo) (hhi : Bd st z L.length hi) (hlh : lo ≤ hi) (hhl : hi ≤ L.length) (ht : Zv T.ty t = some tt) (hk : tt.kd = .slice el) (hel : Zv T.ty el = some te) (he : te.size = e) (hx : Zh x = true) :
    K2 E N P ops ⟨some d, .slice t x y z none, ty, pos, af, gd⟩ st ⟨[], []⟩ ⟨.c (.p (.l e (((L.take hi).drop lo).map f))), []⟩ := by
  have := UH (E := E) (N := N) (ops := ops) (d := d) (ty := ty) (pos := pos) (af := af) (gd := gd) (T := T) (lo := lo) (hi := hi) h1 hlo (by rw [List.length_map]; exact hhi) hlh (by rw [List.length_map]; exact hhl) ht hk hel he hx
  rwa [Do] at this
theorem Dp {n : Nat} : Bd st none n n := rfl
theorem Dq {x : Operand} {k : IntKind} {z : Int} {m : Nat} (h0 : 0 ≤ z) (h : st.ev x = .c (.p (.v (.int k z)))) (hc : Zh x = true) : Bd st (some x) m z.toNat := ⟨hc, k, z, h, tn h0⟩
theorem Wb {x z : Operand} {t el e : Nat} {k : IntKind} {q : Int} {tt te : TE} (hp : 0 ≤ q ∧ q ≤ L.length) (h1 : st.ev x = .c (.p (.l e (L.map f)))) (h2 : st.ev z = .c (.p (.v (.int k q)))) (ht : Zv T.ty t = some tt) (hk : tt.kd = .slice el) (hel : Zv T.ty el = some te) (he : te.size = e) (hx : Zh x = true) (hy : Zh z = true) :
    K2 E N P ops ⟨some d, .slice t x none (some z) none, ty, pos, af, gd⟩ st ⟨[], []⟩ ⟨.c (.p (.l e ((L.take q.toNat).map f))), []⟩ := by
  have := BA (E := E) (N := N) (ops := ops) (d := d) (ty := ty) (pos := pos) (af := af) (gd := gd) (T := T) h1 Dp (Dq hp.1 h2 hy) (Nat.zero_le _) (by have := hp.2; omega) ht hk hel he hx
  simpa using this
def SrcT (E : En) (N : Nat) (P : Program) (ops : Array Oper) (o : Oper) (st : St) (rb : List QA) (tx : TypeId) (e : Nat) (y : Operand) (f : α → List PV) (L : List α) : Prop := Ec E N P ops o st rb tx e y (L.map f)
theorem AY {y : Operand} {tx e' : TypeId} {e m : Nat} {b : QA} {tt : TE} {mu : Bool} (hm : y ∈ o.op.operands.toList) (hy : Zh y = true) (h1 : st.ev y = .c (.sl b 0 m)) (hb : st.h b = some (.row e (L.map f) mu)) (hl : (L.map f).length = m) (ht : Zv T.ty tx = some tt) (hk : tt.kd = .slice e') : SrcT E N P ops o st [b] tx e y f L := by
  have := Db (E := E) (N := N) (P := P) (ops := ops) hm hy h1 hb ht hk
  rw [List.drop_zero, ← hl, List.take_length] at this
  exact this
theorem UY {x y : Operand} {t tx el : TypeId} {te tt : TE} {e m by' : Nat} {b : QA} {rb : List QA} (hby : (L.length + L'.length) * by' ≤ 140737488355328) (hx : st.ev x = .c (.sl b 0 m)) (hcx : Zh x = true) (hb : st.h b = some (.row e (L.map f) true)) (hm : (L.map f).length = m) (ht : Zv T.ty t = some tt) (hk : tt.kd = .slice el) (hel : Zv T.ty el = some te) (hes : te.size = e) (hbt : te.bytes = by') (hpos : Nat.blt 0 by' = true) (hz : te.zero.cells.size = e)
    (hsrc : SrcT E N P ops ⟨some d, .call { callee := .builtin .append, args := #[x, y], argTypes := #[t, tx] }, ty, pos, af, gd⟩ st rb tx e y f L') :
    K2 E N P ops ⟨some d, .call { callee := .builtin .append, args := #[x, y], argTypes := #[t, tx] }, ty, pos, af, gd⟩ st ⟨b :: rb, [(d, 0)]⟩ ⟨.c (.sl (d, 0) 0 ((L ++ L').map f).length), [((d, 0), some (.row e ((L ++ L').map f) true)), (b, none)]⟩ := by
  have hb2 : L.length + L'.length ≤ 140737488355328 := Nat.le_trans (Nat.le_mul_of_pos_right _ (Nat.le_of_ble_eq_true hpos)) hby
  exact As hx hcx hb hm ht hk hel hes hz hsrc (List.map_append).symm (by rw [← hm]; simp) (by simpa using hb2) (by rw [hbt]; simpa using hby)
theorem Wc {x : Operand} {s t e : TypeId} {ts te tt : TE} {l : List Int} (h1 : st.ev x = .c (.p (.l 1 (l.map (eI .u8))))) (hs : Zv T.ty s = some ts) (hsk : ts.kd = .slice e) (he : Zv T.ty e = some te) (hek : te.kd = .int .u8) (ht : Zv T.ty t = some tt) (htk : tt.kd = .string) (hx : Zh x = true) :
    K2 E N P ops ⟨some d, .convert s t x, ty, pos, af, gd⟩ st ⟨[], []⟩ ⟨.c (.p (.v (.string (strOfNums l)))), []⟩ := U6 h1 rfl hs hsk he hek ht htk hx
theorem Dr {n : Nat} {x : α} : (L.map f).set n (f x) = (L.set n x).map f := by rw [List.map_set]
theorem YC {x y : Operand} {t : TypeId} {te : TE} {b : QA} {i k e : Nat} {x0 x1 : α} {ps : List PV} {v : TV} {dst : Option Nat} (hi : L[i]? = some x0) (hx : st.ev x = .c (.ptr b i k)) (hb : st.h b = some (.row e (L.map f) true)) (hv : st.ev y = v) (hk : v.known = true) (hps : pvs v.cells = some ps)
    (ht : Zv T.ty t = some te) (hsz : ps.length = te.size) (hin : Nat.ble (k + ps.length) e = true) (hr' : setAt (f x0) k ps = f x1) (hcx : Zh x = true) (hcy : Zh y = true) :
    K2 E N P ops ⟨dst, .store t x y, ty, pos, af, gd⟩ st ⟨[b], []⟩ ⟨.c .any, [(b, some (.row e ((L.set i x1).map f) true))]⟩ :=
  Wy hx hb (gm hi) hv hk (Ax hps) ht hsz (Nat.le_of_ble_eq_true hin) hr' Dr hcx hcy
end
theorem Z6 {α : Type} {l : List α} {n : Nat} (h : l.length = n) : (l.drop 0).take n = l := by subst h; simp
theorem QS {st : St} {g : Bool} {t : TV} {x : AV} {bs : List QA} (hg : g = true) (h : ToA st t x bs) : ToA st (gt g t) x bs := by rw [Q8 hg]; exact h
theorem Qh {a b : Bool} : (a && (b == true)) = (a && b) := by cases b <;> simp
theorem QC {a b : Bool} : (a && (b == false)) = (a && !b) := by cases b <;> simp
theorem Z5 {a b : Bool} (h : a = true) : (b == true) = (a && b) := by subst h; cases b <;> rfl
theorem Jg {a b : Bool} (h : a = true) : (b == false) = (a && !b) := by subst h; cases b <;> rfl
theorem AZ {x y : Operand} {ats : Array TypeId} : y ∈ (Op.call { callee := .builtin .append, args := #[x, y], argTypes := ats }).operands.toList := by simp [Op.operands, Call.operands]
theorem nl_eI {k : IntKind} (n : Int) : (eI k n).all E0 = true := rfl
theorem Dt {α : Type} {f : α → List PV} (h : ∀ x, (f x).all E0 = true) {L : List α} : ∀ r ∈ L.map f, ∀ p ∈ r, E0 p = true := by
  intro r hr p hp
  obtain ⟨x, _, rfl⟩ := List.mem_map.1 hr
  exact List.all_eq_true.1 (h x) p hp
inductive El : RV → Prop
  | p {x : PV} (h : E0 x = true) : El (.p x)
  | o {e : Nat} {rows : List (List PV)} (h : ∀ r ∈ rows, ∀ p ∈ r, E0 p = true) : El (.own e rows)
inductive ZL : List RV → Prop
  | nil : ZL []
  | cons {x : RV} {l : List RV} (h : El x) (hs : ZL l) : ZL (x :: l)
theorem Vb {cs : List RV} (h : ZL cs) : NoLs cs := by
  induction h with
  | nil => exact fun x hx => by cases hx
  | cons h hs ih =>
    intro x hx
    rcases List.mem_cons.1 hx with rfl | hx
    · cases h with
      | p h => exact h
      | o h => exact h
    · exact ih x hx
section
variable {P : Program} {T : Tb P} {st : St} {k0 : Nat}
theorem Wz.p {x : PV} (h : st.g k0 = .c (.p x)) : Wz T st (.tmp k0) (.c (.p x)) := .tmpc h (by simp)
theorem Wz.s {b : QA} {off n : Nat} (h : st.g k0 = .c (.sl b off n)) : Wz T st (.tmp k0) (.c (.sl b off n)) := .tmpc h (by simp)
end
section
variable {α : Type} {f : α → List PV} {L L' : List α} {E : En} {N : Nat} {P : Program} {T : Tb P} {ops : Array Oper} {o : Oper} {st : St} {d : Nat} {ty : Nat} {pos : String} {af : Array Edge} {gd : Option (Nat × Bool)} {cx : Cx} {a : Act} {w w' : World} {fr : List (Nat × TV)} {H : List (QA × Option Bk)}
theorem Qd {f : FuncId} {xs : Array Operand} {tys : Array TypeId} {avs : List AV} {r : List RS} {t : TV} (hcon : Qq P f avs r []) (hn : avs.any AV.isRef = false) (hok : xs.toList.all Zh = true) (hargs : WA st (xs.toList.map st.ev) avs []) (hids : (Ya d 0 (QQ r)).map (·.1) = []) (hbl : Ya d 0 (QQ r) ++ X6 st [] = []) (ht : BN d r = t) :
    K2 E N P ops ⟨some d, .call { callee := .value (.func f), args := xs, argTypes := tys }, ty, pos, af, gd⟩ st ⟨[], []⟩ ⟨t, []⟩ := W6 hcon hn hok hargs hids hbl ht
theorem Cp {xt yt : TypeId} {x y : Operand} {b c : Bool} {te : TE} (h1 : st.ev x = .c (.p (.v (.bool b)))) (h2 : st.ev y = .c (.p (.v (.bool c)))) (ht : Zv T.ty xt = some te) (hk : te.kd = .bool) (hx : Zh x = true) (hy : Zh y = true) :
    K2 E N P ops ⟨some d, .binOp .eql xt x y yt, ty, pos, af, gd⟩ st ⟨[], []⟩ ⟨.c (.p (.v (.bool (b == c)))), []⟩ :=
  QN fun st' cx a' w ha hr => by
    obtain ⟨e1, w1⟩ := WP h1 hx ha (by simp [Op.operands]) hr
    obtain ⟨e2, w2⟩ := WP h2 hy ha (by simp [Op.operands]) hr
    obtain ⟨dd, i, g1, g2, g3, g4, g5, g6⟩ := Kk (T.ok _ _ ht)
    have hu : P.underlying xt = some .bool := by rw [g1]; rw [hk] at g3; cases dd <;> simp_all [Ws]
    refine ⟨.bool (b == c), ?_, .inr rfl, .v _ rfl⟩
    simp only [execOp, e1, e2, Sem.run_bind, VK, Result.andThen_ok, binOp, Op.equal, Op.maxDepth, run_equalIn_bool' w _ _ _ _ hu, Sem.run_pure]
theorem Cq {xt yt : TypeId} {x y : Operand} {b c : Bool} {te : TE} (h1 : st.ev x = .c (.p (.v (.bool b)))) (h2 : st.ev y = .c (.p (.v (.bool c)))) (ht : Zv T.ty xt = some te) (hk : te.kd = .bool) (hx : Zh x = true) (hy : Zh y = true) :
    K2 E N P ops ⟨some d, .binOp .neq xt x y yt, ty, pos, af, gd⟩ st ⟨[], []⟩ ⟨.c (.p (.v (.bool (!(b == c))))), []⟩ :=
  QN fun st' cx a' w ha hr => by
    obtain ⟨e1, w1⟩ := WP h1 hx ha (by simp [Op.operands]) hr
    obtain ⟨e2, w2⟩ := WP h2 hy ha (by simp [Op.operands]) hr
    obtain ⟨dd, i, g1, g2, g3, g4, g5, g6⟩ := Kk (T.ok _ _ ht)
    have hu : P.underlying xt = some .bool := by rw [g1]; rw [hk] at g3; cases dd <;> simp_all [Ws]
    refine ⟨.bool (!(b == c)), ?_, .inr rfl, .v _ rfl⟩
    simp only [execOp, e1, e2, Sem.run_bind, VK, Result.andThen_ok, binOp, Op.equal, Op.maxDepth, run_equalIn_bool' w _ _ _ _ hu, Sem.run_pure]
def Xq (P : Program) : Nat → List Field → List Value → List Value → Bool
  | _, [], [], [] => true
  | i, f :: fs, x :: xs, y :: ys => f.name != "_" && Nat.beq f.offset i && (match P.underlying f.type, x, y with
    | some (.int _), .int k _, .int k' _ => decide (k = k')
    | some .bool, .bool _, .bool _ => true
    | some .string, .string _, .string _ => true
    | _, _, _ => false) && Xq P (i + 1) fs xs ys
  | _, _, _, _ => false
def Cs (P : Program) (t : TypeId) (xs ys : List Value) : Bool := match P.underlying t with
  | some (.struct fs) => Xq P 0 fs.toList xs ys && !P.stoodInHeld t && !P.eqGuardType P.depth t
  | _ => false
def AA : TypeDesc → Bool
  | .int _ | .bool | .string => true
  | _ => false
theorem WZ {e : TypeId} {dsc : TypeDesc} (hu : P.underlying e = some dsc) (ha : AA dsc = true) {xs : Array Value} {i : Nat} {v : Value} (hx : xs[i]? = some v) : (part e xs i).run P w = .ok v w := by
  cases dsc <;> simp [AA] at ha <;> simp [part, isAgg, run_underlying hu, hx]
theorem Ug {xs ys : Array Value} : ∀ (fs : List Field) (i : Nat) (us vs : List Value), Xq P i fs us vs = true → xs.toList.drop i = us → ys.toList.drop i = vs → (Op.eqFields 9999 xs ys fs).run P w = .ok (Bz us vs) w := by
  intro fs
  induction fs with
  | nil =>
    intro i us vs h h1 h2
    cases us <;> cases vs <;> simp [Xq] at h
    simp [Op.eqFields, Bz, Sem.run_pure]
  | cons f fs ih =>
    intro i us vs h h1 h2
    cases us with
    | nil => simp [Xq] at h
    | cons u us =>
      cases vs with
      | nil => simp [Xq] at h
      | cons v vs =>
        simp only [Xq, Bool.and_eq_true] at h
        obtain ⟨⟨⟨hn, hi⟩, hk⟩, hr⟩ := h
        have hi := Nat.eq_of_beq_eq_true hi
        have hu : xs[i]? = some u := by have := congrArg (·[0]?) h1; simpa [List.getElem?_drop] using this
        have hv : ys[i]? = some v := by have := congrArg (·[0]?) h2; simpa [List.getElem?_drop] using this
        have h1' : xs.toList.drop (i + 1) = us := by rw [← List.drop_drop, h1]; rfl
        have h2' : ys.toList.drop (i + 1) = vs := by rw [← List.drop_drop, h2]; rfl
        have hih := ih (i + 1) us vs hr h1' h2'
        have hne : f.name ≠ "_" := by simpa using hn
        have key : ∃ dsc, P.underlying f.type = some dsc ∧ AA dsc = true ∧ (Op.equalIn 9999 f.type u v).run P w = .ok (eqV u v) w := by
          split at hk
          · rename_i k0 k a k' b hd
            have := of_decide_eq_true hk; subst this
            exact ⟨_, hd, rfl, run_equalIn_int w 9998 _ _ _ _ _ hd⟩
          · rename_i a b hd
            exact ⟨_, hd, rfl, run_equalIn_bool' w 9998 _ _ _ hd⟩
          · rename_i a b hd
            exact ⟨_, hd, rfl, run_equalIn_string w 9998 _ _ _ hd⟩
          · cases hk
        obtain ⟨dsc, hd, ha, he⟩ := key
        simp only [Op.eqFields, if_pos hne, Sem.run_bind, hi, WZ hd ha hu, WZ hd ha hv, Result.andThen_ok, he, Bz]
        cases heq : eqV u v
        · simp [Sem.run_pure]
        · simp [hih]
theorem Du {t : TypeId} {us vs : List Value} (h : Cs P t us vs = true) : (Op.equalIn 10000 t (.agg us.toArray) (.agg vs.toArray)).run P w = .ok (Bz us vs) w ∧ P.eqGuardType P.depth t = false := by
  unfold Cs at h
  split at h
  · rename_i fs hu
    simp only [Bool.and_eq_true, Bool.not_eq_true'] at h
    obtain ⟨⟨h1, h2⟩, h3⟩ := h
    have hfo : P.fieldsOf t = fs := by unfold Program.fieldsOf; rw [hu]
    refine ⟨?_, h3⟩
    rw [run_equalIn_struct w 9999 t _ _ (by rw [hfo]; exact hu) h2, hfo]
    exact Ug fs.toList 0 us vs h1 rfl rfl
  · cases h
theorem UZ {st' : St} {x : Operand} {us : List Value} {f : Fp} (hx : st.ev x = .agg (us.map fun v => .p (.v v))) (hc : Zh x = true) (ha : Agree ops o f st st') (hm : x ∈ o.op.operands.toList) (hr : K1 E N cx st' a w) : a.eval x = .agg us.toArray := by
  have := hr.ev hc
  rw [ZJ ha hm, hx] at this
  obtain ⟨vs, h1, h2, h3⟩ := this
  rw [h1]
  have key : vs = us.toArray := by
    apply Array.ext_getElem?
    intro i
    cases hu : us[i]? with
    | none =>
      have h4 : us.length ≤ i := by simpa using hu
      rw [Array.getElem?_eq_none (by rw [h2]; simpa using h4), List.getElem?_toArray, hu]
    | some u =>
      obtain ⟨v, h5, h6, h7⟩ := h3 i (.p (.v u)) (by rw [List.getElem?_map, hu]; rfl)
      rw [h5, List.getElem?_toArray, hu]
      cases h7 with | v _ _ => rfl
  rw [key]
theorem AB {xt yt : TypeId} {x y : Operand} {us vs : List Value} {c : Bool} {cx1 cy1 : List CV} (h1 : st.ev x = .agg cx1) (h2 : st.ev y = .agg cy1) (hf : Cs P xt us vs = true) (he : (!Bz us vs) = c) (hcx : cx1 = us.map fun v => .p (.v v)) (hcy : cy1 = vs.map fun v => .p (.v v)) (hx : Zh x = true) (hy : Zh y = true) (htr : true = true) :
    K2 E N P ops ⟨some d, .binOp .neq xt x y yt, ty, pos, af, gd⟩ st ⟨[], []⟩ ⟨.c (.p (.v (.bool c))), []⟩ :=
  QN fun st' cx a' w ha hr => by
    subst hcx hcy he
    have e1 := UZ h1 hx ha (by simp [Op.operands]) hr
    have e2 := UZ h2 hy ha (by simp [Op.operands]) hr
    obtain ⟨h3, h4⟩ := Du (w := w) hf
    refine ⟨_, ?_, .inr rfl, .v _ rfl⟩
    simp only [execOp, e1, e2, Sem.run_bind, run_eqGuard_agg w _ _ _ _ _ _ h4, Result.andThen_ok, run_neq_struct, h3, Sem.run_pure]
end
inductive Cr (st : St) : CV → PV → Prop
  | k (x : PV) : Cr st (.p x) x
  | nil (e : Nat) : Cr st (.p (.v (.slice none 0 0))) (.l e [])
  | fr {b : QA} {e off n : Nat} {rows rows' : List (List PV)} (hb : st.h b = some (.row e rows false)) (hr : (rows.drop off).take n = rows') : Cr st (.sl b off n) (.l e rows')
inductive BB (st : St) : List CV → List PV → Prop
  | nil : BB st [] []
  | cons {c : CV} {x : PV} {cs : List CV} {xs : List PV} (h : Cr st c x) (hs : BB st cs xs) : BB st (c :: cs) (x :: xs)
theorem BB.agree {st st' : St} {cs : List CV} {xs : List PV} (h : BB st cs xs) (ha : ∀ b ∈ Jx cs, st'.h b = st.h b) : BB st' cs xs := by
  induction h with
  | nil => exact .nil
  | @cons c x cs xs h hs ih =>
    have h1 : ∀ b ∈ c.ment, st'.h b = st.h b := fun b hb => ha b (by unfold Jx; rw [List.flatMap_cons]; exact List.mem_append_left _ hb)
    refine .cons ?_ (ih fun b hb => ha b (by unfold Jx at hb ⊢; rw [List.flatMap_cons]; exact List.mem_append_right _ hb))
    cases h with
    | k => exact .k _
    | nil e => exact .nil e
    | @fr b e off n rows rows' hb hr => exact .fr (by rw [h1 b (by simp [CV.ment])]; exact hb) hr
theorem BB.cts {st : St} {cs : List CV} {xs : List PV} (h : BB st cs xs) : By st cs (xs.map .p) := by
  induction h with
  | nil => exact .nil
  | cons h hs ih =>
    refine .cons ?_ ih
    cases h with
    | k => exact .k _
    | nil e => exact .nil e
    | fr hb hr => exact .fr hb hr
section
variable {E : En} {N : Nat} {P : Program} {T : Tb P} {ops : Array Oper} {o : Oper} {st : St} {d : Nat} {ty : Nat} {pos : String} {af : Array Edge} {gd : Option (Nat × Bool)} {cx : Cx} {a : Act} {w w' : World}
theorem Em {cs : List CV} {xs : List PV} {vs : Array Value} (hr : K1 E N cx st a w) (h : BB st cs xs) (hc : RL cx w st.h cs vs) : RL cx w st.h (xs.map .p) vs := Ek hr h.cts hc
theorem YD {parts : Array (Nat × Operand)} {t e n sz : Nat} {tt te : TE} {zs : List Value} {cs : List CV} {ps : List PV} {rows : List (List PV)} (ht : Zv T.ty t = some tt) (hk : tt.kd = .slice e) (hel : Zv T.ty e = some te) (hsz : te.size = sz) (hpos : Nat.blt 0 (n * sz) = true) (hsm : Nat.ble (n * sz) 16777216 = true)
    (hz : te.zero.cells.toList = zs) (hat : zs.all Kv = true) (hf : Wa (fun i => some (i * sz, sz)) ((List.range (n * sz)).map fun i => .p (.v (zs.getD (i % zs.length) undef))) (parts.toList.map fun x => (x.1, st.ev x.2)) = some cs) (hct : BB st cs ps) (hrows : VN sz n ps = rows)
    (hzl : zs.length = sz) (hok : parts.toList.all (fun x => Zh x.2) = true) :
    K2 E N P ops ⟨some d, .buildSlice t n parts, ty, pos, af, gd⟩ st ⟨Jx cs, [(d, 0)]⟩ ⟨.c (.sl (d, 0) 0 n), [((d, 0), some (.row sz rows true))]⟩ := by
  intro st' ha hfr hd cx a w Q hr
  have hpos := Nat.le_of_ble_eq_true hpos
  have hsm := Nat.le_of_ble_eq_true hsm
  have hn0 : 0 < n := Nat.pos_of_ne_zero (fun h => by rw [h] at hpos; omega)
  have hsz0 : 0 < sz := Nat.pos_of_ne_zero (fun h => by rw [h] at hpos; omega)
  have hu := KA ht hk
  obtain ⟨dd', i', h1', h2', h3', h4', h5', h6'⟩ := Kk (T.ok _ _ hel)
  have hm : ∀ x ∈ parts.toList, x.2 ∈ (Op.buildSlice t n parts).operands.toList := fun x hx => by
    simp only [Op.operands, Array.toList_map, List.mem_map]; exact ⟨x, hx, rfl⟩
  have hz0 : RL cx w st'.h ((List.range (n * sz)).map fun i => .p (.v (zs.getD (i % zs.length) undef))) ((Array.range (n * te.size)).map (te.zero.cells[· % te.zero.cells.size]!)) := by
    have hzs : te.zero.cells.size = sz := by rw [← hzl, ← hz]; simp
    refine ⟨by simp [hsz], fun i c hi => ?_⟩
    rw [List.getElem?_map, Option.map_eq_some_iff] at hi
    obtain ⟨j, hj, rfl⟩ := hi
    have hil : i < n * sz := by simpa using (List.getElem?_eq_some_iff.1 hj).1
    rw [List.getElem?_range hil] at hj
    cases hj
    have hmod : i % sz < sz := Nat.mod_lt _ hsz0
    have hat' : Kv (zs.getD (i % zs.length) undef) = true := by
      rw [hzl, List.getD_eq_getElem?_getD, List.getElem?_eq_getElem (by omega)]
      exact List.all_eq_true.1 hat _ (List.getElem_mem _)
    refine ⟨zs.getD (i % zs.length) undef, ?_, Ks hat', .v _ hat'⟩
    rw [Array.getElem?_map, Array.getElem?_range, hsz, if_pos hil, Option.map_some, hzs, hzl]
    congr 1
    have hbd : i % sz < te.zero.cells.size := by rw [hzs]; exact hmod
    have hg : zs[i % sz]? = some (te.zero.cells[i % sz]'hbd) := by rw [← hz, Array.getElem?_toList, Array.getElem?_eq_getElem]
    rw [getElem!_pos te.zero.cells _ hbd, List.getD_eq_getElem?_getD, hg]
    rfl
  obtain ⟨cells', h7, h8⟩ := XQ (cx := cx) (w := w) (h := st'.h) hf hz0 (vs := (parts.map fun (i, x) => (i, a.eval x)).toList) (by simp) (X0 hr ha (fun x hx => hm x hx) hok)
  replace h8 := Em hr (hct.agree ha.2) h8
  have hlen : cells'.size = n * sz := by
    rw [Yc h7]; simp [hsz]
  have hpl : ps.length = n * sz := by
    have := h8.1; rw [List.length_map] at this; omega
  obtain ⟨c1, c2, c3⟩ := Xp sz n ps hpl
  rw [hrows] at c1 c2 c3
  have hrun := run_buildSlice (P := P) w t e n (parts.map fun (i, x) => (i, a.eval x)) cells' i' te.zero hu h2' h6' (by rw [h4', hsz]; omega) (by rw [h4', hsz]; omega) (by rw [h4', hsz]; rw [hsz] at h7; exact h7)
  refine Vm (v := .slice (some ⟨w.heap.size, 0, none⟩) n n) (w' := w.alloc (.cells cells' e)) (by simp only [execOp, Sem.run_bind, hrun]; rfl) ⟨_, Vn (w' := w.alloc (.cells cells' e)) (bk := .row sz rows true) (t := .c (.sl (d, 0) 0 n)) hr hd (b := (d, 0)) (hd d rfl) (hfr (d, 0) (by simp)) (ob := .cells cells' e) rfl rfl rfl rfl ?_ ?_⟩
  · refine ⟨hsz0, c2, ?_⟩
    simp only [Cx.upd, if_true]
    refine ⟨trivial, cells', e, (0, 0), n, Jp rfl, fun _ => ⟨rfl, fun h => ?_⟩, (fun h => by cases h), hlen, by omega, by unfold maxLen; have := Nat.le_mul_of_pos_right n hsz0; omega, fun i r k p hi hk => ?_⟩
    · have := (hr.A _ h).1; omega
    · have hp := c3 i r k p hi hk
      obtain ⟨u, hu, h9, h10⟩ := h8.2 (i * sz + k) (.p p) (by rw [List.getElem?_map, hp]; rfl)
      exact ⟨u, by simpa using hu, RP.keeps h10 (fun _ h => h) (Je rfl)⟩
  · refine ⟨.inr rfl, fun bk hbk => ?_⟩
    rw [KT, if_pos rfl] at hbk
    cases hbk
    refine ⟨_, n, rfl, Nat.le_refl _, by unfold maxLen; have := Nat.le_mul_of_pos_right n hsz0; omega, by simp [Bk.len, c1], .inr ⟨w.heap.size, cells', e, (0, 0), by simp [Cx.upd], by simp [Bk.e], Jp rfl, fun _ => by simp [Bk.e, hlen]⟩⟩
end
section
variable {E : En} {N : Nat} {P : Program} {Q : Exit → St → Prop} {st : St}
end
section
variable {P : Program} {w w' : World}
theorem A1 {A : Nat → Prop} {gs : Nat → Option Nat} {g q g' q' : Nat} (hg : w.grownBy w' none) (hA : ∀ x, A x → x < w.heap.size) : ∀ {avs : List AV} {vs : List Value}, avs.any AV.isRef = false → C9 w A gs g q avs vs → C9 w' A gs g' q' avs vs := by
  intro avs
  induction avs with
  | nil => intro vs _ h; cases vs with | nil => trivial | cons v vs => exact h.elim
  | cons a avs ih =>
    intro vs hn h
    cases vs with
    | nil => exact h.elim
    | cons v vs =>
      simp only [List.any_cons, Bool.or_eq_false_iff] at hn
      refine ⟨?_, ih hn.2 h.2⟩
      have hm : ∀ {p : PV} {u : Value}, RP w A p u → RP w' A p u := fun h => h.mono (fun _ h => h) hg.size (fun x hx hl => hg.block x hl (by simp))
      have hcs : ∀ {n : Nat} {xs : List PV} {us : List Value}, Y9 w A (fun _ => none) n (xs.map .p) us → Y9 w' A (fun _ => none) n (xs.map .p) us := by
        intro n xs
        induction xs generalizing n with
        | nil => intro us h; cases us with | nil => trivial | cons u us => exact h.elim
        | cons x xs ih2 =>
          intro us h
          cases us with
          | nil => exact h.elim
          | cons u us => exact ⟨h.1, hm h.2.1, ih2 h.2.2⟩
      cases a with
      | c x => exact hm h.1
      | agg xs => obtain ⟨us, h1, h2⟩ := h.1; exact ⟨us, h1, hcs h2⟩
      | ref cs => exact absurd hn.1 (by simp [AV.isRef])
theorem JO {f : FuncId} {avs : List AV} {x : Value} {vs : Array Value} {A : Nat → Prop} {g q : Nat} (hc : Qq P f avs [.c (.p (.v x))] []) (hn : avs.any AV.isRef = false) (hA : ∀ x, A x → x < w.heap.size) (hR : C9 w A (fun _ => none) g q avs vs.toList) :
    Calls P f vs w fun e w' => e = .returned x ∧ w.grownBy w' none := by
  refine (hc.run A (fun _ => none) w.heap.size 0 w vs hA (fun n m x h => by cases h) (fun n x h => by cases h) (fun _ => ⟨fun _ => rfl, rfl⟩) (A1 ⟨rfl, rfl, rfl, Nat.le_refl _, fun _ _ _ => rfl⟩ hA hn hR)).mono ?_
  rintro e w' ⟨v, A', gs', h1, h2, h3, h4, h5, h6, h7, h8, h9, h10, h11, h12⟩
  have hv : v = x := by
    have := h11.2.1
    cases this with | v _ _ => rfl
  subst hv
  exact ⟨h1, h6, h7, h8, h4, fun k hk _ => h5 k hk (by omega) (fun n h => by cases h)⟩
theorem Wd {f : FuncId} {avs : List AV} {x : Value} (he : Ca P f = true) (hx : Kv x = true) (hn : avs.any AV.isRef = false) (h : ∀ A q w vs, (∀ x, A x → x < w.heap.size) → C9 w A (fun _ => none) w.heap.size q avs vs.toList → Calls P f vs w fun e w' => e = .returned x ∧ w.grownBy w' none) : Qq P f avs [.c (.p (.v x))] [] := by
  refine ⟨he, fun A gs g q w vs hA hinj hgs hg hR => ?_⟩
  obtain ⟨hg1, rfl⟩ := hg hn
  have e : gs = fun _ => none := funext hg1
  subst e
  refine (h A q w vs hA hR).mono ?_
  rintro _ w' ⟨rfl, hgr⟩
  exact ⟨x, A, fun _ => none, rfl, fun _ h => h, fun _ h => .inl h, hgr.size, fun y hy _ _ => hgr.block y hy (by simp), hgr.os, hgr.tape, hgr.output, fun n m y h => (by cases h), fun n y h => (by cases h), ⟨Ks hx, .v x hx, trivial⟩, fun h => by rw [hn] at h; cases h⟩
end
end Go.Proofs.Ytmkhonigljegbaa
namespace Go.Proofs.Ytmkhonigljegbaa
open Go.RowKit Go.ChangeShapes Go.WideShapes
theorem ret_b {x y : Bool} (h : x = y) : Ending.returned (.bool x) = .returned (.bool y) := by rw [h]
end Go.Proofs.Ytmkhonigljegbaa
namespace Go.Proofs.Ytmkhonigljegbaa
open Go.RowKit Go.ChangeShapes Go.WideShapes
theorem We {σ : Type} {step : (σ → Prop) → σ → Prop} (I : Nat → σ → Prop) (h : ∀ k s, I k s → ∀ X : σ → Prop, (∀ k' s', k' < k → I k' s' → X s') → step X s) {k : Nat} {s : σ} (h0 : I k s) : lp step s := by
  intro X hX
  have key : ∀ k s, I k s → X s := by
    intro k
    induction k using Nat.strongRecOn with
    | _ k ih => exact fun s hs => hX s (h k s hs X fun k' s' hk hs' => ih k' hk s' hs')
  exact key k s h0
theorem KP {α : Type} {l : List α} {n : Int} {j : Nat} {x : α} (hn : n = (j : Int)) (h : l[j]? = some x) : ix l n x := by
  subst hn; exact ⟨by omega, by simpa using h⟩
theorem bx_of {s : ByteArray} {n v : Int} {j : Nat} (hn : n = (j : Int)) (hj : j < s.size) (h : v = (s[j].toNat : Int)) : bx s n v := by
  subst hn; exact ⟨by omega, s[j], by simp [hj], h⟩
theorem YI {n : Int} (h : -9223372036854775808 ≤ n ∧ n ≤ 9223372036854775807) : IntKind.i64.wrap n = n := by rw [IntKind.wrap_i64]; omega
theorem X1 (n : Nat) : Int.toNat (n : Int) = n := by simp
def wI (n lo hi : Int) : Bool := decide (lo ≤ n ∧ n ≤ hi)
def GM {R : Type} (G G' : (R → Prop) → Prop) : Prop := ∀ Post : R → Prop, G Post → ∃ r, G' (fun x => r = x) ∧ Post r
section
variable {R α σ : Type}
theorem GM.ret (e : R) : GM (fun Q => Q e) (fun Q => Q e) := fun Post h => ⟨e, rfl, h⟩
theorem GM.and {p : Prop} {G G' : (R → Prop) → Prop} (h : GM G G') : GM (fun Q => p ∧ G Q) (fun Q => p ∧ G' Q) := fun Post ⟨hp, hg⟩ => let ⟨r, h1, h2⟩ := h Post hg; ⟨r, ⟨hp, h1⟩, h2⟩
theorem GM.ex {p : α → Prop} {G G' : α → (R → Prop) → Prop} (h : ∀ a, GM (G a) (G' a)) : GM (fun Q => ∃ a, p a ∧ G a Q) (fun Q => ∃ a, p a ∧ G' a Q) := fun Post ⟨a, hp, hg⟩ => let ⟨r, h1, h2⟩ := h a Post hg; ⟨r, ⟨a, hp, h1⟩, h2⟩
theorem GM.cond {c : Bool} {A A' B B' : (R → Prop) → Prop} (h1 : GM A A') (h2 : GM B B') : GM (fun Q => (c = true → A Q) ∧ (c = false → B Q)) (fun Q => (c = true → A' Q) ∧ (c = false → B' Q)) := fun Post h => by
  cases c with
  | true => obtain ⟨r, h3, h4⟩ := h1 Post (h.1 rfl); exact ⟨r, ⟨fun _ => h3, (fun h => by cases h)⟩, h4⟩
  | false => obtain ⟨r, h3, h4⟩ := h2 Post (h.2 rfl); exact ⟨r, ⟨(fun h => by cases h), fun _ => h3⟩, h4⟩
theorem GM.join {k k' : α → (R → Prop) → Prop} {m m' : (α → Prop) → (R → Prop) → Prop} (h1 : ∀ p, GM (k p) (k' p)) (h2 : ∀ K K' : α → (R → Prop) → Prop, (∀ p, GM (K p) (K' p)) → GM (fun Q => m (fun p => K p Q) Q) (fun Q => m' (fun p => K' p Q) Q)) :
    GM (fun Q => jn (fun p => k p Q) (fun J => m J Q)) (fun Q => jn (fun p => k' p Q) (fun J => m' J Q)) := h2 k k' h1
theorem GM.loop {step step' : (σ → Prop) → σ → (R → Prop) → Prop} {s0 : σ} (hm : ∀ (X Y : σ → Prop) (Q : R → Prop) (s : σ), (∀ s, X s → Y s) → step' X s Q → step' Y s Q)
    (h : ∀ K K' : σ → (R → Prop) → Prop, (∀ s, GM (K s) (K' s)) → ∀ s, GM (fun Q => step (fun s => K s Q) s Q) (fun Q => step' (fun s => K' s Q) s Q)) :
    GM (fun Q => lp (fun (X : σ → Prop) (s : σ) => step X s Q) s0) (fun Q => lp (fun (X : σ → Prop) (s : σ) => step' X s Q) s0) := by
  intro Post hl
  have hl : lp (fun (X : σ → Prop) (s : σ) => step X s Post) s0 := hl
  refine hl (fun (s : σ) => ∃ r, lp (fun (X : σ → Prop) (s : σ) => step' X s (fun x => r = x)) s ∧ Post r) fun s hs => ?_
  obtain ⟨r, h1, h2⟩ := h (fun s Q => ∃ r, lp (fun (X : σ → Prop) (s : σ) => step' X s (fun x => r = x)) s ∧ Q r) (fun s Q => lp (fun (X : σ → Prop) (s : σ) => step' X s Q) s) (fun s P ⟨r, h1, h2⟩ => ⟨r, h1, h2⟩) s Post hs
  exact ⟨r, fun X hX => hX s (hm _ _ _ s (fun s' h' => h' X hX) h1), h2⟩
end
theorem Uh {α : Type} {k k' : α → Prop} {m m' : (α → Prop) → Prop} (h : jn k m) (h1 : ∀ p, k p → k' p) (h2 : ∀ J J' : α → Prop, (∀ p, J p → J' p) → m J → m' J') : jn k' m' := h2 k k' h1 h
theorem Ui {σ : Type} {step step' : (σ → Prop) → σ → Prop} {s0 : σ} (h : lp step s0) (hi : ∀ X Y : σ → Prop, (∀ s, X s → Y s) → ∀ s, step X s → step' Y s) : lp step' s0 := fun Y hY => h Y fun s hs => hY s (hi Y Y (fun _ h => h) s hs)
section
variable {E : En} {N : Nat} {P : Program} {T : Tb P} {ops : Array Oper} {o : Oper} {st : St} {r : List Oper} {acc : List (Fp × Ef)} {K : List (Fp × Ef) → St → Prop} {d : Nat} {ty : Nat} {pos : String} {af : Array Edge} {op : Op} {f : Fp} {t : TV} {fr : List (Nat × TV)} {H : List (QA × Option Bk)} {Q : Exit → St → Prop}
theorem u0 (hop : K2 E N P ops ⟨some d, op, ty, pos, af, none⟩ ⟨fr, H⟩ f ⟨t, []⟩) (h : V8 E N P ops r ((f, ⟨t, []⟩) :: acc) ⟨(d, t) :: fr, H⟩ K) : V8 E N P ops (⟨some d, op, ty, pos, af, none⟩ :: r) acc ⟨fr, H⟩ K := YO rfl hop h
theorem u1 {b1 : QA × Option Bk} (hop : K2 E N P ops ⟨some d, op, ty, pos, af, none⟩ ⟨fr, H⟩ f ⟨t, [b1]⟩) (h : V8 E N P ops r ((f, ⟨t, [b1]⟩) :: acc) ⟨(d, t) :: fr, b1 :: H⟩ K) : V8 E N P ops (⟨some d, op, ty, pos, af, none⟩ :: r) acc ⟨fr, H⟩ K := D4 rfl hop h
theorem un {b1 : QA × Option Bk} (hop : K2 E N P ops ⟨none, op, ty, pos, af, none⟩ ⟨fr, H⟩ f ⟨t, [b1]⟩) (h : V8 E N P ops r ((f, ⟨t, [b1]⟩) :: acc) ⟨fr, b1 :: H⟩ K) : V8 E N P ops (⟨none, op, ty, pos, af, none⟩ :: r) acc ⟨fr, H⟩ K := D5 rfl hop h
theorem ul {bl : List (QA × Option Bk)} (hop : K2 E N P ops ⟨some d, op, ty, pos, af, none⟩ ⟨fr, H⟩ f ⟨t, bl⟩) (h : V8 E N P ops r ((f, ⟨t, bl⟩) :: acc) ⟨(d, t) :: fr, bl ++ H⟩ K) : V8 E N P ops (⟨some d, op, ty, pos, af, none⟩ :: r) acc ⟨fr, H⟩ K := Uc rfl hop h
theorem mv {k : Nat} {y : CV} (hx : (⟨fr, H⟩ : St).ev (.tmp k) = .c y) (h : V8 E N P ops r ((⟨[], []⟩, ⟨.c y, []⟩) :: acc) ⟨(d, .c y) :: fr, H⟩ K) : V8 E N P ops (⟨some d, .move (.tmp k), ty, pos, af, none⟩ :: r) acc ⟨fr, H⟩ K := YO rfl (Q7 hx rfl) h
theorem Qr {x : Operand} {y : CV} (hx : (⟨fr, H⟩ : St).ev x = .c y) (hc : Zh x = true) (h : V8 E N P ops r ((⟨[], []⟩, ⟨.c y, []⟩) :: acc) ⟨(d, .c y) :: fr, H⟩ K) : V8 E N P ops (⟨some d, .assign x, ty, pos, af, none⟩ :: r) acc ⟨fr, H⟩ K := YO rfl (Ud hx hc) h
theorem rt {L : St → Prop} (h : L st) (h1 : Ah acc.reverse = true := by kernel_rfl) {st0 : St} (h2 : Jf st0 acc = true := by kernel_rfl) : V8 E N P ops [] acc st fun acc st' => Ah acc.reverse = true ∧ Jf st0 acc = true ∧ L st' := AM ⟨h1, h2, h⟩
theorem rd {L : St → Prop} {l : List Oper} (h : L st) (h1 : Ag l acc.reverse = true := by kernel_rfl) {st0 : St} (h2 : Jf st0 acc = true := by kernel_rfl) : V8 E N P ops [] acc st fun acc st' => Ag l acc.reverse = true ∧ Jf st0 acc = true ∧ L st' := AM ⟨h1, h2, h⟩
theorem tk {x : List Oper} {id : Nat} {y : Code} (h : ∀ L : St → Prop, (∀ st, AW E N P y Q st → L st) → V8 E N P x.toArray x [] st fun acc st' => Ah acc.reverse = true ∧ Jf st acc = true ∧ L st') (hN : BY N x = true := by kernel_rfl) : AW E N P (.seq (.region id x.toArray false) y) Q st := Cj hN h
theorem dk (hm : P.follows .mixedOrders = true) {x : List Oper} {id : Nat} {y : Code} (h : ∀ L : St → Prop, (∀ st, AW E N P y Q st → L st) → V8 E N P x.toArray x [] st fun acc st' => Ag x acc.reverse = true ∧ Jf st acc = true ∧ L st') (hS : BW N x = true := by kernel_rfl) : AW E N P (.seq (.region id x.toArray true) y) Q st := Ck hm hS h
theorem tl {x : List Oper} {id : Nat} (h : ∀ L : St → Prop, (∀ st, Q .normal st → L st) → V8 E N P x.toArray x [] st fun acc st' => Ah acc.reverse = true ∧ Jf st acc = true ∧ L st') (hN : BY N x = true := by kernel_rfl) : AW E N P (.region id x.toArray false) Q st := AQ hN (h _ fun _ h => h)
theorem dl (hm : P.follows .mixedOrders = true) {x : List Oper} {id : Nat} (h : ∀ L : St → Prop, (∀ st, Q .normal st → L st) → V8 E N P x.toArray x [] st fun acc st' => Ag x acc.reverse = true ∧ Jf st acc = true ∧ L st') (hS : BW N x = true := by kernel_rfl) : AW E N P (.region id x.toArray true) Q st := AP hm hS (h _ fun _ h => h)
theorem sk {x y : Code} (h : ∀ K : St → Prop, (∀ st, AW E N P y Q st → K st) → AW E N P x (WV Q K) st) : AW E N P (.seq x y) Q st := Ue h
theorem QY {c : Operand} {x y : Code} {b : Bool} {A B : Prop} (hb : st.ev c = .c (.p (.v (.bool b)))) (h : (b = true → A) ∧ (b = false → B)) (ht : A → AW E N P x Q st) (hf : B → AW E N P y Q st) (hc : Zh c = true := by rfl) : AW E N P (.cond c x y) Q st := De hb hc (fun e => ht (h.1 e)) (fun e => hf (h.2 e))
end
structure Qw where
  fc : Int
  f3 : Int
  fy : Int
  fa3 : Int
def KU (x : Qw) : List PV := [.v (.int .i64 (x.fc)), .v (.int .i64 (x.f3)), .v (.int .i64 (x.fy)), .v (.int .u64 (x.fa3))]
structure Qv where
  fu : ByteArray
  fa1 : Int
def KI (x : Qv) : List PV := [.v (.string (x.fu)), .v (.int .i64 (x.fa1))]
structure QB where
  fc : Int
  fu : ByteArray
  fi : Int
  fa4 : Int
  f7 : Int
def Jq (x : QB) : List PV := [.v (.int .i64 (x.fc)), .v (.string (x.fu)), .v (.int .i64 (x.fi)), .v (.int .i64 (x.fa4)), .v (.int .i64 (x.f7))]
structure Qu where
  fc : Int
  fa7 : ByteArray
  fa2 : ByteArray
  fj : (List ByteArray)
  fg : Qw
  fp : (List Qv)
  f6 : (List Int)
  fq : Int
  f5 : Int
  fo : Int
  fa5 : Int
  f8 : Int
  fi : Int
  ff : QB
  fv : (List Int)
def Zp (x : Qu) : List PV := [.v (.int .i64 (x.fc)), .v (.string (x.fa7)), .v (.string (x.fa2)), .l 1 (List.map eS (x.fj)), .v (.int .i64 (x.fg.fc)), .v (.int .i64 (x.fg.f3)), .v (.int .i64 (x.fg.fy)), .v (.int .u64 (x.fg.fa3)), .l 2 (List.map KI (x.fp)), .l 1 (List.map (eI .u8) (x.f6)), .v (.int .i64 (x.fq)), .v (.int .i64 (x.f5)), .v (.int .i64 (x.fo)), .v (.int .i64 (x.fa5)), .v (.int .i64 (x.f8)), .v (.int .i64 (x.fi)), .v (.int .i64 (x.ff.fc)), .v (.string (x.ff.fu)), .v (.int .i64 (x.ff.fi)), .v (.int .i64 (x.ff.fa4)), .v (.int .i64 (x.ff.f7)), .l 1 (List.map (eI .u8) (x.fv))]
structure Qx where
  fu : ByteArray
  fi : Int
  f0 : Int
def ZZ (x : Qx) : List PV := [.v (.string (x.fu)), .v (.int .i64 (x.fi)), .v (.int .i64 (x.f0))]
structure Qs where
  fa6 : Int
  f0 : Int
  fu : ByteArray
  fa8 : (List Int)
  fa9 : (List Qx)
  fw : Bool
def Vo (x : Qs) : List PV := [.v (.int .i64 (x.fa6)), .v (.int .i64 (x.f0)), .v (.string (x.fu)), .l 1 (List.map (eI .i64) (x.fa8)), .l 3 (List.map ZZ (x.fa9)), .v (.bool (x.fw))]
structure Qj where
  fa0 : Int
  f4 : Int
  fx : Int
  fo : Int
  fj : (List ByteArray)
  f9 : Qs
  fv : (List Int)
def Zq (x : Qj) : List PV := [.v (.int .i64 (x.fa0)), .v (.int .i64 (x.f4)), .v (.int .i64 (x.fx)), .v (.int .i64 (x.fo)), .l 1 (List.map eS (x.fj)), .v (.int .i64 (x.f9.fa6)), .v (.int .i64 (x.f9.f0)), .v (.string (x.f9.fu)), .l 1 (List.map (eI .i64) (x.f9.fa8)), .l 3 (List.map ZZ (x.f9.fa9)), .v (.bool (x.f9.fw)), .l 1 (List.map (eI .u8) (x.fv))]
structure Q4 where
  fm : Int
  fOp : Qu
  fk : Int
  fb : Int
  fa : Int
  fh : Qj
def e_api_Record (x : Q4) : List PV := [.v (.int .i64 (x.fm)), .v (.int .i64 (x.fOp.fc)), .v (.string (x.fOp.fa7)), .v (.string (x.fOp.fa2)), .l 1 (List.map eS (x.fOp.fj)), .v (.int .i64 (x.fOp.fg.fc)), .v (.int .i64 (x.fOp.fg.f3)), .v (.int .i64 (x.fOp.fg.fy)), .v (.int .u64 (x.fOp.fg.fa3)), .l 2 (List.map KI (x.fOp.fp)), .l 1 (List.map (eI .u8) (x.fOp.f6)), .v (.int .i64 (x.fOp.fq)), .v (.int .i64 (x.fOp.f5)), .v (.int .i64 (x.fOp.fo)), .v (.int .i64 (x.fOp.fa5)), .v (.int .i64 (x.fOp.f8)), .v (.int .i64 (x.fOp.fi)), .v (.int .i64 (x.fOp.ff.fc)), .v (.string (x.fOp.ff.fu)), .v (.int .i64 (x.fOp.ff.fi)), .v (.int .i64 (x.fOp.ff.fa4)), .v (.int .i64 (x.fOp.ff.f7)), .l 1 (List.map (eI .u8) (x.fOp.fv)), .v (.int .i64 (x.fk)), .v (.int .i64 (x.fb)), .v (.int .i64 (x.fa)), .v (.int .i64 (x.fh.fa0)), .v (.int .i64 (x.fh.f4)), .v (.int .i64 (x.fh.fx)), .v (.int .i64 (x.fh.fo)), .l 1 (List.map eS (x.fh.fj)), .v (.int .i64 (x.fh.f9.fa6)), .v (.int .i64 (x.fh.f9.f0)), .v (.string (x.fh.f9.fu)), .l 1 (List.map (eI .i64) (x.fh.f9.fa8)), .l 3 (List.map ZZ (x.fh.f9.fa9)), .v (.bool (x.fh.f9.fw)), .l 1 (List.map (eI .u8) (x.fh.fv))]
structure Z7 where
  fe0 : Bool
  fe1 : Bool
  fe2 : Bool
  fe3 : Bool
  fe4 : Bool
  fe5 : Bool
  fe6 : Bool
  fe7 : Bool
  fe8 : Bool
  fe9 : Bool
  fe10 : Bool
  fe11 : Bool
  fe12 : Bool
def KJ (x : Z7) : List PV := [.v (.bool (x.fe0)), .v (.bool (x.fe1)), .v (.bool (x.fe2)), .v (.bool (x.fe3)), .v (.bool (x.fe4)), .v (.bool (x.fe5)), .v (.bool (x.fe6)), .v (.bool (x.fe7)), .v (.bool (x.fe8)), .v (.bool (x.fe9)), .v (.bool (x.fe10)), .v (.bool (x.fe11)), .v (.bool (x.fe12))]
set_option maxRecDepth 20000
theorem te_2 : QW Try.prog 2 = some ⟨.int .i64, 1, 8, .int .i64 0⟩ := by kernel_rfl
theorem te_3 : QW Try.prog 3 = some ⟨.int .i64, 1, 8, .int .i64 0⟩ := by kernel_rfl
theorem te_4 : QW Try.prog 4 = some ⟨.bool, 1, 1, .bool false⟩ := by kernel_rfl
theorem te_5 : QW Try.prog 5 = some ⟨.int .u8, 1, 1, .int .u8 0⟩ := by kernel_rfl
theorem te_6 : QW Try.prog 6 = some ⟨.int .u8, 1, 1, .int .u8 0⟩ := by kernel_rfl
theorem te_7 : QW Try.prog 7 = some ⟨.struct [(0, 2), (1, 3), (2, 4), (3, 6)], 4, 24, .agg #[.int .i64 0, .int .i64 0, .bool false, .int .u8 0]⟩ := by kernel_rfl
theorem te_8 : QW Try.prog 8 = some ⟨.struct [(0, 2), (1, 3), (2, 4), (3, 6)], 4, 24, .agg #[.int .i64 0, .int .i64 0, .bool false, .int .u8 0]⟩ := by kernel_rfl
theorem te_9 : QW Try.prog 9 = some ⟨.string, 1, 16, .string ByteArray.empty⟩ := by kernel_rfl
theorem te_10 : QW Try.prog 10 = some ⟨.string, 1, 16, .string ByteArray.empty⟩ := by kernel_rfl
theorem te_11 : QW Try.prog 11 = some ⟨.string, 1, 16, .string ByteArray.empty⟩ := by kernel_rfl
theorem te_12 : QW Try.prog 12 = some ⟨.int .u64, 1, 8, .int .u64 0⟩ := by kernel_rfl
theorem te_13 : QW Try.prog 13 = some ⟨.struct [(0, 9), (1, 12)], 2, 24, .agg #[.string ByteArray.empty, .int .u64 0]⟩ := by kernel_rfl
theorem te_14 : QW Try.prog 14 = some ⟨.struct [(0, 9), (1, 12)], 2, 24, .agg #[.string ByteArray.empty, .int .u64 0]⟩ := by kernel_rfl
theorem te_15 : QW Try.prog 15 = some ⟨.ptr 84, 1, 8, .pointer none⟩ := by kernel_rfl
theorem te_16 : QW Try.prog 16 = some ⟨.ptr 87, 1, 8, .pointer none⟩ := by kernel_rfl
theorem te_17 : QW Try.prog 17 = some ⟨.ptr 97, 1, 8, .pointer none⟩ := by kernel_rfl
theorem te_18 : QW Try.prog 18 = some ⟨.struct [(0, 17)], 1, 8, .agg #[.pointer none]⟩ := by kernel_rfl
theorem te_19 : QW Try.prog 19 = some ⟨.struct [(0, 17)], 1, 8, .agg #[.pointer none]⟩ := by kernel_rfl
theorem te_21 : QW Try.prog 21 = some ⟨.int .i32, 1, 4, .int .i32 0⟩ := by kernel_rfl
theorem te_22 : QW Try.prog 22 = some ⟨.slice 48, 1, 24, .slice none 0 0⟩ := by kernel_rfl
theorem te_23 : QW Try.prog 23 = some ⟨.slice 3, 1, 24, .slice none 0 0⟩ := by kernel_rfl
theorem te_27 : QW Try.prog 27 = some ⟨.int .i64, 1, 8, .int .i64 0⟩ := by kernel_rfl
theorem te_32 : QW Try.prog 32 = some ⟨.slice 9, 1, 24, .slice none 0 0⟩ := by kernel_rfl
theorem te_33 : QW Try.prog 33 = some ⟨.int .u64, 1, 8, .int .u64 0⟩ := by kernel_rfl
theorem te_34 : QW Try.prog 34 = some ⟨.struct [(0, 3), (1, 3), (2, 3), (3, 33)], 4, 32, .agg #[.int .i64 0, .int .i64 0, .int .i64 0, .int .u64 0]⟩ := by kernel_rfl
theorem te_35 : QW Try.prog 35 = some ⟨.struct [(0, 3), (1, 3), (2, 3), (3, 33)], 4, 32, .agg #[.int .i64 0, .int .i64 0, .int .i64 0, .int .u64 0]⟩ := by kernel_rfl
theorem te_36 : QW Try.prog 36 = some ⟨.slice 73, 1, 24, .slice none 0 0⟩ := by kernel_rfl
theorem te_37 : QW Try.prog 37 = some ⟨.slice 5, 1, 24, .slice none 0 0⟩ := by kernel_rfl
theorem te_38 : QW Try.prog 38 = some ⟨.struct [(0, 3), (1, 9), (2, 3), (3, 3), (4, 3)], 5, 48, .agg #[.int .i64 0, .string ByteArray.empty, .int .i64 0, .int .i64 0, .int .i64 0]⟩ := by kernel_rfl
theorem te_39 : QW Try.prog 39 = some ⟨.struct [(0, 3), (1, 9), (2, 3), (3, 3), (4, 3)], 5, 48, .agg #[.int .i64 0, .string ByteArray.empty, .int .i64 0, .int .i64 0, .int .i64 0]⟩ := by kernel_rfl
theorem te_40 : QW Try.prog 40 = some ⟨.struct [(0, 3), (1, 9), (2, 9), (3, 32), (4, 35), (8, 36), (9, 37), (10, 3), (11, 3), (12, 3), (13, 3), (14, 3), (15, 3), (16, 39), (21, 37)], 22, 264, .agg #[.int .i64 0, .string ByteArray.empty, .string ByteArray.empty, .slice none 0 0, .int .i64 0, .int .i64 0, .int .i64 0, .int .u64 0, .slice none 0 0, .slice none 0 0, .int .i64 0, .int .i64 0, .int .i64 0, .int .i64 0, .int .i64 0, .int .i64 0, .int .i64 0, .string ByteArray.empty, .int .i64 0, .int .i64 0, .int .i64 0, .slice none 0 0]⟩ := by kernel_rfl
theorem te_41 : QW Try.prog 41 = some ⟨.struct [(0, 3), (1, 9), (2, 9), (3, 32), (4, 35), (8, 36), (9, 37), (10, 3), (11, 3), (12, 3), (13, 3), (14, 3), (15, 3), (16, 39), (21, 37)], 22, 264, .agg #[.int .i64 0, .string ByteArray.empty, .string ByteArray.empty, .slice none 0 0, .int .i64 0, .int .i64 0, .int .i64 0, .int .u64 0, .slice none 0 0, .slice none 0 0, .int .i64 0, .int .i64 0, .int .i64 0, .int .i64 0, .int .i64 0, .int .i64 0, .int .i64 0, .string ByteArray.empty, .int .i64 0, .int .i64 0, .int .i64 0, .slice none 0 0]⟩ := by kernel_rfl
theorem te_42 : QW Try.prog 42 = some ⟨.slice 81, 1, 24, .slice none 0 0⟩ := by kernel_rfl
theorem te_43 : QW Try.prog 43 = some ⟨.struct [(0, 3), (1, 3), (2, 9), (3, 23), (4, 42), (5, 4)], 6, 88, .agg #[.int .i64 0, .int .i64 0, .string ByteArray.empty, .slice none 0 0, .slice none 0 0, .bool false]⟩ := by kernel_rfl
theorem te_44 : QW Try.prog 44 = some ⟨.struct [(0, 3), (1, 3), (2, 9), (3, 23), (4, 42), (5, 4)], 6, 88, .agg #[.int .i64 0, .int .i64 0, .string ByteArray.empty, .slice none 0 0, .slice none 0 0, .bool false]⟩ := by kernel_rfl
theorem te_45 : QW Try.prog 45 = some ⟨.struct [(0, 27), (1, 3), (2, 3), (3, 3), (4, 32), (5, 44), (11, 37)], 12, 168, .agg #[.int .i64 0, .int .i64 0, .int .i64 0, .int .i64 0, .slice none 0 0, .int .i64 0, .int .i64 0, .string ByteArray.empty, .slice none 0 0, .slice none 0 0, .bool false, .slice none 0 0]⟩ := by kernel_rfl
theorem te_46 : QW Try.prog 46 = some ⟨.struct [(0, 27), (1, 3), (2, 3), (3, 3), (4, 32), (5, 44), (11, 37)], 12, 168, .agg #[.int .i64 0, .int .i64 0, .int .i64 0, .int .i64 0, .slice none 0 0, .int .i64 0, .int .i64 0, .string ByteArray.empty, .slice none 0 0, .slice none 0 0, .bool false, .slice none 0 0]⟩ := by kernel_rfl
theorem te_47 : QW Try.prog 47 = some ⟨.struct [(0, 3), (1, 41), (23, 3), (24, 3), (25, 3), (26, 46)], 38, 464, .agg #[.int .i64 0, .int .i64 0, .string ByteArray.empty, .string ByteArray.empty, .slice none 0 0, .int .i64 0, .int .i64 0, .int .i64 0, .int .u64 0, .slice none 0 0, .slice none 0 0, .int .i64 0, .int .i64 0, .int .i64 0, .int .i64 0, .int .i64 0, .int .i64 0, .int .i64 0, .string ByteArray.empty, .int .i64 0, .int .i64 0, .int .i64 0, .slice none 0 0, .int .i64 0, .int .i64 0, .int .i64 0, .int .i64 0, .int .i64 0, .int .i64 0, .int .i64 0, .slice none 0 0, .int .i64 0, .int .i64 0, .string ByteArray.empty, .slice none 0 0, .slice none 0 0, .bool false, .slice none 0 0]⟩ := by kernel_rfl
theorem te_48 : QW Try.prog 48 = some ⟨.struct [(0, 3), (1, 41), (23, 3), (24, 3), (25, 3), (26, 46)], 38, 464, .agg #[.int .i64 0, .int .i64 0, .string ByteArray.empty, .string ByteArray.empty, .slice none 0 0, .int .i64 0, .int .i64 0, .int .i64 0, .int .u64 0, .slice none 0 0, .slice none 0 0, .int .i64 0, .int .i64 0, .int .i64 0, .int .i64 0, .int .i64 0, .int .i64 0, .int .i64 0, .string ByteArray.empty, .int .i64 0, .int .i64 0, .int .i64 0, .slice none 0 0, .int .i64 0, .int .i64 0, .int .i64 0, .int .i64 0, .int .i64 0, .int .i64 0, .int .i64 0, .slice none 0 0, .int .i64 0, .int .i64 0, .string ByteArray.empty, .slice none 0 0, .slice none 0 0, .bool false, .slice none 0 0]⟩ := by kernel_rfl
theorem te_52 : QW Try.prog 52 = some ⟨.other, 1, 8, .map none⟩ := by kernel_rfl
theorem te_54 : QW Try.prog 54 = some ⟨.array 14 4, 14, 14, .agg #[.bool false, .bool false, .bool false, .bool false, .bool false, .bool false, .bool false, .bool false, .bool false, .bool false, .bool false, .bool false, .bool false, .bool false]⟩ := by kernel_rfl
theorem te_67 : QW Try.prog 67 = some ⟨.array 13 4, 13, 13, .agg #[.bool false, .bool false, .bool false, .bool false, .bool false, .bool false, .bool false, .bool false, .bool false, .bool false, .bool false, .bool false, .bool false]⟩ := by kernel_rfl
theorem te_72 : QW Try.prog 72 = some ⟨.struct [(0, 9), (1, 3)], 2, 24, .agg #[.string ByteArray.empty, .int .i64 0]⟩ := by kernel_rfl
theorem te_73 : QW Try.prog 73 = some ⟨.struct [(0, 9), (1, 3)], 2, 24, .agg #[.string ByteArray.empty, .int .i64 0]⟩ := by kernel_rfl
theorem te_80 : QW Try.prog 80 = some ⟨.struct [(0, 9), (1, 3), (2, 3)], 3, 32, .agg #[.string ByteArray.empty, .int .i64 0, .int .i64 0]⟩ := by kernel_rfl
theorem te_81 : QW Try.prog 81 = some ⟨.struct [(0, 9), (1, 3), (2, 3)], 3, 32, .agg #[.string ByteArray.empty, .int .i64 0, .int .i64 0]⟩ := by kernel_rfl
theorem te_83 : QW Try.prog 83 = some ⟨.struct [(0, 17), (1, 17), (2, 17), (3, 9)], 4, 40, .agg #[.pointer none, .pointer none, .pointer none, .string ByteArray.empty]⟩ := by kernel_rfl
theorem te_84 : QW Try.prog 84 = some ⟨.struct [(0, 17), (1, 17), (2, 17), (3, 9)], 4, 40, .agg #[.pointer none, .pointer none, .pointer none, .string ByteArray.empty]⟩ := by kernel_rfl
theorem te_85 : QW Try.prog 85 = some ⟨.array 0 16, 0, 0, .agg #[]⟩ := by kernel_rfl
theorem te_86 : QW Try.prog 86 = some ⟨.struct [(0, 85)], 0, 0, .agg #[]⟩ := by kernel_rfl
theorem te_87 : QW Try.prog 87 = some ⟨.struct [(0, 85)], 0, 0, .agg #[]⟩ := by kernel_rfl
theorem te_89 : QW Try.prog 89 = some ⟨.int .u32, 1, 4, .int .u32 0⟩ := by kernel_rfl
theorem te_90 : QW Try.prog 90 = some ⟨.int .u8, 1, 1, .int .u8 0⟩ := by kernel_rfl
theorem te_91 : QW Try.prog 91 = some ⟨.int .u8, 1, 1, .int .u8 0⟩ := by kernel_rfl
theorem te_93 : QW Try.prog 93 = some ⟨.ptr 5, 1, 8, .pointer none⟩ := by kernel_rfl
theorem te_94 : QW Try.prog 94 = some ⟨.int .i32, 1, 4, .int .i32 0⟩ := by kernel_rfl
theorem te_95 : QW Try.prog 95 = some ⟨.int .i32, 1, 4, .int .i32 0⟩ := by kernel_rfl
theorem te_96 : QW Try.prog 96 = some ⟨.struct [(0, 12), (1, 12), (2, 89), (3, 90), (4, 5), (5, 5), (6, 91), (7, 92), (8, 93), (9, 94), (10, 95)], 11, 48, .agg #[.int .u64 0, .int .u64 0, .int .u32 0, .int .u8 0, .int .u8 0, .int .u8 0, .int .u8 0, .nilFunc, .pointer none, .int .i32 0, .int .i32 0]⟩ := by kernel_rfl
theorem te_97 : QW Try.prog 97 = some ⟨.struct [(0, 12), (1, 12), (2, 89), (3, 90), (4, 5), (5, 5), (6, 91), (7, 92), (8, 93), (9, 94), (10, 95)], 11, 48, .agg #[.int .u64 0, .int .u64 0, .int .u32 0, .int .u8 0, .int .u8 0, .int .u8 0, .int .u8 0, .nilFunc, .pointer none, .int .i32 0, .int .i32 0]⟩ := by kernel_rfl
def tbl : List (Nat × TE) := [(2, ⟨.int .i64, 1, 8, .int .i64 0⟩),
  (3, ⟨.int .i64, 1, 8, .int .i64 0⟩),
  (4, ⟨.bool, 1, 1, .bool false⟩),
  (5, ⟨.int .u8, 1, 1, .int .u8 0⟩),
  (6, ⟨.int .u8, 1, 1, .int .u8 0⟩),
  (7, ⟨.struct [(0, 2), (1, 3), (2, 4), (3, 6)], 4, 24, .agg #[.int .i64 0, .int .i64 0, .bool false, .int .u8 0]⟩),
  (8, ⟨.struct [(0, 2), (1, 3), (2, 4), (3, 6)], 4, 24, .agg #[.int .i64 0, .int .i64 0, .bool false, .int .u8 0]⟩),
  (9, ⟨.string, 1, 16, .string ByteArray.empty⟩),
  (10, ⟨.string, 1, 16, .string ByteArray.empty⟩),
  (11, ⟨.string, 1, 16, .string ByteArray.empty⟩),
  (12, ⟨.int .u64, 1, 8, .int .u64 0⟩),
  (13, ⟨.struct [(0, 9), (1, 12)], 2, 24, .agg #[.string ByteArray.empty, .int .u64 0]⟩),
  (14, ⟨.struct [(0, 9), (1, 12)], 2, 24, .agg #[.string ByteArray.empty, .int .u64 0]⟩),
  (15, ⟨.ptr 84, 1, 8, .pointer none⟩),
  (16, ⟨.ptr 87, 1, 8, .pointer none⟩),
  (17, ⟨.ptr 97, 1, 8, .pointer none⟩),
  (18, ⟨.struct [(0, 17)], 1, 8, .agg #[.pointer none]⟩),
  (19, ⟨.struct [(0, 17)], 1, 8, .agg #[.pointer none]⟩),
  (21, ⟨.int .i32, 1, 4, .int .i32 0⟩),
  (22, ⟨.slice 48, 1, 24, .slice none 0 0⟩),
  (23, ⟨.slice 3, 1, 24, .slice none 0 0⟩),
  (27, ⟨.int .i64, 1, 8, .int .i64 0⟩),
  (32, ⟨.slice 9, 1, 24, .slice none 0 0⟩),
  (33, ⟨.int .u64, 1, 8, .int .u64 0⟩),
  (34, ⟨.struct [(0, 3), (1, 3), (2, 3), (3, 33)], 4, 32, .agg #[.int .i64 0, .int .i64 0, .int .i64 0, .int .u64 0]⟩),
  (35, ⟨.struct [(0, 3), (1, 3), (2, 3), (3, 33)], 4, 32, .agg #[.int .i64 0, .int .i64 0, .int .i64 0, .int .u64 0]⟩),
  (36, ⟨.slice 73, 1, 24, .slice none 0 0⟩),
  (37, ⟨.slice 5, 1, 24, .slice none 0 0⟩),
  (38, ⟨.struct [(0, 3), (1, 9), (2, 3), (3, 3), (4, 3)], 5, 48, .agg #[.int .i64 0, .string ByteArray.empty, .int .i64 0, .int .i64 0, .int .i64 0]⟩),
  (39, ⟨.struct [(0, 3), (1, 9), (2, 3), (3, 3), (4, 3)], 5, 48, .agg #[.int .i64 0, .string ByteArray.empty, .int .i64 0, .int .i64 0, .int .i64 0]⟩),
  (40, ⟨.struct [(0, 3), (1, 9), (2, 9), (3, 32), (4, 35), (8, 36), (9, 37), (10, 3), (11, 3), (12, 3), (13, 3), (14, 3), (15, 3), (16, 39), (21, 37)], 22, 264, .agg #[.int .i64 0, .string ByteArray.empty, .string ByteArray.empty, .slice none 0 0, .int .i64 0, .int .i64 0, .int .i64 0, .int .u64 0, .slice none 0 0, .slice none 0 0, .int .i64 0, .int .i64 0, .int .i64 0, .int .i64 0, .int .i64 0, .int .i64 0, .int .i64 0, .string ByteArray.empty, .int .i64 0, .int .i64 0, .int .i64 0, .slice none 0 0]⟩),
  (41, ⟨.struct [(0, 3), (1, 9), (2, 9), (3, 32), (4, 35), (8, 36), (9, 37), (10, 3), (11, 3), (12, 3), (13, 3), (14, 3), (15, 3), (16, 39), (21, 37)], 22, 264, .agg #[.int .i64 0, .string ByteArray.empty, .string ByteArray.empty, .slice none 0 0, .int .i64 0, .int .i64 0, .int .i64 0, .int .u64 0, .slice none 0 0, .slice none 0 0, .int .i64 0, .int .i64 0, .int .i64 0, .int .i64 0, .int .i64 0, .int .i64 0, .int .i64 0, .string ByteArray.empty, .int .i64 0, .int .i64 0, .int .i64 0, .slice none 0 0]⟩),
  (42, ⟨.slice 81, 1, 24, .slice none 0 0⟩),
  (43, ⟨.struct [(0, 3), (1, 3), (2, 9), (3, 23), (4, 42), (5, 4)], 6, 88, .agg #[.int .i64 0, .int .i64 0, .string ByteArray.empty, .slice none 0 0, .slice none 0 0, .bool false]⟩),
  (44, ⟨.struct [(0, 3), (1, 3), (2, 9), (3, 23), (4, 42), (5, 4)], 6, 88, .agg #[.int .i64 0, .int .i64 0, .string ByteArray.empty, .slice none 0 0, .slice none 0 0, .bool false]⟩),
  (45, ⟨.struct [(0, 27), (1, 3), (2, 3), (3, 3), (4, 32), (5, 44), (11, 37)], 12, 168, .agg #[.int .i64 0, .int .i64 0, .int .i64 0, .int .i64 0, .slice none 0 0, .int .i64 0, .int .i64 0, .string ByteArray.empty, .slice none 0 0, .slice none 0 0, .bool false, .slice none 0 0]⟩),
  (46, ⟨.struct [(0, 27), (1, 3), (2, 3), (3, 3), (4, 32), (5, 44), (11, 37)], 12, 168, .agg #[.int .i64 0, .int .i64 0, .int .i64 0, .int .i64 0, .slice none 0 0, .int .i64 0, .int .i64 0, .string ByteArray.empty, .slice none 0 0, .slice none 0 0, .bool false, .slice none 0 0]⟩),
  (47, ⟨.struct [(0, 3), (1, 41), (23, 3), (24, 3), (25, 3), (26, 46)], 38, 464, .agg #[.int .i64 0, .int .i64 0, .string ByteArray.empty, .string ByteArray.empty, .slice none 0 0, .int .i64 0, .int .i64 0, .int .i64 0, .int .u64 0, .slice none 0 0, .slice none 0 0, .int .i64 0, .int .i64 0, .int .i64 0, .int .i64 0, .int .i64 0, .int .i64 0, .int .i64 0, .string ByteArray.empty, .int .i64 0, .int .i64 0, .int .i64 0, .slice none 0 0, .int .i64 0, .int .i64 0, .int .i64 0, .int .i64 0, .int .i64 0, .int .i64 0, .int .i64 0, .slice none 0 0, .int .i64 0, .int .i64 0, .string ByteArray.empty, .slice none 0 0, .slice none 0 0, .bool false, .slice none 0 0]⟩),
  (48, ⟨.struct [(0, 3), (1, 41), (23, 3), (24, 3), (25, 3), (26, 46)], 38, 464, .agg #[.int .i64 0, .int .i64 0, .string ByteArray.empty, .string ByteArray.empty, .slice none 0 0, .int .i64 0, .int .i64 0, .int .i64 0, .int .u64 0, .slice none 0 0, .slice none 0 0, .int .i64 0, .int .i64 0, .int .i64 0, .int .i64 0, .int .i64 0, .int .i64 0, .int .i64 0, .string ByteArray.empty, .int .i64 0, .int .i64 0, .int .i64 0, .slice none 0 0, .int .i64 0, .int .i64 0, .int .i64 0, .int .i64 0, .int .i64 0, .int .i64 0, .int .i64 0, .slice none 0 0, .int .i64 0, .int .i64 0, .string ByteArray.empty, .slice none 0 0, .slice none 0 0, .bool false, .slice none 0 0]⟩),
  (52, ⟨.other, 1, 8, .map none⟩),
  (54, ⟨.array 14 4, 14, 14, .agg #[.bool false, .bool false, .bool false, .bool false, .bool false, .bool false, .bool false, .bool false, .bool false, .bool false, .bool false, .bool false, .bool false, .bool false]⟩),
  (67, ⟨.array 13 4, 13, 13, .agg #[.bool false, .bool false, .bool false, .bool false, .bool false, .bool false, .bool false, .bool false, .bool false, .bool false, .bool false, .bool false, .bool false]⟩),
  (72, ⟨.struct [(0, 9), (1, 3)], 2, 24, .agg #[.string ByteArray.empty, .int .i64 0]⟩),
  (73, ⟨.struct [(0, 9), (1, 3)], 2, 24, .agg #[.string ByteArray.empty, .int .i64 0]⟩),
  (80, ⟨.struct [(0, 9), (1, 3), (2, 3)], 3, 32, .agg #[.string ByteArray.empty, .int .i64 0, .int .i64 0]⟩),
  (81, ⟨.struct [(0, 9), (1, 3), (2, 3)], 3, 32, .agg #[.string ByteArray.empty, .int .i64 0, .int .i64 0]⟩),
  (83, ⟨.struct [(0, 17), (1, 17), (2, 17), (3, 9)], 4, 40, .agg #[.pointer none, .pointer none, .pointer none, .string ByteArray.empty]⟩),
  (84, ⟨.struct [(0, 17), (1, 17), (2, 17), (3, 9)], 4, 40, .agg #[.pointer none, .pointer none, .pointer none, .string ByteArray.empty]⟩),
  (85, ⟨.array 0 16, 0, 0, .agg #[]⟩),
  (86, ⟨.struct [(0, 85)], 0, 0, .agg #[]⟩),
  (87, ⟨.struct [(0, 85)], 0, 0, .agg #[]⟩),
  (89, ⟨.int .u32, 1, 4, .int .u32 0⟩),
  (90, ⟨.int .u8, 1, 1, .int .u8 0⟩),
  (91, ⟨.int .u8, 1, 1, .int .u8 0⟩),
  (93, ⟨.ptr 5, 1, 8, .pointer none⟩),
  (94, ⟨.int .i32, 1, 4, .int .i32 0⟩),
  (95, ⟨.int .i32, 1, 4, .int .i32 0⟩),
  (96, ⟨.struct [(0, 12), (1, 12), (2, 89), (3, 90), (4, 5), (5, 5), (6, 91), (7, 92), (8, 93), (9, 94), (10, 95)], 11, 48, .agg #[.int .u64 0, .int .u64 0, .int .u32 0, .int .u8 0, .int .u8 0, .int .u8 0, .int .u8 0, .nilFunc, .pointer none, .int .i32 0, .int .i32 0]⟩),
  (97, ⟨.struct [(0, 12), (1, 12), (2, 89), (3, 90), (4, 5), (5, 5), (6, 91), (7, 92), (8, 93), (9, 94), (10, 95)], 11, 48, .agg #[.int .u64 0, .int .u64 0, .int .u32 0, .int .u8 0, .int .u8 0, .int .u8 0, .int .u8 0, .nilFunc, .pointer none, .int .i32 0, .int .i32 0]⟩)]
theorem Dv : ∀ y ∈ tbl, QW Try.prog y.1 = some y.2 :=
  (List.forall_mem_cons.2 ⟨te_2, (List.forall_mem_cons.2 ⟨te_3, (List.forall_mem_cons.2 ⟨te_4, (List.forall_mem_cons.2 ⟨te_5, (List.forall_mem_cons.2 ⟨te_6, (List.forall_mem_cons.2 ⟨te_7, (List.forall_mem_cons.2 ⟨te_8, (List.forall_mem_cons.2 ⟨te_9, (List.forall_mem_cons.2 ⟨te_10, (List.forall_mem_cons.2 ⟨te_11, (List.forall_mem_cons.2 ⟨te_12, (List.forall_mem_cons.2 ⟨te_13, (List.forall_mem_cons.2 ⟨te_14, (List.forall_mem_cons.2 ⟨te_15, (List.forall_mem_cons.2 ⟨te_16, (List.forall_mem_cons.2 ⟨te_17, (List.forall_mem_cons.2 ⟨te_18, (List.forall_mem_cons.2 ⟨te_19, (List.forall_mem_cons.2 ⟨te_21, (List.forall_mem_cons.2 ⟨te_22, (List.forall_mem_cons.2 ⟨te_23, (List.forall_mem_cons.2 ⟨te_27, (List.forall_mem_cons.2 ⟨te_32, (List.forall_mem_cons.2 ⟨te_33, (List.forall_mem_cons.2 ⟨te_34, (List.forall_mem_cons.2 ⟨te_35, (List.forall_mem_cons.2 ⟨te_36, (List.forall_mem_cons.2 ⟨te_37, (List.forall_mem_cons.2 ⟨te_38, (List.forall_mem_cons.2 ⟨te_39, (List.forall_mem_cons.2 ⟨te_40, (List.forall_mem_cons.2 ⟨te_41, (List.forall_mem_cons.2 ⟨te_42, (List.forall_mem_cons.2 ⟨te_43, (List.forall_mem_cons.2 ⟨te_44, (List.forall_mem_cons.2 ⟨te_45, (List.forall_mem_cons.2 ⟨te_46, (List.forall_mem_cons.2 ⟨te_47, (List.forall_mem_cons.2 ⟨te_48, (List.forall_mem_cons.2 ⟨te_52, (List.forall_mem_cons.2 ⟨te_54, (List.forall_mem_cons.2 ⟨te_67, (List.forall_mem_cons.2 ⟨te_72, (List.forall_mem_cons.2 ⟨te_73, (List.forall_mem_cons.2 ⟨te_80, (List.forall_mem_cons.2 ⟨te_81, (List.forall_mem_cons.2 ⟨te_83, (List.forall_mem_cons.2 ⟨te_84, (List.forall_mem_cons.2 ⟨te_85, (List.forall_mem_cons.2 ⟨te_86, (List.forall_mem_cons.2 ⟨te_87, (List.forall_mem_cons.2 ⟨te_89, (List.forall_mem_cons.2 ⟨te_90, (List.forall_mem_cons.2 ⟨te_91, (List.forall_mem_cons.2 ⟨te_93, (List.forall_mem_cons.2 ⟨te_94, (List.forall_mem_cons.2 ⟨te_95, (List.forall_mem_cons.2 ⟨te_96, (List.forall_mem_cons.2 ⟨te_97, (by simp)⟩)⟩)⟩)⟩)⟩)⟩)⟩)⟩)⟩)⟩)⟩)⟩)⟩)⟩)⟩)⟩)⟩)⟩)⟩)⟩)⟩)⟩)⟩)⟩)⟩)⟩)⟩)⟩)⟩)⟩)⟩)⟩)⟩)⟩)⟩)⟩)⟩)⟩)⟩)⟩)⟩)⟩)⟩)⟩)⟩)⟩)⟩)⟩)⟩)⟩)⟩)⟩)⟩)⟩)⟩)⟩)⟩)⟩)⟩)
def tb : Tb Try.prog := ⟨tbl, tb_of Dv⟩
theorem mixed : Try.prog.follows .mixedOrders = true := by kernel_rfl
section
variable {E : En} {N : Nat} {P : Program} {T : Tb P} {ops : Array Oper} {o : Oper} {st : St} {d : Nat} {ty : Nat} {pos : String} {af : Array Edge} {gd : Option (Nat × Bool)} {cx : Cx} {a : Act} {w w' : World} {v : Value}
end
section
variable {E : En} {N : Nat} {P : Program} {T : Tb P} {ops : Array Oper} {o : Oper} {st : St} {d : Nat} {ty : Nat} {pos : String} {af : Array Edge} {gd : Option (Nat × Bool)} {cx : Cx} {a : Act} {w w' : World} {v : Value}
theorem Dw {t kt et : Nat} (hm : P.underlying t = some (.map kt et)) :
    K2 E N P ops ⟨some d, .makeMap t none, ty, pos, af, gd⟩ st ⟨[], [(d, 0)]⟩ ⟨.c (.mp (d, 0)), [((d, 0), some (.map []))]⟩ := by
  intro st' ha hfr hd cx a w Q hr
  have hrun : (execOp a.eval ⟨some d, .makeMap t none, ty, pos, af, gd⟩).run P w = .ok (.value (.map (some w.heap.size))) (w.alloc (.map #[] 0)) := by
    have h := run_makeMap (P := P) t w
    simp only [execOp, Option.map_none, Sem.run_bind]
    rw [h]
    rfl
  refine Vm (v := .map (some w.heap.size)) (w' := w.alloc (.map #[] 0)) hrun ⟨_, Vn (w' := w.alloc (.map #[] 0)) (bk := .map []) (t := .c (.mp (d, 0))) hr hd (b := (d, 0)) (hd d rfl) (hfr (d, 0) (by simp)) (ob := .map #[] 0) rfl rfl rfl rfl ?_ ?_⟩
  · exact ⟨w.heap.size, #[], 0, by simp [Cx.upd], Jp rfl, fun h => by have := (hr.A _ h).1; omega, rfl⟩
  · exact ⟨.inr rfl, fun bk hbk => ⟨w.heap.size, by simp [Cx.upd], rfl⟩⟩
theorem B0 (n : Int) : ∀ (l : List MapEntry) (ks : List Int) (i : Nat), l.map (fun e => (e.key, e.val)) = ks.map (fun n => (Value.int .i64 n, Value.bool true)) →
    ∃ r, Instr.findNow (.int .i64) (.int .i64 n) l i = some r ∧ (ks.contains n = true → ∃ j, r = some (j, .bool true)) ∧ (ks.contains n = false → r = none) := by
  intro l
  induction l with
  | nil =>
    intro ks i h
    cases ks with
    | nil => exact ⟨none, rfl, fun h => by simp at h, fun _ => rfl⟩
    | cons k ks => simp at h
  | cons e l ih =>
    intro ks i h
    cases ks with
    | nil => simp at h
    | cons k ks =>
      simp only [List.map_cons, List.cons.injEq, Prod.mk.injEq] at h
      obtain ⟨⟨h1, h2⟩, h3⟩ := h
      have hs : Instr.sameNow (.int .i64) (.int .i64 n) e.key = some (n == k) := by rw [h1]; simp [Instr.sameNow]
      by_cases hk : n = k
      · subst hk
        refine ⟨some (i, .bool true), ?_, fun _ => ⟨i, rfl⟩, fun h => by simp at h⟩
        unfold Instr.findNow
        rw [hs]; simp [h2]
      · obtain ⟨r, r1, r2, r3⟩ := ih ks (i + 1) h3
        have hne : (n == k) = false := by simpa using hk
        refine ⟨r, ?_, fun h => r2 ?_, fun h => r3 ?_⟩
        · unfold Instr.findNow
          rw [hs, hne]; exact r1
        · rw [List.contains_cons, hne, Bool.false_or] at h; exact h
        · rw [List.contains_cons, hne, Bool.false_or] at h; exact h
theorem Dx {t kt et : Nat} {x k : Operand} {b : QA} {ks : List Int} {n : Int} (hm : P.underlying t = some (.map kt et)) (hk : P.underlying kt = some (.int .i64)) (hz : ∀ w, (zeroValue et).run P w = .ok (.bool false) w)
    (h1 : st.ev x = .c (.mp b)) (hb : st.h b = some (.map ks)) (h2 : st.ev k = .c (.p (.v (.int .i64 n)))) (hx : Zh x = true) (hy : Zh k = true) :
    K2 E N P ops ⟨some d, .lookup t x k false, ty, pos, af, gd⟩ st ⟨[b], []⟩ ⟨.c (.p (.v (.bool (ks.contains n)))), []⟩ :=
  QN fun st' cx a w ha hr => by
    obtain ⟨-, h4⟩ := Ux h1 hx ha (by simp [Op.operands]) hr
    have hb' : st'.h b = some (.map ks) := by rw [ha.2 b (by simp)]; exact hb
    obtain ⟨g, h5, h6⟩ := h4 _ hb'
    obtain ⟨g', es, clk, h7, h8, h9, h10⟩ := hr.bl b _ hb'
    rw [h5] at h7
    cases h7
    have e2 := (WP h2 hy ha (by simp [Op.operands]) hr).1
    obtain ⟨r, r1, r2, r3⟩ := B0 n es.toList ks 0 h10
    refine ⟨.bool (ks.contains n), ?_, .inr rfl, .v _ rfl⟩
    have hck := MapKept.run_checkKey (P := P) (w := w) (k := .int .i64 n) hk (by simp [MapKept.IsKey]) es.isEmpty 9999
    have hfk := MapKept.run_findKey (P := P) (w := w) (l := es.toList) hk r1
    simp only [execOp, h6, e2, Instr.lookup, Sem.run_bind, run_underlying hm, MapKept.run_getObj_map h8, Result.andThen_ok, hck, hfk, Sem.run_pure]
    cases hc : ks.contains n with
    | true =>
      obtain ⟨j, rfl⟩ := r2 hc
      simp [Sem.run_bind, Sem.run_pure, Result.andThen_ok]
    | false =>
      rw [r3 hc]
      simp [Sem.run_bind, Sem.run_pure, Result.andThen_ok, hz]
theorem BC (hr : K1 E N cx st a w) (hd : ∀ d, o.dst = some d → d < N) {b : QA} {ks ks' : List Int} {g : Nat} {es es' : Array MapEntry} {clk clk' : Nat} (hb : st.h b = some (.map ks)) (hι : cx.ι b = some (g, 0)) (hnA : ¬ cx.A g)
    (hg : w.heap[g]? = some (.map es clk)) (hc : es'.toList.map (fun e => (e.key, e.val)) = ks'.map (fun n => (Value.int .i64 n, Value.bool true))) :
    K1 E N cx (Ef.ap ⟨.c .any, [(b, some (.map ks'))]⟩ o st) (a.put o.dst undef) { w with heap := w.heap.setIfInBounds g (.map es' clk') } := by
  have hset := MapKept.heap_set (o' := .map es' clk') hg
  have hneq : ∀ g', g' ≠ g → ({ w with heap := w.heap.setIfInBounds g (.map es' clk') } : World).heap[g']? = w.heap[g']? := fun g' h => hset.2 g' h
  have hown := hr.own b g 0 (by rw [hb]; simp) hι
  refine hr.step (ef := ⟨.c .any, [(b, some (.map ks'))]⟩) hd [] (fun b' hb' => by cases hb') (fun _ h => h) (fun _ h => .inl h) ⟨by simp, fun g' hA _ => hneq g' (fun e => hnA (e ▸ hA))⟩ (fun g' hg' hM => hneq g' (fun e => ?_)) rfl rfl rfl ?_ ?_ ?_ ?_ ⟨.inl rfl, trivial⟩ rfl
  · subst e
    rcases hown.2 with h | h
    · omega
    · exact hM h
  · intro b' _ bk2 hb2
    rw [KT] at hb2
    by_cases e : b' = b
    · subst e
      rw [if_pos rfl] at hb2
      cases hb2
      refine ⟨.map ks, hb, rfl, Nat.le_refl _, rfl, fun g1 o1 c1 el1 fz1 h1 h2 => ?_⟩
      rw [hι] at h1; cases h1
      rw [hg] at h2; cases h2
    · rw [if_neg e] at hb2
      refine ⟨bk2, hb2, rfl, Nat.le_refl _, rfl, fun g1 o1 c1 el1 fz1 h1 h2 => ?_⟩
      have : g1 ≠ g := (hr.inj b' b g1 o1 g 0 (by rw [hb2]; simp) (by rw [hb]; simp) h1 hι e)
      exact ⟨c1, el1, fz1, by rw [hneq g1 this]; exact h2, fun _ => rfl⟩
  · intro b' bk2 hb2
    by_cases e : b' = b
    · subst e
      rw [KT, if_pos rfl] at hb2
      cases hb2
      exact .inr ⟨g, es', clk', hι, hset.1, hnA, hc⟩
    · rw [KT, if_neg e] at hb2
      refine .inl ⟨by simp, hb2, rfl, fun g1 o1 h1 => ⟨hneq g1 (hr.inj b' b g1 o1 g 0 (by rw [hb2]; simp) (by rw [hb]; simp) h1 hι e), fun h => h⟩⟩
  · intro b1 b2 g1 o1 g2 o2 h1 h2
    rw [KT] at h1 h2
    refine hr.inj b1 b2 g1 o1 g2 o2 ?_ ?_
    · by_cases e : b1 = b
      · rw [e, hb]; simp
      · rwa [if_neg e] at h1
    · by_cases e : b2 = b
      · rw [e, hb]; simp
      · rwa [if_neg e] at h2
  · intro b1 g1 o1 h1 h2
    have : st.h b1 ≠ none := by
      rw [KT] at h1
      by_cases e : b1 = b
      · rw [e, hb]; simp
      · rwa [if_neg e] at h1
    obtain ⟨h3, h4⟩ := hr.own b1 g1 o1 this h2
    exact ⟨by simpa using h3, h4⟩
theorem Cu {t kt et : Nat} {x k y : Operand} {b : QA} {ks : List Int} {n : Int} (hn : ks.contains n = false) (hm : P.underlying t = some (.map kt et)) (hk : P.underlying kt = some (.int .i64))
    (h1 : st.ev x = .c (.mp b)) (hb : st.h b = some (.map ks)) (h2 : st.ev k = .c (.p (.v (.int .i64 n)))) (h3 : st.ev y = .c (.p (.v (.bool true)))) (hx : Zh x = true) (hy : Zh k = true) (hz : Zh y = true) :
    K2 E N P ops ⟨none, .mapUpdate t x k y, ty, pos, af, gd⟩ st ⟨[b], []⟩ ⟨.c .any, [(b, some (.map (ks ++ [n])))]⟩ := by
  intro st' ha hfr hd cx a w Q hr
  obtain ⟨-, h4⟩ := Ux h1 hx ha (by simp [Op.operands]) hr
  have hb' : st'.h b = some (.map ks) := by rw [ha.2 b (by simp)]; exact hb
  obtain ⟨g, h5, h6⟩ := h4 _ hb'
  obtain ⟨g', es, clk, h7, h8, h9, h10⟩ := hr.bl b _ hb'
  rw [h5] at h7
  cases h7
  have e2 := (WP h2 hy ha (by simp [Op.operands]) hr).1
  have e3 := (WP h3 hz ha (by simp [Op.operands]) hr).1
  obtain ⟨r, r1, r2, r3⟩ := B0 n es.toList ks 0 h10
  have hck := MapKept.run_checkKey (P := P) (w := w) (k := .int .i64 n) hk (by simp [MapKept.IsKey]) false 9999
  have hfk := MapKept.run_findKey (P := P) (w := w) (l := es.toList) hk r1
  refine upon_skip (w' := { w with heap := w.heap.setIfInBounds g (.map (es.push { key := .int .i64 n, val := .bool true, born := clk }) (clk + 1)) }) ?_ ⟨cx, BC hr hd hb' h5 h9 h8 ?_⟩
  · rw [r3 hn] at hfk
    simp only [execOp, h6, e2, e3, Instr.mapUpdate, Sem.run_bind, run_underlying hm, MapKept.run_getObj_map h8, Result.andThen_ok, hck, hfk, Sem.run_pure, MapKept.run_setObj_map _ h8]
  · simp [h10]
theorem Eo {a b : Bool} (h : (bif a then b else false) = true) : a = true := by cases a; exact h; rfl
end
theorem Z {α : Sort _} {a : α} : a = a := rfl
section
variable {P : Program} {T : Tb P} {fn : Func} {st : St} {s1 s2 s3 : Nat} {x1 x2 x3 : PV} {c1 : CV} {y1 : RV} {cs : List CV} {xs : List RV} {os : List (Option QA)} {bs : List QA} {b1 : QA} {e1 m1 : Nat} {ro : List (List PV)}
theorem QX (h : fn.results.toList = [.tmp s1]) (a : st.g s1 = .c (.p x1)) : Au T fn [.c (.p x1)] .ret st := ⟨.inr rfl, _, _, _, h ▸ .cons (.p a) .nil, .cons (.c (.p _)) .nil, rfl, rfl⟩
theorem fq2 (h : fn.results.toList = [.tmp s1]) (a : st.g s1 = .c (.sl b1 0 m1)) (hb : st.h b1 = some (.row e1 ro true)) (hn : ro.length = m1) : Au T fn [.c (.own e1 ro)] .ret st := ⟨.inr rfl, _, _, _, h ▸ .cons (.s a) .nil, .cons (.c (.own hb hn)) .nil, rfl, rfl⟩
theorem fq3 (h : fn.results.toList = [.tmp s1, .tmp s2]) (a : st.g s1 = .c (.p x1)) (b : st.g s2 = .c (.p x2)) : Au T fn [.c (.p x1), .c (.p x2)] .ret st := ⟨.inr rfl, _, _, _, h ▸ .cons (.p a) (.cons (.p b) .nil), .cons (.c (.p _)) (.cons (.c (.p _)) .nil), rfl, rfl⟩
theorem fq4 (h : fn.results.toList = [.tmp s1, .tmp s2, .tmp s3]) (a : st.g s1 = .c (.p x1)) (b : st.g s2 = .c (.p x2)) (c : st.g s3 = .c (.p x3)) : Au T fn [.c (.p x1), .c (.p x2), .c (.p x3)] .ret st := ⟨.inr rfl, _, _, _, h ▸ .cons (.p a) (.cons (.p b) (.cons (.p c) .nil)), .cons (.c (.p _)) (.cons (.c (.p _)) (.cons (.c (.p _)) .nil)), rfl, rfl⟩
theorem fq5 (h : fn.results.toList = [.tmp s1, .tmp s2]) (a : st.g s1 = .c (.sl b1 0 m1)) (b : st.g s2 = .c (.p x2)) (hb : st.h b1 = some (.row e1 ro true)) (hn : ro.length = m1) : Au T fn [.c (.own e1 ro), .c (.p x2)] .ret st := ⟨.inr rfl, _, _, _, h ▸ .cons (.s a) (.cons (.p b) .nil), .cons (.c (.own hb hn)) (.cons (.c (.p _)) .nil), rfl, rfl⟩
theorem fq6 (h : fn.results.toList = [.tmp s1, .tmp s2]) (a : st.g s1 = .c (.p (.v (.slice none 0 0)))) (b : st.g s2 = .c (.p x2)) (he : Nat.ble 1 e1 = true) : Au T fn [.c (.own e1 []), .c (.p x2)] .ret st := ⟨.inr rfl, _, _, _, h ▸ .cons (.p a) (.cons (.p b) .nil), .cons (.c (.nilo _ (Nat.le_of_ble_eq_true he))) (.cons (.c (.p _)) .nil), rfl, rfl⟩
theorem By.c {c : CV} {cs cs' : List CV} (h : By st cs cs') : By st (c :: cs) (c :: cs') := .cons (.k _) h
theorem BB.c {x : PV} {cs : List CV} {xs : List PV} (h : BB st cs xs) : BB st (.p x :: cs) (x :: xs) := .cons (.k _) h
theorem BD (h : VD st cs xs os bs) : VD st (.p x1 :: cs) (.p x1 :: xs) (none :: os) bs := .cons (.p _) h
theorem XP.pp {xp : List PV} (h : XP st cs xp bs) : XP st (.p x1 :: cs) (x1 :: xp) bs := .cons (.p _) h
theorem VD.pp (h : VD st cs xs os bs) : VD st (.p x1 :: cs) (.p x1 :: xs) (none :: os) bs := .cons (.p _) h
theorem fqn (h : VD st cs xs os bs) : VD st (.p (.v (.slice none 0 0)) :: cs) (.p (.l e1 []) :: xs) (none :: os) bs := .cons (.nil _) h
theorem fqo (he : Nat.ble 1 e1 = true) (h : VD st cs xs os bs) : VD st (.p (.v (.slice none 0 0)) :: cs) (.own e1 [] :: xs) (none :: os) bs := .cons (.nilo _ (Nat.le_of_ble_eq_true he)) h
end
theorem YE {α : Type} {f : α → List PV} {L L' : List α} {E : En} {N : Nat} : type_of% (@UY α f L L' E N Try.prog tb) := @UY α f L L' E N Try.prog tb
theorem Wg {E : En} {N : Nat} : type_of% (@YD E N Try.prog tb) := @YD E N Try.prog tb
theorem BE {E : En} {N : Nat} : type_of% (@Cp E N Try.prog tb) := @Cp E N Try.prog tb
theorem Qk {α : Type} {f : α → List PV} {L : List α} {E : En} {N : Nat} : type_of% (@AU α f L E N Try.prog tb) := @AU α f L E N Try.prog tb
theorem Zf {α : Type} {f : α → List PV} {L : List α} {E : En} {N : Nat} : type_of% (@UW α f L E N Try.prog tb) := @UW α f L E N Try.prog tb
theorem ZD {E : En} {N : Nat} : type_of% (@YB E N Try.prog tb) := @YB E N Try.prog tb
theorem Qi {α : Type} {f : α → List PV} {L : List α} {E : En} {N : Nat} : type_of% (@AX α f L E N Try.prog tb) := @AX α f L E N Try.prog tb
theorem VP {α : Type} {f : α → List PV} {L : List α} {E : En} {N : Nat} : type_of% (@UX α f L E N Try.prog tb) := @UX α f L E N Try.prog tb
theorem Yd {E : En} {N : Nat} : type_of% (@Cq E N Try.prog tb) := @Cq E N Try.prog tb
theorem JV {α : Type} {f : α → List PV} {L : List α} {E : En} {N : Nat} : type_of% (@Wb α f L E N Try.prog tb) := @Wb α f L E N Try.prog tb
theorem KV {α : Type} {f : α → List PV} {L : List α} {E : En} {N : Nat} : type_of% (@YC α f L E N Try.prog tb) := @YC α f L E N Try.prog tb
theorem Xe {E : En} {N : Nat} : type_of% (@Wc E N Try.prog tb) := @Wc E N Try.prog tb
theorem Z8 {E : En} {N : Nat} : type_of% (@WT E N Try.prog tb) := @WT E N Try.prog tb
theorem Wh {E : En} {N : Nat} : type_of% (@YA E N Try.prog tb) := @YA E N Try.prog tb
theorem ZE {E : En} {N : Nat} : type_of% (@Yz E N Try.prog tb) := @Yz E N Try.prog tb
theorem QE {E : En} {N : Nat} : type_of% (@XR E N Try.prog tb) := @XR E N Try.prog tb
theorem QK {E : En} {N : Nat} : type_of% (@W9 E N Try.prog tb) := @W9 E N Try.prog tb
theorem Q2 {E : En} {N : Nat} : type_of% (@W8 E N Try.prog tb) := @W8 E N Try.prog tb
theorem Qm {E : En} {N : Nat} : type_of% (@Xd E N Try.prog tb) := @Xd E N Try.prog tb
theorem QI {E : En} {N : Nat} : type_of% (@Yw E N Try.prog tb) := @Yw E N Try.prog tb
theorem Q1 {E : En} {N : Nat} : type_of% (@XK E N Try.prog tb) := @XK E N Try.prog tb
theorem Qn {E : En} {N : Nat} : type_of% (@Yv E N Try.prog tb) := @Yv E N Try.prog tb
theorem Zg {E : En} {N : Nat} : type_of% (@XL E N Try.prog tb) := @XL E N Try.prog tb
theorem Qo {E : En} {N : Nat} : type_of% (@Xc E N Try.prog tb) := @Xc E N Try.prog tb
theorem Qy {E : En} {N : Nat} : type_of% (@XM E N Try.prog tb) := @XM E N Try.prog tb
theorem Zr {E : En} {N : Nat} : type_of% (@UU E N Try.prog tb) := @UU E N Try.prog tb
theorem Wi {α : Type} {f : α → List PV} {L : List α} {E : En} {N : Nat} : type_of% (@AY α f L E N Try.prog tb) := @AY α f L E N Try.prog tb
set_option maxRecDepth 100000
set_option maxHeartbeats 4000000
def Ke (a0 : (List Q4)) (Q : Bool → Prop) : Prop :=
 (((decide (((a0.length : Int)) > 20)) = true → Q false) ∧ ((decide (((a0.length : Int)) > 20)) = false → jn (fun (p2 : Unit) => Q true) (fun (J2 : Unit → Prop) => lp (fun (X3 : Int → Prop) (s3 : Int) => (((decide (s3 < ((a0.length : Int)))) = true → ∃ v6, ix a0 s3 v6 ∧ ((((bif (bif (bif (bif (bif (bif decide (((v6.fOp.fj.length : Int)) > 20) then true else decide (((v6.fOp.fp.length : Int)) > 70)) then true else decide (((v6.fOp.fa7.size : Int)) > 100)) then true else decide (((v6.fOp.fa2.size : Int)) > 100)) then true else decide (((v6.fOp.f6.length : Int)) > 100)) then true else decide (((v6.fOp.fv.length : Int)) > 1000)) then true else decide (((v6.fOp.ff.fu.size : Int)) > 100))) = true → Q false) ∧ (((bif (bif (bif (bif (bif (bif decide (((v6.fOp.fj.length : Int)) > 20) then true else decide (((v6.fOp.fp.length : Int)) > 70)) then true else decide (((v6.fOp.fa7.size : Int)) > 100)) then true else decide (((v6.fOp.fa2.size : Int)) > 100)) then true else decide (((v6.fOp.f6.length : Int)) > 100)) then true else decide (((v6.fOp.fv.length : Int)) > 1000)) then true else decide (((v6.fOp.ff.fu.size : Int)) > 100))) = false → X3 ((IntKind.i64.wrap (s3 + 1)))))) ∧ ((decide (s3 < ((a0.length : Int)))) = false → J2 (())))) 0)))
def KB (a0 : (List Q4)) (r : Bool) : Prop := Ke a0 fun x => r = x
theorem WB {a0 : (List Q4)} {Post : Bool → Prop} (h : Ke a0 Post) : ∃ r, KB a0 r ∧ Post r := (show GM (Ke a0) (Ke a0) from GM.cond (GM.ret _) (GM.join (fun p2 => GM.ret _) (fun _ _ J2 => GM.loop (fun X Y Q s3 X3 h => ⟨fun hc => (Exists.elim (h.1 hc) fun v6 hv6 => ⟨v6, hv6.1, ⟨fun hc => hv6.2.1 hc, fun hc => X3 _ (hv6.2.2 hc)⟩⟩), fun hc => h.2 hc⟩) (fun _ _ X3 s3 => GM.cond (GM.ex fun v6 => GM.cond (GM.ret _) (X3 _)) (J2 _))))) Post h
theorem WC (a0 : (List Q4)) (r : Bool) (h : KB a0 r) : Qq Try.prog 4 [.c (.l 38 (List.map e_api_Record a0))] [.c (.p (.v (.bool r)))] [] := by
  refine Qp tb Try.func4 Z (by kernel_rfl) Z Z (Nat.le_of_ble_eq_true Z) Z ?_;intro E;unfold KB Ke at h;refine Zx (fun Q hQ => ?_);refine tk fun L hL => Qr Z Z <| rt (hL _ ?_);refine sk fun L1 hL1 => tk fun L hL => mv Z <| u0 (Qi Z Z Z Z) <| u0 (Q5 (c := decide (((a0.length : Int)) > 20)) Z Z Z Z Z) <| rt (hL _ ?_);refine QY Z h (fun h => ?_) fun h => ?_
  · refine tk fun L hL => Qr Z Z <| rt (hL _ ?_);obtain rfl := h;exact Qe (hQ _ _ (QX Z Z))
  · refine Qg (hL1 _ ?_);refine Zo (fun (p2 : Unit) => (⟨[], []⟩ : St)) h (fun p2 h => ?_) (fun J2 L2 hL2 h => ?_)
    · refine tk fun L hL => Qr Z Z <| rt (hL _ ?_);obtain rfl := h;exact Qe (hQ _ _ (QX Z Z))
    · refine tk fun L hL => Qr Z Z <| rt (hL _ ?_);refine Ql ?_;refine ZK (fun (s3 : Int) => (⟨[(0, .c (.p (.l 38 (List.map e_api_Record a0)))), (3, .c (.p (.v (.int .i64 s3))))], []⟩ : St)) h (QG.nm [0, 3] [] Z (by kernel_rfl)) (fun X3 L3 hL3 s3 h => ?_);refine sk fun L4 hL4 => tk fun L hL => mv Z <| mv Z <| u0 (Qi Z Z Z Z) <| u0 (Q5 (c := decide (s3 < ((a0.length : Int)))) Z Z Z Z Z) <| rt (hL _ ?_);refine QY Z h (fun h => ?_) fun h => ?_
      · refine Qg (hL4 _ ?_);refine sk fun L5 hL5 => Ql <| tk fun L hL => mv Z <| mv Z ?_;obtain ⟨v6, hv6, h⟩ := h;refine u0 (Qk hv6 Z Z Z Z Z Z Z Z) <| u0 (QK Z Z Z Z Z Z Z Z) <| u0 (Qy Z Z Z Z Z Z Z) <| u1 (Z8 Z Z Z) <| un (Zr Z Z Z Z Z Z Z Z Z) <| rt (hL _ ?_);refine tk fun L hL => u0 (Q2 Z Z Z Z Z Z Z Z Z) <| u0 (Q1 Z Z Z Z Z Z) <| u0 (Qi Z Z Z Z) <| u0 (Q5 (c := decide (((v6.fOp.fj.length : Int)) > 20)) Z Z Z Z Z) <| mv Z <| Q3 Z Z Q6 (fun hg => Q2 Z Z Z Z Z Z Z Z Z) <| Q3 Z Z Q6 (fun hg => Q1 (Q8 hg) Z Z Z Z Z) <| Q3 Z Z Q6 (fun hg => Qi (Q8 hg) Z Z Z) <| Q3 Z Z Q6 (fun hg => Q5 (c := decide (((v6.fOp.fp.length : Int)) > 70)) (Q8 hg) Z Z Z Z) <| u0 (Qb (v := .bool true) (w := .bool (decide (((v6.fOp.fp.length : Int)) > 70))) Z Z Q6 Z Qf Z Z Z) <| mv Z <| Q3 Z Z Q6 (fun hg => Q2 Z Z Z Z Z Z Z Z Z) <| Q3 Z Z Q6 (fun hg => Q1 (Q8 hg) Z Z Z Z Z) <| Q3 Z Z Q6 (fun hg => QI (Q8 hg) Z Z Z) <| Q3 Z Z Q6 (fun hg => Q5 (c := decide (((v6.fOp.fa7.size : Int)) > 100)) (Q8 hg) Z Z Z Z) <| u0 (Qb (v := .bool true) (w := .bool (decide (((v6.fOp.fa7.size : Int)) > 100))) Z Z Q6 Z Qf Z Z Z) <| mv Z <| Q3 Z Z Q6 (fun hg => Q2 Z Z Z Z Z Z Z Z Z) <| Q3 Z Z Q6 (fun hg => Q1 (Q8 hg) Z Z Z Z Z) <| Q3 Z Z Q6 (fun hg => QI (Q8 hg) Z Z Z) <| Q3 Z Z Q6 (fun hg => Q5 (c := decide (((v6.fOp.fa2.size : Int)) > 100)) (Q8 hg) Z Z Z Z) <| u0 (Qb (v := .bool true) (w := .bool (decide (((v6.fOp.fa2.size : Int)) > 100))) Z Z Q6 Z Qf Z Z Z) <| mv Z ?_
        refine Q3 Z Z Q6 (fun hg => Q2 Z Z Z Z Z Z Z Z Z) <| Q3 Z Z Q6 (fun hg => Q1 (Q8 hg) Z Z Z Z Z) <| Q3 Z Z Q6 (fun hg => Qi (Q8 hg) Z Z Z) <| Q3 Z Z Q6 (fun hg => Q5 (c := decide (((v6.fOp.f6.length : Int)) > 100)) (Q8 hg) Z Z Z Z) <| u0 (Qb (v := .bool true) (w := .bool (decide (((v6.fOp.f6.length : Int)) > 100))) Z Z Q6 Z Qf Z Z Z) <| mv Z <| Q3 Z Z Q6 (fun hg => Q2 Z Z Z Z Z Z Z Z Z) <| Q3 Z Z Q6 (fun hg => Q1 (Q8 hg) Z Z Z Z Z) <| Q3 Z Z Q6 (fun hg => Qi (Q8 hg) Z Z Z) <| Q3 Z Z Q6 (fun hg => Q5 (c := decide (((v6.fOp.fv.length : Int)) > 1000)) (Q8 hg) Z Z Z Z) <| u0 (Qb (v := .bool true) (w := .bool (decide (((v6.fOp.fv.length : Int)) > 1000))) Z Z Q6 Z Qf Z Z Z) <| mv Z <| Q3 Z Z Q6 (fun hg => Q2 Z Z Z Z Z Z Z Z Z) <| Q3 Z Z Q6 (fun hg => Q2 (Q8 hg) Z Z Z Z Z Z Z Z) <| Q3 Z Z Q6 (fun hg => Q1 (Q8 hg) Z Z Z Z Z) <| Q3 Z Z Q6 (fun hg => QI (Q8 hg) Z Z Z) <| Q3 Z Z Q6 (fun hg => Q5 (c := decide (((v6.fOp.ff.fu.size : Int)) > 100)) (Q8 hg) Z Z Z Z) <| u0 (Qb (v := .bool true) (w := .bool (decide (((v6.fOp.ff.fu.size : Int)) > 100))) Z Z Q6 Z Qf Z Z Z) <| rt (hL _ ?_)
        refine QY Z h (fun h => ?_) fun h => ?_
        · refine tk fun L hL => Qr Z Z <| rt (hL _ ?_);refine QF (st' := ⟨[(2, .c (.p (.v (.bool false))))], []⟩) (QG.nm [2] [] Z Z) ?_;obtain rfl := h;exact Qe (hQ _ _ (QX Z Z))
        · refine Qg (hL5 _ ?_);refine QF (st' := ⟨[(0, .c (.p (.l 38 (List.map e_api_Record a0)))), (3, .c (.p (.v (.int .i64 s3))))], [((4, 0), some (.box (List.map CV.p (Zp v6.fOp))))]⟩) (QG.nm [0, 3] [((4, 0), (4, 0))] Z Z) ?_;refine tl fun L hL => mv Z <| u0 (QO Z Z Z Z Z) <| Qr Z Z ?_;refine rt (hL _ (hL3 _ _ h (QG.nm [0, 3] [] Z (by kernel_rfl))))
      · refine QM (hL2 _ _ h (QG.nm [] [] Z (by kernel_rfl)))
def Jr (a0 : (List Q4)) (Q : ((List Int)) → Prop) : Prop :=
 jn (fun (p1 : (List Int)) => Q p1) (fun (J1 : (List Int) → Prop) => lp (fun (X2 : (List Int) × Int → Prop) (s2 : (List Int) × Int) => (((decide (s2.2 < ((a0.length : Int)))) = true → jn (fun (p4 : (List Int)) => X2 (p4, (IntKind.i64.wrap (s2.2 + 1)))) (fun (J4 : (List Int) → Prop) => ∃ v5, ix a0 s2.2 v5 ∧ ((((bif (v5.fb == (-1)) then true else (v5.fh.fa0 == 14))) = true → J4 s2.1) ∧ (((bif (v5.fb == (-1)) then true else (v5.fh.fa0 == 14))) = false → ((s2.1.length + ([s2.2]).length) * 8 ≤ 140737488355328) ∧ lp (fun (X8 : (List Int) × Int → Prop) (s8 : (List Int) × Int) => ∃ (v10 : Int), ((decide (s8.2 > 0)) = true → ix s8.1 (IntKind.i64.wrap (s8.2 - 1)) v10) ∧ ∃ (v11 : Q4), ((decide (s8.2 > 0)) = true → ix a0 v10 v11) ∧ ((((bif decide (s8.2 > 0) then decide (v11.fb > v5.fb) else false)) = true → ∃ v13, ix s8.1 s8.2 v13 ∧ ∃ v14, ix s8.1 (IntKind.i64.wrap (s8.2 - 1)) v14 ∧ ∃ v15, ix s8.1 (IntKind.i64.wrap (s8.2 - 1)) v15 ∧ ∃ v16, ix (List.set s8.1 (Int.toNat (IntKind.i64.wrap (s8.2 - 1))) v13) s8.2 v16 ∧ X8 ((List.set (List.set s8.1 (Int.toNat (IntKind.i64.wrap (s8.2 - 1))) v13) (Int.toNat s8.2) v14), (IntKind.i64.wrap (s8.2 - 1)))) ∧ (((bif decide (s8.2 > 0) then decide (v11.fb > v5.fb) else false)) = false → J4 s8.1))) ((s2.1 ++ ([s2.2])), (IntKind.i64.wrap ((((s2.1 ++ ([s2.2])).length : Int)) - 1))))))) ∧ ((decide (s2.2 < ((a0.length : Int)))) = false → J1 s2.1))) (([] : (List Int)), 0))
def ZI (a0 : (List Q4)) (r : (List Int)) : Prop := Jr a0 fun x => r = x
theorem VB (a0 : (List Q4)) (r : (List Int)) (h : ZI a0 r) : Qq Try.prog 6 [.c (.l 38 (List.map e_api_Record a0))] [.c (.own 1 (List.map (eI .i64) r))] [] := by
  refine Qp tb Try.func6 Z (by kernel_rfl) Z Z (Nat.le_of_ble_eq_true Z) Z ?_;intro E;unfold ZI Jr at h;refine Zx (fun Q hQ => ?_);refine tk fun L hL => Qr Z Z <| rt (hL _ ?_);refine tk fun L hL => Qr Z Z <| rt (hL _ ?_);refine Zo (fun (p1 : (List Int)) => (⟨[(3, .c (.sl (3, 1000) 0 (List.map (eI .i64) p1).length))], [((3, 1000), some (.row 1 (List.map (eI .i64) p1) true))]⟩ : St)) h (fun p1 h => ?_) (fun J1 L1 hL1 h => ?_)
  · refine tk fun L hL => mv Z <| Qr Z Z <| rt (hL _ ?_);obtain rfl := h;exact Qe (hQ _ _ (fq2 Z Z Z Z))
  · refine tk fun L hL => mv Z <| u0 (Qi Z Z Z Z) <| u0 (Q7 Z Z) <| rt (hL _ ?_);refine Ql ?_;refine ZK (fun (s2 : (List Int) × Int) => (⟨[(0, .c (.p (.l 38 (List.map e_api_Record a0)))), (3, .c (.sl (3, 1000) 0 (List.map (eI .i64) s2.1).length)), (7, .c (.p (.l 38 (List.map e_api_Record a0)))), (8, .c (.p (.v (.int .i64 ((a0.length : Int)))))), (9, .c (.p (.v (.int .i64 s2.2))))], [((3, 1000), some (.row 1 (List.map (eI .i64) s2.1) true))]⟩ : St)) h ((QG.blk (3, 1050) 1 Z Z Z).trans ((QG.slot 3 Z (.nilo (b := (3, 1050)) Z)).trans (QG.nm [0, 3, 7, 8, 9] [((3, 1050), (3, 1000))] Z (by kernel_rfl)))) (fun X2 L2 hL2 s2 h => ?_);refine tk fun L hL => u0 (Q5 (c := decide (s2.2 < ((a0.length : Int)))) Z Z Z Z Z) <| rt (hL _ ?_);refine sk fun L3 hL3 => ?_;refine QY Z h (fun h => ?_) fun h => ?_
    · refine Qg (hL3 _ ?_);refine Zo (fun (p4 : (List Int)) => (⟨[(0, .c (.p (.l 38 (List.map e_api_Record a0)))), (3, .c (.sl (3, 1000) 0 (List.map (eI .i64) p4).length)), (7, .c (.p (.l 38 (List.map e_api_Record a0)))), (8, .c (.p (.v (.int .i64 ((a0.length : Int)))))), (9, .c (.p (.v (.int .i64 s2.2))))], [((3, 1000), some (.row 1 (List.map (eI .i64) p4) true))]⟩ : St)) h (fun p4 h => ?_) (fun J4 L4 hL4 h => ?_)
      · refine tl fun L hL => u0 (QO Z Z Z Z Z) <| mv Z ?_;refine rt (hL _ (hL2 _ _ h (QG.nm [0, 3, 7, 8, 9] [((3, 1000), (3, 1000))] Z (by kernel_rfl))))
      · refine Ql <| tk fun L hL => mv Z ?_;obtain ⟨v5, hv5, h⟩ := h;refine u0 (Qk hv5 Z Z Z Z Z Z Z Z) <| u0 (Qy Z Z Z Z Z Z Z) <| u1 (Z8 Z Z Z) <| Qr Z Z <| un (Zr Z Z Z Z Z Z Z Z Z) <| rt (hL _ ?_);refine sk fun L6 hL6 => tk fun L hL => u0 (Q2 Z Z Z Z Z Z Z Z Z) <| u0 (Q1 Z Z Z Z Z Z) <| u0 (Q5 (c := (v5.fb == (-1))) Z Z Z Z Z) <| mv Z <| Q3 Z Z Q6 (fun hg => Q2 Z Z Z Z Z Z Z Z Z) <| Q3 Z Z Q6 (fun hg => Q2 (Q8 hg) Z Z Z Z Z Z Z Z) <| Q3 Z Z Q6 (fun hg => Q1 (Q8 hg) Z Z Z Z Z) <| Q3 Z Z Q6 (fun hg => Q5 (c := (v5.fh.fa0 == 14)) (Q8 hg) Z Z Z Z) <| u0 (Qb (v := .bool true) (w := .bool ((v5.fh.fa0 == 14))) Z Z Q6 Z Qf Z Z Z) <| rt (hL _ ?_);refine QY Z h (fun h => ?_) fun h => ?_
        · refine QM (hL4 _ _ h (QG.nm [0, 3, 7, 8, 9] [((3, 1000), (3, 1000))] Z (by kernel_rfl)))
        · refine Qg (hL6 _ ?_);refine QF (st' := ⟨[(0, .c (.p (.l 38 (List.map e_api_Record a0)))), (3, .c (.sl (3, 1000) 0 (List.map (eI .i64) s2.1).length)), (7, .c (.p (.l 38 (List.map e_api_Record a0)))), (8, .c (.p (.v (.int .i64 ((a0.length : Int)))))), (9, .c (.p (.v (.int .i64 s2.2)))), (5, .c (.ptr (5, 0) 0 0)), (4, .c (.p (.v (.int .i64 s2.2))))], [((3, 1000), some (.row 1 (List.map (eI .i64) s2.1) true)), ((5, 0), some (.box (List.map CV.p (e_api_Record v5))))]⟩) (QG.nm [0, 3, 7, 8, 9, 5, 4] [((3, 1000), (3, 1000)), ((5, 0), (5, 0))] Z Z) ?_;refine tk fun L hL => mv Z <| mv Z <| ul (QE (rows := List.map (eI .i64) [s2.2]) Z Z Z Z Z Z Z Z Z Z Z Z Z) ?_;obtain ⟨hm7, h⟩ := h;refine ul (YE (f := (eI .i64)) (L := s2.1) (L' := [s2.2]) hm7 Z Z Z Z Z Z Z Z Z Z Z (Wi AZ Z Z Z Z Z Z)) <| Qr Z Z <| rt (hL _ ?_);refine tk fun L hL => mv Z <| u0 (VP Z Z Z Z Z Z) <| u0 (KG Z Z Z Z Z) <| Qr Z Z <| rt (hL _ ?_);refine Ql ?_;refine ZK (fun (s8 : (List Int) × Int) => (⟨[(0, .c (.p (.l 38 (List.map e_api_Record a0)))), (3, .c (.sl (3, 1000) 0 (List.map (eI .i64) s8.1).length)), (5, .c (.ptr (5, 0) 0 0)), (6, .c (.p (.v (.int .i64 s8.2)))), (7, .c (.p (.l 38 (List.map e_api_Record a0)))), (8, .c (.p (.v (.int .i64 ((a0.length : Int)))))), (9, .c (.p (.v (.int .i64 s2.2))))], [((3, 1000), some (.row 1 (List.map (eI .i64) s8.1) true)), ((5, 0), some (.box (List.map CV.p (e_api_Record v5))))]⟩ : St)) h (QG.nm [0, 3, 5, 6, 7, 8, 9] [((26, 0), (3, 1000)), ((5, 0), (5, 0))] Z (by kernel_rfl)) (fun X8 L8 hL8 s8 h => ?_)
          refine sk fun L9 hL9 => dk mixed (fun L hL => ?_);refine mv Z <| u0 (Q5 (c := decide (s8.2 > 0)) Z Z Z Z Z) <| mv Z <| Q3 Z Z Q9 (fun hg => Q7 Z Z) <| Q3 Z Z Q9 (fun hg => Q7 Z Z) <| Q3 Z Z Q9 (fun hg => Q7 Z Z) <| Q3 Z Z Q9 (fun hg => KG (Q8 hg) Z Z Z Z) ?_;obtain ⟨v10, hv10, h⟩ := h;refine Q3 Z Z Q9 (fun hg => Zf (hv10 hg) (Q8 hg) Z Z (Q8 hg) Z Z Z Z Z Z) <| Q3 Z Z Q9 (fun hg => Zg (Q8 hg) Z (gm (hv10 hg).2) Z Z Z Z) ?_;obtain ⟨v11, hv11, h⟩ := h;refine Q3 Z Z Q9 (fun hg => Qk (hv11 hg) (Q8 hg) (Q8 hg) Z Z Z Z Z Z) <| Q3 Z Z Q9 (fun hg => QK (Q8 hg) Z Z Z Z Z Z Z) <| Q3 Z Z Q9 (fun hg => Qn (Q8 hg) Z Z Z Z) <| Q3 Z Z Q9 (fun hg => Q2 Z Z Z Z Z Z Z Z Z) <| Q3 Z Z Q9 (fun hg => Q1 (Q8 hg) Z Z Z Z Z) <| Q3 Z Z Q9 (fun hg => Q5 (c := decide (v11.fb > v5.fb)) (Q8 hg) (Q8 hg) Z Z Z) <| u0 (Qa (v := .bool (decide (v11.fb > v5.fb))) (w := .bool false) Z Z Q9 Z Qf Z Z Z) <| rd (hL _ ?_);refine QY Z h (fun h => ?_) fun h => ?_
          · refine Qg (hL9 _ ?_);refine QF (st' := ⟨[(0, .c (.p (.l 38 (List.map e_api_Record a0)))), (3, .c (.sl (3, 1000) 0 (List.map (eI .i64) s8.1).length)), (5, .c (.ptr (5, 0) 0 0)), (6, .c (.p (.v (.int .i64 s8.2)))), (7, .c (.p (.l 38 (List.map e_api_Record a0)))), (8, .c (.p (.v (.int .i64 ((a0.length : Int)))))), (9, .c (.p (.v (.int .i64 s2.2))))], [((3, 1000), some (.row 1 (List.map (eI .i64) s8.1) true)), ((5, 0), some (.box (List.map CV.p (e_api_Record v5))))]⟩) (QG.nm [0, 3, 5, 6, 7, 8, 9] [((3, 1000), (3, 1000)), ((5, 0), (5, 0))] Z Z) ?_;refine sk fun L12 hL12 => Ql <| dl mixed (fun L hL => ?_);refine mv Z <| mv Z <| u0 (KG Z Z Z Z Z) <| mv Z <| mv Z <| mv Z <| mv Z ?_;obtain ⟨v13, hv13, h⟩ := h;refine u0 (Zf hv13 Z Z Z Z Z Z Z Z Z Z) <| u0 (Zg Z Z (gm hv13.2) Z Z Z Z) <| mv Z <| mv Z <| u0 (KG Z Z Z Z Z) ?_;obtain ⟨v14, hv14, h⟩ := h;refine u0 (Zf hv14 Z Z Z Z Z Z Z Z Z Z) <| u0 (Zg Z Z (gm hv14.2) Z Z Z Z) ?_;obtain ⟨v15, hv15, h⟩ := h;refine u0 (Zf hv15 Z Z Z Z Z Z Z Z Z Z) <| un (KV (x1 := v13) hv15.2 Z Z Z Z Z Z Z Z Z Z Z) ?_;obtain ⟨v16, hv16, h⟩ := h;refine u0 (Zf hv16 Z Z (by simp) Z Z Z Z Z Z Z) ?_
            refine un (KV (x1 := v14) hv16.2 Z Z Z Z Z Z Z Z Z Z Z) <| rd (hL _ (hL12 _ ?_));refine tl fun L hL => mv Z <| u0 (KG Z Z Z Z Z) <| Qr Z Z ?_;refine rt (hL _ (hL8 _ _ h ((QG.slot 3 Z (.n (n' := (List.map (eI .i64) (List.set (List.set s8.1 (Int.toNat (IntKind.i64.wrap (s8.2 - 1))) v13) (Int.toNat s8.2) v14)).length) (by simp))).trans (QG.nm [0, 3, 5, 6, 7, 8, 9] [((3, 1000), (3, 1000)), ((5, 0), (5, 0))] Z (by kernel_rfl)))))
          · refine QM (hL4 _ _ h (QG.nm [0, 3, 7, 8, 9] [((3, 1000), (3, 1000))] Z (by kernel_rfl)))
    · refine QM (hL1 _ _ h (QG.nm [3] [((3, 1000), (3, 1000))] Z (by kernel_rfl)))
def JW (a0 : Int) (Q : Bool → Prop) : Prop :=
 Q (((bif decide (a0 ≥ 97) then decide (a0 ≤ 122) else false)))
def Kf (a0 : Int) (r : Bool) : Prop := JW a0 fun x => r = x
theorem Xf (a0 : Int) (r : Bool) (h : Kf a0 r) : Qq Try.prog 50 [.c (.v (.int .u8 a0))] [.c (.p (.v (.bool r)))] [] := by
  refine Qp tb Try.func50 Z (by kernel_rfl) Z Z (Nat.le_of_ble_eq_true Z) Z ?_;intro E;unfold Kf JW at h;refine Zx (fun Q hQ => ?_);refine tk fun L hL => Qr Z Z <| rt (hL _ ?_);refine tk fun L hL => mv Z <| u0 (Q5 (c := decide (a0 ≥ 97)) Z Z Z Z Z) <| mv Z <| Q3 Z Z Q9 (fun hg => Q7 Z Z) <| Q3 Z Z Q9 (fun hg => Q5 (c := decide (a0 ≤ 122)) (Q8 hg) Z Z Z Z) <| u0 (Qa (v := .bool (decide (a0 ≤ 122))) (w := .bool false) Z Z Q9 Z Qf Z Z Z) <| Qr Z Z <| rt (hL _ ?_);obtain rfl := h;exact Qe (hQ _ _ (QX Z Z))
def JX (a0 : Int) (Q : Bool → Prop) : Prop :=
 Q (((bif decide (a0 ≥ 48) then decide (a0 ≤ 57) else false)))
def KC (a0 : Int) (r : Bool) : Prop := JX a0 fun x => r = x
theorem WE (a0 : Int) (r : Bool) (h : KC a0 r) : Qq Try.prog 51 [.c (.v (.int .u8 a0))] [.c (.p (.v (.bool r)))] [] := by
  refine Qp tb Try.func51 Z (by kernel_rfl) Z Z (Nat.le_of_ble_eq_true Z) Z ?_;intro E;unfold KC JX at h;refine Zx (fun Q hQ => ?_);refine tk fun L hL => Qr Z Z <| rt (hL _ ?_);refine tk fun L hL => mv Z <| u0 (Q5 (c := decide (a0 ≥ 48)) Z Z Z Z Z) <| mv Z <| Q3 Z Z Q9 (fun hg => Q7 Z Z) <| Q3 Z Z Q9 (fun hg => Q5 (c := decide (a0 ≤ 57)) (Q8 hg) Z Z Z Z) <| u0 (Qa (v := .bool (decide (a0 ≤ 57))) (w := .bool false) Z Z Q9 Z Qf Z Z Z) <| Qr Z Z <| rt (hL _ ?_);obtain rfl := h;exact Qe (hQ _ _ (QX Z Z))
def Jz (a0 : ByteArray) (Q : Bool → Prop) : Prop :=
 ∃ (v2 : Int), ((!((bif decide (((a0.size : Int)) < 1) then true else decide (((a0.size : Int)) > 16)))) = true → bx a0 0 v2) ∧ ∃ (v3 : Bool), ((!((bif decide (((a0.size : Int)) < 1) then true else decide (((a0.size : Int)) > 16)))) = true → Kf v2 v3) ∧ ((((bif (bif decide (((a0.size : Int)) < 1) then true else decide (((a0.size : Int)) > 16)) then true else !(v3))) = true → Q false) ∧ (((bif (bif decide (((a0.size : Int)) < 1) then true else decide (((a0.size : Int)) > 16)) then true else !(v3))) = false → jn (fun (p4 : Unit) => Q true) (fun (J4 : Unit → Prop) => lp (fun (X5 : Int → Prop) (s5 : Int) => (((decide (s5 < ((a0.size : Int)))) = true → ∃ v8, bx a0 s5 v8 ∧ ∃ v9, Kf v8 v9 ∧ ∃ (v10 : Bool), ((!(v9)) = true → KC v8 v10) ∧ ((((bif (bif (bif !(v9) then !(v10) else false) then (v8 != 45) else false) then (v8 != 46) else false)) = true → Q false) ∧ (((bif (bif (bif !(v9) then !(v10) else false) then (v8 != 45) else false) then (v8 != 46) else false)) = false → X5 ((IntKind.i64.wrap (s5 + 1)))))) ∧ ((decide (s5 < ((a0.size : Int)))) = false → J4 (())))) 0)))
def Kl (a0 : ByteArray) (r : Bool) : Prop := Jz a0 fun x => r = x
theorem Wj (a0 : ByteArray) (r : Bool) (h : Kl a0 r) : Qq Try.prog 40 [.c (.v (.string a0))] [.c (.p (.v (.bool r)))] [] := by
  refine Qp tb Try.func40 Z (by kernel_rfl) Z Z (Nat.le_of_ble_eq_true Z) Z ?_;intro E;unfold Kl Jz at h;refine Zx (fun Q hQ => ?_);refine tk fun L hL => Qr Z Z <| rt (hL _ ?_);refine sk fun L1 hL1 => tk fun L hL => mv Z <| u0 (QI Z Z Z Z) <| u0 (Q5 (c := decide (((a0.size : Int)) < 1)) Z Z Z Z Z) <| mv Z <| Q3 Z Z Q6 (fun hg => Q7 Z Z) <| Q3 Z Z Q6 (fun hg => QI (Q8 hg) Z Z Z) <| Q3 Z Z Q6 (fun hg => Q5 (c := decide (((a0.size : Int)) > 16)) (Q8 hg) Z Z Z Z) <| u0 (Qb (v := .bool true) (w := .bool (decide (((a0.size : Int)) > 16))) Z Z Q6 Z Qf Z Z Z) <| mv Z <| Q3 Z Z Q6 (fun hg => Q7 Z Z) ?_;obtain ⟨v2, hv2, h⟩ := h;refine Q3 Z Z Q6 (fun hg => ZD (hv2 hg) (Q8 hg) Z Z Z Z Z) ?_;obtain ⟨v3, hv3, h⟩ := h;refine Q3 Z Z Q6 (fun hg => Qd (Xf _ _ (hv3 hg)) Z Z (.cons (QS hg (.c (.p _))) .nil) Z Z Z) <| Q3 Z Z Q6 (fun hg => Qt (Q8 hg) Z Z) <| u0 (Qb (v := .bool true) (w := .bool (!(v3))) Z Z Q6 Z Qf Z Z Z) <| rt (hL _ ?_);refine QY Z h (fun h => ?_) fun h => ?_
  · refine tk fun L hL => Qr Z Z <| rt (hL _ ?_);obtain rfl := h;exact Qe (hQ _ _ (QX Z Z))
  · refine Qg (hL1 _ ?_);refine QF (st' := ⟨[(0, .c (.p (.v (.string a0))))], []⟩) (QG.nm [0] [] Z Z) ?_;refine Zo (fun (p4 : Unit) => (⟨[], []⟩ : St)) h (fun p4 h => ?_) (fun J4 L4 hL4 h => ?_)
    · refine tk fun L hL => Qr Z Z <| rt (hL _ ?_);obtain rfl := h;exact Qe (hQ _ _ (QX Z Z))
    · refine tk fun L hL => mv Z <| u0 (QI Z Z Z Z) <| u0 (Q7 Z Z) <| rt (hL _ ?_);refine Ql ?_;refine ZK (fun (s5 : Int) => (⟨[(0, .c (.p (.v (.string a0)))), (20, .c (.p (.v (.int .i64 ((a0.size : Int)))))), (21, .c (.p (.v (.int .i64 s5))))], []⟩ : St)) h (QG.nm [0, 20, 21] [] Z (by kernel_rfl)) (fun X5 L5 hL5 s5 h => ?_);refine tk fun L hL => u0 (Q5 (c := decide (s5 < ((a0.size : Int)))) Z Z Z Z Z) <| rt (hL _ ?_);refine sk fun L6 hL6 => ?_;refine QY Z h (fun h => ?_) fun h => ?_
      · refine Qg (hL6 _ ?_);refine sk fun L7 hL7 => Ql <| tk fun L hL => mv Z <| Qr Z Z <| rt (hL _ ?_);refine tk fun L hL => mv Z <| mv Z ?_;obtain ⟨v8, hv8, h⟩ := h;refine u0 (ZD hv8 Z Z Z Z Z Z) <| Qr Z Z <| rt (hL _ ?_);refine tk fun L hL => mv Z ?_;obtain ⟨v9, hv9, h⟩ := h;refine u0 (Qd (Xf _ _ hv9) Z Z (.cons (.c (.p _)) .nil) Z Z Z) <| u0 (Qt Z Z Z) <| mv Z <| Q3 Z Z Q9 (fun hg => Q7 Z Z) ?_;obtain ⟨v10, hv10, h⟩ := h;refine Q3 Z Z Q9 (fun hg => Qd (WE _ _ (hv10 hg)) Z Z (.cons (QS hg (.c (.p _))) .nil) Z Z Z) <| Q3 Z Z Q9 (fun hg => Qt (Q8 hg) Z Z) <| u0 (Qa (v := .bool (!(v10))) (w := .bool false) Z Z Q9 Z Qf Z Z Z) <| mv Z <| Q3 Z Z Q9 (fun hg => Q7 Z Z) <| Q3 Z Z Q9 (fun hg => Q5 (c := (v8 != 45)) (Q8 hg) Z Z Z Z) <| u0 (Qa (v := .bool ((v8 != 45))) (w := .bool false) Z Z Q9 Z Qf Z Z Z) <| mv Z <| Q3 Z Z Q9 (fun hg => Q7 Z Z) <| Q3 Z Z Q9 (fun hg => Q5 (c := (v8 != 46)) (Q8 hg) Z Z Z Z) <| u0 (Qa (v := .bool ((v8 != 46))) (w := .bool false) Z Z Q9 Z Qf Z Z Z) <| rt (hL _ ?_)
        refine QY Z h (fun h => ?_) fun h => ?_
        · refine tk fun L hL => Qr Z Z <| rt (hL _ ?_);obtain rfl := h;exact Qe (hQ _ _ (QX Z Z))
        · refine Qg (hL7 _ ?_);refine QF (st' := ⟨[(0, .c (.p (.v (.string a0)))), (20, .c (.p (.v (.int .i64 ((a0.size : Int)))))), (21, .c (.p (.v (.int .i64 s5))))], []⟩) (QG.nm [0, 20, 21] [] Z Z) ?_;refine tl fun L hL => u0 (QO Z Z Z Z Z) <| mv Z ?_;refine rt (hL _ (hL5 _ _ h (QG.nm [0, 20, 21] [] Z (by kernel_rfl))))
      · refine QM (hL4 _ _ h (QG.nm [] [] Z (by kernel_rfl)))
def Vd (a0 : ByteArray) (Q : Int → Prop) : Prop :=
 ∃ v2, Kl a0 v2 ∧ (((!(v2)) = true → Q 6) ∧ ((!(v2)) = false → Q 0))
def Zy (a0 : ByteArray) (r : Int) : Prop := Vd a0 fun x => r = x
theorem Jh (a0 : ByteArray) (r : Int) (h : Zy a0 r) : Qq Try.prog 25 [.c (.v (.string a0))] [.c (.p (.v (.int .i64 r)))] [] := by
  refine Qp tb Try.func25 Z (by kernel_rfl) Z Z (Nat.le_of_ble_eq_true Z) Z ?_;intro E;unfold Zy Vd at h;refine Zx (fun Q hQ => ?_);refine tk fun L hL => Qr Z Z <| rt (hL _ ?_);refine sk fun L1 hL1 => tk fun L hL => mv Z ?_;obtain ⟨v2, hv2, h⟩ := h;refine u0 (Qd (Wj _ _ hv2) Z Z (.cons (.c (.p _)) .nil) Z Z Z) <| u0 (Qt Z Z Z) <| rt (hL _ ?_);refine QY Z h (fun h => ?_) fun h => ?_
  · refine tk fun L hL => Qr Z Z <| rt (hL _ ?_);obtain rfl := h;exact Qe (hQ _ _ (QX Z Z))
  · refine Qg (hL1 _ ?_);refine tk fun L hL => Qr Z Z <| rt (hL _ ?_);obtain rfl := h;exact Qe (hQ _ _ (QX Z Z))
def Kw (a0 : Int) (a1 : Int) (a2 : Int) (Q : Int → Prop) : Prop :=
 ((((bif decide (a0 < a1) then true else decide (a0 > a2))) = true → Q 5) ∧ (((bif decide (a0 < a1) then true else decide (a0 > a2))) = false → Q 0))
def Qz (a0 : Int) (a1 : Int) (a2 : Int) (r : Int) : Prop := Kw a0 a1 a2 fun x => r = x
theorem QP (a0 : Int) (a1 : Int) (a2 : Int) (r : Int) (h : Qz a0 a1 a2 r) : Qq Try.prog 30 [.c (.v (.int .i64 a0)), .c (.v (.int .i64 a1)), .c (.v (.int .i64 a2))] [.c (.p (.v (.int .i64 r)))] [] := by
  refine Qp tb Try.func30 Z (by kernel_rfl) Z Z (Nat.le_of_ble_eq_true Z) Z ?_;intro E;unfold Qz Kw at h;refine Zx (fun Q hQ => ?_);refine tk fun L hL => Qr Z Z <| rt (hL _ ?_);refine sk fun L1 hL1 => tk fun L hL => mv Z <| mv Z <| u0 (Q5 (c := decide (a0 < a1)) Z Z Z Z Z) <| mv Z <| Q3 Z Z Q6 (fun hg => Q7 Z Z) <| Q3 Z Z Q6 (fun hg => Q7 Z Z) <| Q3 Z Z Q6 (fun hg => Q5 (c := decide (a0 > a2)) (Q8 hg) (Q8 hg) Z Z Z) <| u0 (Qb (v := .bool true) (w := .bool (decide (a0 > a2))) Z Z Q6 Z Qf Z Z Z) <| rt (hL _ ?_);refine QY Z h (fun h => ?_) fun h => ?_
  · refine tk fun L hL => Qr Z Z <| rt (hL _ ?_);obtain rfl := h;exact Qe (hQ _ _ (QX Z Z))
  · refine Qg (hL1 _ ?_);refine QF (st' := ⟨[], []⟩) (QG.nm [] [] Z Z) ?_;refine tk fun L hL => Qr Z Z <| rt (hL _ ?_);obtain rfl := h;exact Qe (hQ _ _ (QX Z Z))
def Ji (a0 : (List ByteArray)) (Q : Int → Prop) : Prop :=
 ∃ v2, Qz ((a0.length : Int)) 1 16 v2 ∧ ((((v2 != 0)) = true → Q v2) ∧ (((v2 != 0)) = false → jn (fun (p3 : Unit) => Q 0) (fun (J3 : Unit → Prop) => lp (fun (X4 : Int → Prop) (s4 : Int) => (((decide (s4 < ((a0.length : Int)))) = true → ∃ v7, ix a0 s4 v7 ∧ ∃ v8, Zy v7 v8 ∧ ((((v8 != 0)) = true → Q v8) ∧ (((v8 != 0)) = false → X4 ((IntKind.i64.wrap (s4 + 1)))))) ∧ ((decide (s4 < ((a0.length : Int)))) = false → J3 (())))) 0)))
def ZS (a0 : (List ByteArray)) (r : Int) : Prop := Ji a0 fun x => r = x
theorem Ye (a0 : (List ByteArray)) (r : Int) (h : ZS a0 r) : Qq Try.prog 26 [.c (.l 1 (List.map eS a0))] [.c (.p (.v (.int .i64 r)))] [] := by
  refine Qp tb Try.func26 Z (by kernel_rfl) Z Z (Nat.le_of_ble_eq_true Z) Z ?_;intro E;unfold ZS Ji at h;refine Zx (fun Q hQ => ?_);refine tk fun L hL => Qr Z Z <| rt (hL _ ?_);refine sk fun L1 hL1 => tk fun L hL => mv Z <| u0 (Qi Z Z Z Z) ?_;obtain ⟨v2, hv2, h⟩ := h;refine u0 (Qd (QP _ _ _ _ hv2) Z Z (.cons (.c (.p _)) (.cons (.c (.p _)) (.cons (.c (.p _)) .nil))) Z Z Z) <| Qr Z Z <| rt (hL _ ?_);refine tk fun L hL => mv Z <| u0 (Q5 (c := (v2 != 0)) Z Z Z Z Z) <| rt (hL _ ?_);refine QY Z h (fun h => ?_) fun h => ?_
  · refine tk fun L hL => mv Z <| Qr Z Z <| rt (hL _ ?_);obtain rfl := h;exact Qe (hQ _ _ (QX Z Z))
  · refine Qg (hL1 _ ?_);refine Zo (fun (p3 : Unit) => (⟨[], []⟩ : St)) h (fun p3 h => ?_) (fun J3 L3 hL3 h => ?_)
    · refine tk fun L hL => Qr Z Z <| rt (hL _ ?_);obtain rfl := h;exact Qe (hQ _ _ (QX Z Z))
    · refine tk fun L hL => mv Z <| u0 (Qi Z Z Z Z) <| u0 (Q7 Z Z) <| rt (hL _ ?_);refine Ql ?_;refine ZK (fun (s4 : Int) => (⟨[(13, .c (.p (.l 1 (List.map eS a0)))), (14, .c (.p (.v (.int .i64 ((a0.length : Int)))))), (15, .c (.p (.v (.int .i64 s4))))], []⟩ : St)) h (QG.nm [13, 14, 15] [] Z (by kernel_rfl)) (fun X4 L4 hL4 s4 h => ?_);refine tk fun L hL => u0 (Q5 (c := decide (s4 < ((a0.length : Int)))) Z Z Z Z Z) <| rt (hL _ ?_);refine sk fun L5 hL5 => ?_;refine QY Z h (fun h => ?_) fun h => ?_
      · refine Qg (hL5 _ ?_);refine sk fun L6 hL6 => Ql <| tk fun L hL => ?_;obtain ⟨v7, hv7, h⟩ := h;refine u0 (Qk hv7 Z Z Z Z Z Z Z Z) <| u0 (Qn Z Z Z Z Z) <| Qr Z Z <| rt (hL _ ?_);refine tk fun L hL => mv Z ?_;obtain ⟨v8, hv8, h⟩ := h;refine u0 (Qd (Jh _ _ hv8) Z Z (.cons (.c (.p _)) .nil) Z Z Z) <| Qr Z Z <| rt (hL _ ?_);refine tk fun L hL => mv Z <| u0 (Q5 (c := (v8 != 0)) Z Z Z Z Z) <| rt (hL _ ?_);refine QY Z h (fun h => ?_) fun h => ?_
        · refine tk fun L hL => mv Z <| Qr Z Z <| rt (hL _ ?_);obtain rfl := h;exact Qe (hQ _ _ (QX Z Z))
        · refine Qg (hL6 _ ?_);refine tl fun L hL => u0 (QO Z Z Z Z Z) <| mv Z ?_;refine rt (hL _ (hL4 _ _ h (QG.nm [13, 14, 15] [] Z (by kernel_rfl))))
      · refine QM (hL3 _ _ h (QG.nm [] [] Z (by kernel_rfl)))
def Js (a0 : Int) (a1 : Int) (a2 : Int) (Q : Bool → Prop) : Prop :=
 Q (((bif decide (a0 ≥ a1) then decide (a0 ≤ a2) else false)))
def Z3 (a0 : Int) (a1 : Int) (a2 : Int) (r : Bool) : Prop := Js a0 a1 a2 fun x => r = x
theorem Kb (a0 : Int) (a1 : Int) (a2 : Int) (r : Bool) (h : Z3 a0 a1 a2 r) : Qq Try.prog 41 [.c (.v (.int .i64 a0)), .c (.v (.int .i64 a1)), .c (.v (.int .i64 a2))] [.c (.p (.v (.bool r)))] [] := by
  refine Qp tb Try.func41 Z (by kernel_rfl) Z Z (Nat.le_of_ble_eq_true Z) Z ?_;intro E;unfold Z3 Js at h;refine Zx (fun Q hQ => ?_);refine tk fun L hL => Qr Z Z <| rt (hL _ ?_);refine tk fun L hL => mv Z <| mv Z <| u0 (Q5 (c := decide (a0 ≥ a1)) Z Z Z Z Z) <| mv Z <| Q3 Z Z Q9 (fun hg => Q7 Z Z) <| Q3 Z Z Q9 (fun hg => Q7 Z Z) <| Q3 Z Z Q9 (fun hg => Q5 (c := decide (a0 ≤ a2)) (Q8 hg) (Q8 hg) Z Z Z) <| u0 (Qa (v := .bool (decide (a0 ≤ a2))) (w := .bool false) Z Z Q9 Z Qf Z Z Z) <| Qr Z Z <| rt (hL _ ?_);obtain rfl := h;exact Qe (hQ _ _ (QX Z Z))
def ZT (a0 : Qw) (Q : Int → Prop) : Prop :=
 jn (fun (p1 : Bool × Bool × Bool × Bool) => (((!(p1.1)) = true → Q 5) ∧ ((!(p1.1)) = false → ((((bif (bif (bif !(p1.2.1) then (a0.f3 != 0) else false) then true else (bif !(p1.2.2.1) then (a0.fy != 0) else false)) then true else (bif !(p1.2.2.2) then (a0.fa3 != 0) else false))) = true → Q 10) ∧ (((bif (bif (bif !(p1.2.1) then (a0.f3 != 0) else false) then true else (bif !(p1.2.2.1) then (a0.fy != 0) else false)) then true else (bif !(p1.2.2.2) then (a0.fa3 != 0) else false))) = false → Q 0))))) (fun (J1 : Bool × Bool × Bool × Bool → Prop) => ((((a0.fc == 1)) = true → J1 (true, false, false, false)) ∧ (((a0.fc == 1)) = false → ((((a0.fc == 2)) = true → ∃ v2, Z3 a0.fy 1 8 v2 ∧ ∃ (v3 : Bool), (v2 = true → Z3 a0.f3 1 64 v3) ∧ J1 (((bif v2 then v3 else false)), true, true, true)) ∧ (((a0.fc == 2)) = false → ((((a0.fc == 3)) = true → ∃ v4, Z3 a0.f3 2 8 v4 ∧ J1 (v4, true, false, true)) ∧ (((a0.fc == 3)) = false → jn (fun (p5 : Bool) => ((p5 = true → ∃ v6, Z3 a0.f3 1 32 v6 ∧ J1 (v6, true, false, false)) ∧ (p5 = false → ((((a0.fc == 6)) = true → ∃ v7, Z3 a0.f3 2 32 v7 ∧ J1 (((bif v7 then ((a0.f3.tmod 2) == 0) else false)), true, false, false)) ∧ (((a0.fc == 6)) = false → Q 8))))) (fun (J5 : Bool → Prop) => ((((a0.fc == 4)) = true → J5 (((a0.fc == 4)))) ∧ (((a0.fc == 4)) = false → J5 (((a0.fc == 5)))))))))))))
def Z4 (a0 : Qw) (r : Int) : Prop := ZT a0 fun x => r = x
theorem Ve (a0 : Qw) (r : Int) (h : Z4 a0 r) : Qq Try.prog 27 [.agg (KU a0)] [.c (.p (.v (.int .i64 r)))] [] := by
  refine Qp tb Try.func27 Z (by kernel_rfl) Z Z (Nat.le_of_ble_eq_true Z) Z ?_;intro E;unfold Z4 ZT at h;refine Zx (fun Q hQ => ?_);refine tk fun L hL => u1 (QL Z Z) <| Qr Z Z <| rt (hL _ ?_);refine tk fun L hL => Qr Z Z <| Qr Z Z <| Qr Z Z <| Qr Z Z <| rt (hL _ ?_);refine Zo (fun (p1 : Bool × Bool × Bool × Bool) => (⟨[(1, .c (.ptr (1, 0) 0 0)), (3, .c (.p (.v (.bool p1.1)))), (4, .c (.p (.v (.bool p1.2.1)))), (5, .c (.p (.v (.bool p1.2.2.1)))), (6, .c (.p (.v (.bool p1.2.2.2))))], [((1, 0), some (.box (List.map CV.p (KU a0))))]⟩ : St)) h (fun p1 h => ?_) (fun J1 L1 hL1 h => ?_)
  · refine sk fun L8 hL8 => tk fun L hL => mv Z <| u0 (Qt Z Z Z) <| rt (hL _ ?_);refine QY Z h (fun h => ?_) fun h => ?_
    · refine tk fun L hL => Qr Z Z <| rt (hL _ ?_);obtain rfl := h;exact Qe (hQ _ _ (QX Z Z))
    · refine Qg (hL8 _ ?_);refine sk fun L9 hL9 => tk fun L hL => mv Z <| u0 (Qt Z Z Z) <| mv Z <| Q3 Z Z Q9 (fun hg => Q2 Z Z Z Z Z Z Z Z Z) <| Q3 Z Z Q9 (fun hg => Q1 (Q8 hg) Z Z Z Z Z) <| Q3 Z Z Q9 (fun hg => Q5 (c := (a0.f3 != 0)) (Q8 hg) Z Z Z Z) <| u0 (Qa (v := .bool ((a0.f3 != 0))) (w := .bool false) Z Z Q9 Z Qf Z Z Z) <| mv Z <| Q3 Z Z Q6 (fun hg => Q7 Z Z) <| Q3 Z Z Q6 (fun hg => Qt (Q8 hg) Z Z) <| Q3 Z Z Q6 (fun hg => Q7 (Q8 hg) Z) <| Qc Z Z Qh (fun hg => Q2 Z Z Z Z Z Z Z Z Z) <| Qc Z Z Qh (fun hg => Q1 (Q8 hg) Z Z Z Z Z) <| Qc Z Z Qh (fun hg => Q5 (c := (a0.fy != 0)) (Q8 hg) Z Z Z Z) <| Q3 Z Z Q6 (fun hg => Qa (v := .bool ((a0.fy != 0))) (w := .bool false) (Q8 hg) Z (Z5 hg) Z Qf Z Z Z) <| u0 (Qb (v := .bool true) (w := .bool ((bif !(p1.2.2.1) then (a0.fy != 0) else false))) Z Z Q6 Z Qf Z Z Z) <| mv Z <| Q3 Z Z Q6 (fun hg => Q7 Z Z) <| Q3 Z Z Q6 (fun hg => Qt (Q8 hg) Z Z) <| Q3 Z Z Q6 (fun hg => Q7 (Q8 hg) Z) <| Qc Z Z Qh (fun hg => Q2 Z Z Z Z Z Z Z Z Z) <| Qc Z Z Qh (fun hg => Q1 (Q8 hg) Z Z Z Z Z) <| Qc Z Z Qh (fun hg => Q5 (c := (a0.fa3 != 0)) (Q8 hg) Z Z Z Z) <| Q3 Z Z Q6 (fun hg => Qa (v := .bool ((a0.fa3 != 0))) (w := .bool false) (Q8 hg) Z (Z5 hg) Z Qf Z Z Z) ?_
      refine u0 (Qb (v := .bool true) (w := .bool ((bif !(p1.2.2.2) then (a0.fa3 != 0) else false))) Z Z Q6 Z Qf Z Z Z) <| rt (hL _ ?_);refine QY Z h (fun h => ?_) fun h => ?_
      · refine tk fun L hL => Qr Z Z <| rt (hL _ ?_);obtain rfl := h;exact Qe (hQ _ _ (QX Z Z))
      · refine Qg (hL9 _ ?_);refine QF (st' := ⟨[], []⟩) (QG.nm [] [] Z Z) ?_;refine tk fun L hL => Qr Z Z <| rt (hL _ ?_);obtain rfl := h;exact Qe (hQ _ _ (QX Z Z))
  · refine tk fun L hL => u0 (Q2 Z Z Z Z Z Z Z Z Z) <| u0 (Q1 Z Z Z Z Z Z) <| rt (hL _ ?_);refine Ql <| tk fun L hL => u0 (Q5 (c := (a0.fc == 1)) Z Z Z Z Z) <| Qr Z Z <| rt (hL _ ?_);refine QY Z h (fun h => ?_) fun h => ?_
    · refine tl fun L hL => Qr Z Z ?_;refine rt (hL _ (hL1 _ _ h (QG.nm [1, 3, 4, 5, 6] [((1, 0), (1, 0))] Z (by kernel_rfl))))
    · refine tk fun L hL => u0 (Q5 (c := (a0.fc == 2)) Z Z Z Z Z) <| Qr Z Z <| rt (hL _ ?_);refine QY Z h (fun h => ?_) fun h => ?_
      · refine tk fun L hL => u0 (Q2 Z Z Z Z Z Z Z Z Z) <| u0 (Q1 Z Z Z Z Z Z) ?_;obtain ⟨v2, hv2, h⟩ := h;refine u0 (Qd (Kb _ _ _ _ hv2) Z Z (.cons (.c (.p _)) (.cons (.c (.p _)) (.cons (.c (.p _)) .nil))) Z Z Z) <| mv Z <| Q3 Z Z Q9 (fun hg => Q2 Z Z Z Z Z Z Z Z Z) <| Q3 Z Z Q9 (fun hg => Q1 (Q8 hg) Z Z Z Z Z) ?_;obtain ⟨v3, hv3, h⟩ := h;refine Q3 Z Z Q9 (fun hg => Qd (Kb _ _ _ _ (hv3 hg)) Z Z (.cons (QS hg (.c (.p _))) (.cons (.c (.p _)) (.cons (.c (.p _)) .nil))) Z Z Z) <| u0 (Qa (v := .bool v3) (w := .bool false) Z Z Q9 Z Qf Z Z Z) <| Qr Z Z <| rt (hL _ ?_);refine tl fun L hL => Qr Z Z <| Qr Z Z ?_;refine rt (hL _ (hL1 _ _ h (QG.nm [1, 3, 4, 5, 6] [((1, 0), (1, 0))] Z (by kernel_rfl))))
      · refine tk fun L hL => u0 (Q5 (c := (a0.fc == 3)) Z Z Z Z Z) <| Qr Z Z <| rt (hL _ ?_);refine QY Z h (fun h => ?_) fun h => ?_
        · refine tk fun L hL => u0 (Q2 Z Z Z Z Z Z Z Z Z) <| u0 (Q1 Z Z Z Z Z Z) ?_;obtain ⟨v4, hv4, h⟩ := h;refine u0 (Qd (Kb _ _ _ _ hv4) Z Z (.cons (.c (.p _)) (.cons (.c (.p _)) (.cons (.c (.p _)) .nil))) Z Z Z) <| Qr Z Z <| rt (hL _ ?_);refine tl fun L hL => Qr Z Z ?_;refine rt (hL _ (hL1 _ _ h (QG.nm [1, 3, 4, 5, 6] [((1, 0), (1, 0))] Z (by kernel_rfl))))
        · refine Zo (fun (p5 : Bool) => (⟨[(1, .c (.ptr (1, 0) 0 0)), (4, .c (.p (.v (.bool true)))), (5, .c (.p (.v (.bool false)))), (6, .c (.p (.v (.bool false)))), (8, .c (.p (.v (.int .i64 a0.fc)))), (26, .c (.p (.v (.bool p5))))], [((1, 0), some (.box (List.map CV.p (KU a0))))]⟩ : St)) h (fun p5 h => ?_) (fun J5 L5 hL5 h => ?_)
          · refine QY Z h (fun h => ?_) fun h => ?_
            · refine tl fun L hL => u0 (Q2 Z Z Z Z Z Z Z Z Z) <| u0 (Q1 Z Z Z Z Z Z) ?_;obtain ⟨v6, hv6, h⟩ := h;refine u0 (Qd (Kb _ _ _ _ hv6) Z Z (.cons (.c (.p _)) (.cons (.c (.p _)) (.cons (.c (.p _)) .nil))) Z Z Z) <| Qr Z Z ?_;refine rt (hL _ (hL1 _ _ h (QG.nm [1, 3, 4, 5, 6] [((1, 0), (1, 0))] Z (by kernel_rfl))))
            · refine tk fun L hL => u0 (Q5 (c := (a0.fc == 6)) Z Z Z Z Z) <| Qr Z Z <| rt (hL _ ?_);refine QY Z h (fun h => ?_) fun h => ?_
              · refine tl fun L hL => u0 (Q2 Z Z Z Z Z Z Z Z Z) <| u0 (Q1 Z Z Z Z Z Z) ?_;obtain ⟨v7, hv7, h⟩ := h;refine u0 (Qd (Kb _ _ _ _ hv7) Z Z (.cons (.c (.p _)) (.cons (.c (.p _)) (.cons (.c (.p _)) .nil))) Z Z Z) <| mv Z <| Q3 Z Z Q9 (fun hg => Q2 Z Z Z Z Z Z Z Z Z) <| Q3 Z Z Q9 (fun hg => Q1 (Q8 hg) Z Z Z Z Z) ?_;refine Q3 Z Z Q9 (fun hg => E2 (by decide) (Q8 hg) Z Z Z) ?_;refine Q3 Z Z Q9 (fun hg => Q5 (c := ((a0.f3.tmod 2) == 0)) (Q8 hg) Z Z Z Z) <| u0 (Qa (v := .bool (((a0.f3.tmod 2) == 0))) (w := .bool false) Z Z Q9 Z Qf Z Z Z) <| Qr Z Z ?_;refine rt (hL _ (hL1 _ _ h (QG.nm [1, 3, 4, 5, 6] [((1, 0), (1, 0))] Z (by kernel_rfl))))
              · refine tk fun L hL => Qr Z Z <| rt (hL _ ?_);obtain rfl := h;exact Qe (hQ _ _ (QX Z Z))
          · refine tk fun L hL => u0 (Q5 (c := (a0.fc == 4)) Z Z Z Z Z) <| Qr Z Z <| rt (hL _ ?_);refine QY Z h (fun h => ?_) fun h => ?_
            · refine Qg (hL5 _ _ h (QG.nm [1, 4, 5, 6, 8, 26] [((1, 0), (1, 0))] Z (by kernel_rfl)))
            · refine tl fun L hL => u0 (Q5 (c := (a0.fc == 5)) Z Z Z Z Z) <| Qr Z Z ?_;refine rt (hL _ (hL5 _ _ h (QG.nm [1, 4, 5, 6, 8, 26] [((1, 0), (1, 0))] Z (by kernel_rfl))))
def JY (a0 : ByteArray) (Q : Bool → Prop) : Prop :=
 Q (((bif decide (((a0.size : Int)) ≥ 1) then decide (((a0.size : Int)) ≤ 32) else false)))
def Kg (a0 : ByteArray) (r : Bool) : Prop := JY a0 fun x => r = x
theorem Xg (a0 : ByteArray) (r : Bool) (h : Kg a0 r) : Qq Try.prog 43 [.c (.v (.string a0))] [.c (.p (.v (.bool r)))] [] := by
  refine Qp tb Try.func43 Z (by kernel_rfl) Z Z (Nat.le_of_ble_eq_true Z) Z ?_;intro E;unfold Kg JY at h;refine Zx (fun Q hQ => ?_);refine tk fun L hL => Qr Z Z <| rt (hL _ ?_);refine tk fun L hL => mv Z <| u0 (QI Z Z Z Z) <| u0 (Q5 (c := decide (((a0.size : Int)) ≥ 1)) Z Z Z Z Z) <| mv Z <| Q3 Z Z Q9 (fun hg => Q7 Z Z) <| Q3 Z Z Q9 (fun hg => QI (Q8 hg) Z Z Z) <| Q3 Z Z Q9 (fun hg => Q5 (c := decide (((a0.size : Int)) ≤ 32)) (Q8 hg) Z Z Z Z) <| u0 (Qa (v := .bool (decide (((a0.size : Int)) ≤ 32))) (w := .bool false) Z Z Q9 Z Qf Z Z Z) <| Qr Z Z <| rt (hL _ ?_);obtain rfl := h;exact Qe (hQ _ _ (QX Z Z))
def Km (a0 : Qv) (Q : Int → Prop) : Prop :=
 ∃ v2, Kg a0.fu v2 ∧ (((!(v2)) = true → Q 7) ∧ ((!(v2)) = false → ((((bif decide (a0.fa1 < 1) then true else decide (a0.fa1 > 4294967295))) = true → Q 5) ∧ (((bif decide (a0.fa1 < 1) then true else decide (a0.fa1 > 4294967295))) = false → Q 0))))
def Zs (a0 : Qv) (r : Int) : Prop := Km a0 fun x => r = x
theorem VQ (a0 : Qv) (r : Int) (h : Zs a0 r) : Qq Try.prog 42 [.agg (KI a0)] [.c (.p (.v (.int .i64 r)))] [] := by
  refine Qp tb Try.func42 Z (by kernel_rfl) Z Z (Nat.le_of_ble_eq_true Z) Z ?_;intro E;unfold Zs Km at h;refine Zx (fun Q hQ => ?_);refine tk fun L hL => u1 (QL Z Z) <| Qr Z Z <| rt (hL _ ?_);refine sk fun L1 hL1 => tk fun L hL => u0 (Q2 Z Z Z Z Z Z Z Z Z) <| u0 (Q1 Z Z Z Z Z Z) ?_;obtain ⟨v2, hv2, h⟩ := h;refine u0 (Qd (Xg _ _ hv2) Z Z (.cons (.c (.p _)) .nil) Z Z Z) <| u0 (Qt Z Z Z) <| rt (hL _ ?_);refine QY Z h (fun h => ?_) fun h => ?_
  · refine tk fun L hL => Qr Z Z <| rt (hL _ ?_);obtain rfl := h;exact Qe (hQ _ _ (QX Z Z))
  · refine Qg (hL1 _ ?_);refine sk fun L3 hL3 => tk fun L hL => u0 (Q2 Z Z Z Z Z Z Z Z Z) <| u0 (Q1 Z Z Z Z Z Z) <| u0 (Q5 (c := decide (a0.fa1 < 1)) Z Z Z Z Z) <| mv Z <| Q3 Z Z Q6 (fun hg => Q2 Z Z Z Z Z Z Z Z Z) <| Q3 Z Z Q6 (fun hg => Q1 (Q8 hg) Z Z Z Z Z) <| Q3 Z Z Q6 (fun hg => Q5 (c := decide (a0.fa1 > 4294967295)) (Q8 hg) Z Z Z Z) <| u0 (Qb (v := .bool true) (w := .bool (decide (a0.fa1 > 4294967295))) Z Z Q6 Z Qf Z Z Z) <| rt (hL _ ?_);refine QY Z h (fun h => ?_) fun h => ?_
    · refine tk fun L hL => Qr Z Z <| rt (hL _ ?_);obtain rfl := h;exact Qe (hQ _ _ (QX Z Z))
    · refine Qg (hL3 _ ?_);refine QF (st' := ⟨[], []⟩) (QG.nm [] [] Z Z) ?_;refine tk fun L hL => Qr Z Z <| rt (hL _ ?_);obtain rfl := h;exact Qe (hQ _ _ (QX Z Z))
def KW (a0 : (List Qv)) (Q : Int → Prop) : Prop :=
 ∃ v2, Qz ((a0.length : Int)) 1 64 v2 ∧ ((((v2 != 0)) = true → Q v2) ∧ (((v2 != 0)) = false → jn (fun (p3 : Unit) => Q 0) (fun (J3 : Unit → Prop) => lp (fun (X4 : Int → Prop) (s4 : Int) => (((decide (s4 < ((a0.length : Int)))) = true → ∃ v7, ix a0 s4 v7 ∧ ∃ v8, Zs v7 v8 ∧ ((((v8 != 0)) = true → Q v8) ∧ (((v8 != 0)) = false → X4 ((IntKind.i64.wrap (s4 + 1)))))) ∧ ((decide (s4 < ((a0.length : Int)))) = false → J3 (())))) 0)))
def ZM (a0 : (List Qv)) (r : Int) : Prop := KW a0 fun x => r = x
theorem XS (a0 : (List Qv)) (r : Int) (h : ZM a0 r) : Qq Try.prog 28 [.c (.l 2 (List.map KI a0))] [.c (.p (.v (.int .i64 r)))] [] := by
  refine Qp tb Try.func28 Z (by kernel_rfl) Z Z (Nat.le_of_ble_eq_true Z) Z ?_;intro E;unfold ZM KW at h;refine Zx (fun Q hQ => ?_);refine tk fun L hL => Qr Z Z <| rt (hL _ ?_);refine sk fun L1 hL1 => tk fun L hL => mv Z <| u0 (Qi Z Z Z Z) ?_;obtain ⟨v2, hv2, h⟩ := h;refine u0 (Qd (QP _ _ _ _ hv2) Z Z (.cons (.c (.p _)) (.cons (.c (.p _)) (.cons (.c (.p _)) .nil))) Z Z Z) <| Qr Z Z <| rt (hL _ ?_);refine tk fun L hL => mv Z <| u0 (Q5 (c := (v2 != 0)) Z Z Z Z Z) <| rt (hL _ ?_);refine QY Z h (fun h => ?_) fun h => ?_
  · refine tk fun L hL => mv Z <| Qr Z Z <| rt (hL _ ?_);obtain rfl := h;exact Qe (hQ _ _ (QX Z Z))
  · refine Qg (hL1 _ ?_);refine Zo (fun (p3 : Unit) => (⟨[], []⟩ : St)) h (fun p3 h => ?_) (fun J3 L3 hL3 h => ?_)
    · refine tk fun L hL => Qr Z Z <| rt (hL _ ?_);obtain rfl := h;exact Qe (hQ _ _ (QX Z Z))
    · refine tk fun L hL => mv Z <| u0 (Qi Z Z Z Z) <| u0 (Q7 Z Z) <| rt (hL _ ?_);refine Ql ?_;refine ZK (fun (s4 : Int) => (⟨[(13, .c (.p (.l 2 (List.map KI a0)))), (14, .c (.p (.v (.int .i64 ((a0.length : Int)))))), (15, .c (.p (.v (.int .i64 s4))))], []⟩ : St)) h (QG.nm [13, 14, 15] [] Z (by kernel_rfl)) (fun X4 L4 hL4 s4 h => ?_);refine tk fun L hL => u0 (Q5 (c := decide (s4 < ((a0.length : Int)))) Z Z Z Z Z) <| rt (hL _ ?_);refine sk fun L5 hL5 => ?_;refine QY Z h (fun h => ?_) fun h => ?_
      · refine Qg (hL5 _ ?_);refine sk fun L6 hL6 => Ql <| tk fun L hL => ?_;obtain ⟨v7, hv7, h⟩ := h;refine u0 (Qk hv7 Z Z Z Z Z Z Z Z) <| u0 (Qy Z Z Z Z Z Z Z) <| u1 (Z8 Z Z Z) <| un (Zr Z Z Z Z Z Z Z Z Z) <| rt (hL _ ?_);refine tk fun L hL => u0 (Qo Z Z Z Z Z Z Z) ?_;obtain ⟨v8, hv8, h⟩ := h;refine u0 (Qd (VQ _ _ hv8) Z Z (.cons (.agg (.pp (.pp .nil))) .nil) Z Z Z) <| Qr Z Z <| rt (hL _ ?_);refine tk fun L hL => mv Z <| u0 (Q5 (c := (v8 != 0)) Z Z Z Z Z) <| rt (hL _ ?_);refine QY Z h (fun h => ?_) fun h => ?_
        · refine tk fun L hL => mv Z <| Qr Z Z <| rt (hL _ ?_);obtain rfl := h;exact Qe (hQ _ _ (QX Z Z))
        · refine Qg (hL6 _ ?_);refine tl fun L hL => u0 (QO Z Z Z Z Z) <| mv Z ?_;refine rt (hL _ (hL4 _ _ h (QG.nm [13, 14, 15] [] Z (by kernel_rfl))))
      · refine QM (hL3 _ _ h (QG.nm [] [] Z (by kernel_rfl)))
def KX (a0 : (List Int)) (a1 : Int) (Q : Int → Prop) : Prop :=
 (((decide (((a0.length : Int)) > a1)) = true → Q 11) ∧ ((decide (((a0.length : Int)) > a1)) = false → Q 0))
def Zu (a0 : (List Int)) (a1 : Int) (r : Int) : Prop := KX a0 a1 fun x => r = x
theorem JP (a0 : (List Int)) (a1 : Int) (r : Int) (h : Zu a0 a1 r) : Qq Try.prog 29 [.c (.l 1 (List.map (eI .u8) a0)), .c (.v (.int .i64 a1))] [.c (.p (.v (.int .i64 r)))] [] := by
  refine Qp tb Try.func29 Z (by kernel_rfl) Z Z (Nat.le_of_ble_eq_true Z) Z ?_;intro E;unfold Zu KX at h;refine Zx (fun Q hQ => ?_);refine tk fun L hL => Qr Z Z <| rt (hL _ ?_);refine sk fun L1 hL1 => tk fun L hL => mv Z <| u0 (Qi Z Z Z Z) <| mv Z <| u0 (Q5 (c := decide (((a0.length : Int)) > a1)) Z Z Z Z Z) <| rt (hL _ ?_);refine QY Z h (fun h => ?_) fun h => ?_
  · refine tk fun L hL => Qr Z Z <| rt (hL _ ?_);obtain rfl := h;exact Qe (hQ _ _ (QX Z Z))
  · refine Qg (hL1 _ ?_);refine tk fun L hL => Qr Z Z <| rt (hL _ ?_);obtain rfl := h;exact Qe (hQ _ _ (QX Z Z))
def Jj (a0 : QB) (Q : Int → Prop) : Prop :=
 ((((bif decide (a0.fc < 1) then true else decide (a0.fc > 7))) = true → Q 8) ∧ (((bif decide (a0.fc < 1) then true else decide (a0.fc > 7))) = false → ∃ (v3 : Bool), (((bif (a0.fc == 2) then true else (a0.fc == 6))) = true → Kg a0.fu v3) ∧ ((((bif (bif (a0.fc == 2) then true else (a0.fc == 6)) then !(v3) else false)) = true → Q 7) ∧ (((bif (bif (a0.fc == 2) then true else (a0.fc == 6)) then !(v3) else false)) = false → ((((bif (a0.fc == 5) then (bif decide (a0.fi < 0) then true else decide (a0.fi > 32)) else false)) = true → Q 5) ∧ (((bif (a0.fc == 5) then (bif decide (a0.fi < 0) then true else decide (a0.fi > 32)) else false)) = false → ((((bif (a0.fc == 7) then (bif (bif (bif decide (a0.f7 < 1) then true else decide (a0.f7 > 1000000)) then true else decide (a0.fa4 < 0)) then true else decide (a0.fa4 > a0.f7)) else false)) = true → Q 5) ∧ (((bif (a0.fc == 7) then (bif (bif (bif decide (a0.f7 < 1) then true else decide (a0.f7 > 1000000)) then true else decide (a0.fa4 < 0)) then true else decide (a0.fa4 > a0.f7)) else false)) = false → ((((bif (bif (bif !((bif (a0.fc == 2) then true else (a0.fc == 6))) then (!(a0.fu.toList == ((⟨#[]⟩ : ByteArray)).toList)) else false) then true else (bif !((a0.fc == 5)) then (a0.fi != 0) else false)) then true else (bif !((a0.fc == 7)) then (bif (a0.fa4 != 0) then true else (a0.f7 != 0)) else false))) = true → Q 18) ∧ (((bif (bif (bif !((bif (a0.fc == 2) then true else (a0.fc == 6))) then (!(a0.fu.toList == ((⟨#[]⟩ : ByteArray)).toList)) else false) then true else (bif !((a0.fc == 5)) then (a0.fi != 0) else false)) then true else (bif !((a0.fc == 7)) then (bif (a0.fa4 != 0) then true else (a0.f7 != 0)) else false))) = false → Q 0))))))))))
def ZU (a0 : QB) (r : Int) : Prop := Jj a0 fun x => r = x
theorem Yf (a0 : QB) (r : Int) (h : ZU a0 r) : Qq Try.prog 31 [.agg (Jq a0)] [.c (.p (.v (.int .i64 r)))] [] := by
  refine Qp tb Try.func31 Z (by kernel_rfl) Z Z (Nat.le_of_ble_eq_true Z) Z ?_;intro E;unfold ZU Jj at h;refine Zx (fun Q hQ => ?_);refine tk fun L hL => u1 (QL Z Z) <| Qr Z Z <| rt (hL _ ?_);refine sk fun L1 hL1 => tk fun L hL => u0 (Q2 Z Z Z Z Z Z Z Z Z) <| u0 (Q1 Z Z Z Z Z Z) <| u0 (Q5 (c := decide (a0.fc < 1)) Z Z Z Z Z) <| mv Z <| Q3 Z Z Q6 (fun hg => Q2 Z Z Z Z Z Z Z Z Z) <| Q3 Z Z Q6 (fun hg => Q1 (Q8 hg) Z Z Z Z Z) <| Q3 Z Z Q6 (fun hg => Q5 (c := decide (a0.fc > 7)) (Q8 hg) Z Z Z Z) <| u0 (Qb (v := .bool true) (w := .bool (decide (a0.fc > 7))) Z Z Q6 Z Qf Z Z Z) <| rt (hL _ ?_);refine QY Z h (fun h => ?_) fun h => ?_
  · refine tk fun L hL => Qr Z Z <| rt (hL _ ?_);obtain rfl := h;exact Qe (hQ _ _ (QX Z Z))
  · refine Qg (hL1 _ ?_);refine QF (st' := ⟨[(1, .c (.ptr (1, 0) 0 0))], [((1, 0), some (.box (List.map CV.p (Jq a0))))]⟩) (QG.nm [1] [((1, 0), (1, 0))] Z Z) ?_;refine tk fun L hL => u0 (Q2 Z Z Z Z Z Z Z Z Z) <| u0 (Q1 Z Z Z Z Z Z) <| u0 (Q5 (c := (a0.fc == 2)) Z Z Z Z Z) <| mv Z <| Q3 Z Z Q6 (fun hg => Q2 Z Z Z Z Z Z Z Z Z) <| Q3 Z Z Q6 (fun hg => Q1 (Q8 hg) Z Z Z Z Z) <| Q3 Z Z Q6 (fun hg => Q5 (c := (a0.fc == 6)) (Q8 hg) Z Z Z Z) <| u0 (Qb (v := .bool true) (w := .bool ((a0.fc == 6))) Z Z Q6 Z Qf Z Z Z) <| Qr Z Z <| rt (hL _ ?_);refine dk mixed (fun L hL => ?_);refine u0 (Q2 Z Z Z Z Z Z Z Z Z) <| u0 (Q1 Z Z Z Z Z Z) <| u0 (Q5 (c := (a0.fc == 5)) Z Z Z Z Z) <| u0 (Q2 Z Z Z Z Z Z Z Z Z) <| u0 (Q1 Z Z Z Z Z Z) <| u0 (Q5 (c := (a0.fc == 7)) Z Z Z Z Z) <| Qr Z Z <| Qr Z Z <| rd (hL _ ?_);refine sk fun L2 hL2 => Ql <| tk fun L hL => mv Z <| mv Z <| Q3 Z Z Q9 (fun hg => Q2 Z Z Z Z Z Z Z Z Z) <| Q3 Z Z Q9 (fun hg => Q1 (Q8 hg) Z Z Z Z Z) ?_;obtain ⟨v3, hv3, h⟩ := h
    refine Q3 Z Z Q9 (fun hg => Qd (Xg _ _ (hv3 hg)) Z Z (.cons (QS hg (.c (.p _))) .nil) Z Z Z) <| Q3 Z Z Q9 (fun hg => Qt (Q8 hg) Z Z) <| u0 (Qa (v := .bool (!(v3))) (w := .bool false) Z Z Q9 Z Qf Z Z Z) <| Qr Z Z <| rt (hL _ ?_);refine QY Z h (fun h => ?_) fun h => ?_
    · refine tk fun L hL => Qr Z Z <| rt (hL _ ?_);obtain rfl := h;exact Qe (hQ _ _ (QX Z Z))
    · refine tk fun L hL => mv Z <| mv Z <| Q3 Z Z Q9 (fun hg => Q2 Z Z Z Z Z Z Z Z Z) <| Q3 Z Z Q9 (fun hg => Q1 (Q8 hg) Z Z Z Z Z) <| Q3 Z Z Q9 (fun hg => Q5 (c := decide (a0.fi < 0)) (Q8 hg) Z Z Z Z) <| Q3 Z Z Q9 (fun hg => Q7 (Q8 hg) Z) <| Qc Z Z QC (fun hg => Q2 Z Z Z Z Z Z Z Z Z) <| Qc Z Z QC (fun hg => Q1 (Q8 hg) Z Z Z Z Z) <| Qc Z Z QC (fun hg => Q5 (c := decide (a0.fi > 32)) (Q8 hg) Z Z Z Z) <| Q3 Z Z Q9 (fun hg => Qb (v := .bool true) (w := .bool (decide (a0.fi > 32))) (Q8 hg) Z (Jg hg) Z Qf Z Z Z) <| u0 (Qa (v := .bool ((bif decide (a0.fi < 0) then true else decide (a0.fi > 32)))) (w := .bool false) Z Z Q9 Z Qf Z Z Z) <| Qr Z Z <| rt (hL _ ?_);refine QY Z h (fun h => ?_) fun h => ?_
      · refine tk fun L hL => Qr Z Z <| rt (hL _ ?_);obtain rfl := h;exact Qe (hQ _ _ (QX Z Z))
      · refine tk fun L hL => mv Z <| mv Z <| Q3 Z Z Q9 (fun hg => Q2 Z Z Z Z Z Z Z Z Z) <| Q3 Z Z Q9 (fun hg => Q1 (Q8 hg) Z Z Z Z Z) <| Q3 Z Z Q9 (fun hg => Q5 (c := decide (a0.f7 < 1)) (Q8 hg) Z Z Z Z) <| Q3 Z Z Q9 (fun hg => Q7 (Q8 hg) Z) <| Qc Z Z QC (fun hg => Q2 Z Z Z Z Z Z Z Z Z) <| Qc Z Z QC (fun hg => Q1 (Q8 hg) Z Z Z Z Z) <| Qc Z Z QC (fun hg => Q5 (c := decide (a0.f7 > 1000000)) (Q8 hg) Z Z Z Z) <| Q3 Z Z Q9 (fun hg => Qb (v := .bool true) (w := .bool (decide (a0.f7 > 1000000))) (Q8 hg) Z (Jg hg) Z Qf Z Z Z) <| Q3 Z Z Q9 (fun hg => Q7 (Q8 hg) Z) <| Qc Z Z QC (fun hg => Q2 Z Z Z Z Z Z Z Z Z) <| Qc Z Z QC (fun hg => Q1 (Q8 hg) Z Z Z Z Z) <| Qc Z Z QC (fun hg => Q5 (c := decide (a0.fa4 < 0)) (Q8 hg) Z Z Z Z) <| Q3 Z Z Q9 (fun hg => Qb (v := .bool true) (w := .bool (decide (a0.fa4 < 0))) (Q8 hg) Z (Jg hg) Z Qf Z Z Z) <| Q3 Z Z Q9 (fun hg => Q7 (Q8 hg) Z) <| Qc Z Z QC (fun hg => Q2 Z Z Z Z Z Z Z Z Z) <| Qc Z Z QC (fun hg => Q1 (Q8 hg) Z Z Z Z Z) <| Qc Z Z QC (fun hg => Q2 Z Z Z Z Z Z Z Z Z) <| Qc Z Z QC (fun hg => Q1 (Q8 hg) Z Z Z Z Z) <| Qc Z Z QC (fun hg => Q5 (c := decide (a0.fa4 > a0.f7)) (Q8 hg) (Q8 hg) Z Z Z) ?_
        refine Q3 Z Z Q9 (fun hg => Qb (v := .bool true) (w := .bool (decide (a0.fa4 > a0.f7))) (Q8 hg) Z (Jg hg) Z Qf Z Z Z) <| u0 (Qa (v := .bool ((bif (bif (bif decide (a0.f7 < 1) then true else decide (a0.f7 > 1000000)) then true else decide (a0.fa4 < 0)) then true else decide (a0.fa4 > a0.f7)))) (w := .bool false) Z Z Q9 Z Qf Z Z Z) <| Qr Z Z <| rt (hL _ ?_);refine QF (st' := ⟨[(1, .c (.ptr (1, 0) 0 0)), (3, .c (.p (.v (.bool ((bif (a0.fc == 2) then true else (a0.fc == 6))))))), (4, .c (.p (.v (.bool ((a0.fc == 5)))))), (5, .c (.p (.v (.bool ((a0.fc == 7)))))), (48, .c (.p (.v (.bool ((bif (a0.fc == 7) then (bif (bif (bif decide (a0.f7 < 1) then true else decide (a0.f7 > 1000000)) then true else decide (a0.fa4 < 0)) then true else decide (a0.fa4 > a0.f7)) else false))))))], [((1, 0), some (.box (List.map CV.p (Jq a0))))]⟩) (QG.nm [1, 3, 4, 5, 48] [((1, 0), (1, 0))] Z Z) ?_;refine QY Z h (fun h => ?_) fun h => ?_
        · refine tk fun L hL => Qr Z Z <| rt (hL _ ?_);obtain rfl := h;exact Qe (hQ _ _ (QX Z Z))
        · refine tk fun L hL => mv Z <| u0 (Qt Z Z Z) <| mv Z <| Q3 Z Z Q9 (fun hg => Q2 Z Z Z Z Z Z Z Z Z) <| Q3 Z Z Q9 (fun hg => Q1 (Q8 hg) Z Z Z Z Z) <| Q3 Z Z Q9 (fun hg => JM (c := (!(a0.fu.toList == ((⟨#[]⟩ : ByteArray)).toList))) (Q8 hg) Z Z Z Z) <| u0 (Qa (v := .bool ((!(a0.fu.toList == ((⟨#[]⟩ : ByteArray)).toList)))) (w := .bool false) Z Z Q9 Z Qf Z Z Z) <| mv Z <| Q3 Z Z Q6 (fun hg => Q7 Z Z) <| Q3 Z Z Q6 (fun hg => Qt (Q8 hg) Z Z) <| Q3 Z Z Q6 (fun hg => Q7 (Q8 hg) Z) <| Qc Z Z Qh (fun hg => Q2 Z Z Z Z Z Z Z Z Z) <| Qc Z Z Qh (fun hg => Q1 (Q8 hg) Z Z Z Z Z) <| Qc Z Z Qh (fun hg => Q5 (c := (a0.fi != 0)) (Q8 hg) Z Z Z Z) <| Q3 Z Z Q6 (fun hg => Qa (v := .bool ((a0.fi != 0))) (w := .bool false) (Q8 hg) Z (Z5 hg) Z Qf Z Z Z) <| u0 (Qb (v := .bool true) (w := .bool ((bif !((a0.fc == 5)) then (a0.fi != 0) else false))) Z Z Q6 Z Qf Z Z Z) <| mv Z <| Q3 Z Z Q6 (fun hg => Q7 Z Z) <| Q3 Z Z Q6 (fun hg => Qt (Q8 hg) Z Z) <| Q3 Z Z Q6 (fun hg => Q7 (Q8 hg) Z) <| Qc Z Z Qh (fun hg => Q2 Z Z Z Z Z Z Z Z Z) <| Qc Z Z Qh (fun hg => Q1 (Q8 hg) Z Z Z Z Z) <| Qc Z Z Qh (fun hg => Q5 (c := (a0.fa4 != 0)) (Q8 hg) Z Z Z Z) <| Qc Z Z Qh (fun hg => Q7 (Q8 hg) Z) ?_
          refine Qc Z Z QC (fun hg => Q2 Z Z Z Z Z Z Z Z Z) <| Qc Z Z QC (fun hg => Q1 (Q8 hg) Z Z Z Z Z) <| Qc Z Z QC (fun hg => Q5 (c := (a0.f7 != 0)) (Q8 hg) Z Z Z Z) <| Qc Z Z Qh (fun hg => Qb (v := .bool true) (w := .bool ((a0.f7 != 0))) (Q8 hg) Z (Jg hg) Z Qf Z Z Z) <| Q3 Z Z Q6 (fun hg => Qa (v := .bool ((bif (a0.fa4 != 0) then true else (a0.f7 != 0)))) (w := .bool false) (Q8 hg) Z (Z5 hg) Z Qf Z Z Z) <| u0 (Qb (v := .bool true) (w := .bool ((bif !((a0.fc == 7)) then (bif (a0.fa4 != 0) then true else (a0.f7 != 0)) else false))) Z Z Q6 Z Qf Z Z Z) <| Qr Z Z <| rt (hL _ ?_);refine QY Z h (fun h => ?_) fun h => ?_
          · refine tk fun L hL => Qr Z Z <| rt (hL _ ?_);obtain rfl := h;exact Qe (hQ _ _ (QX Z Z))
          · refine Qg (hL2 _ ?_);refine QF (st' := ⟨[], []⟩) (QG.nm [] [] Z Z) ?_;refine tk fun L hL => Qr Z Z <| rt (hL _ ?_);obtain rfl := h;exact Qe (hQ _ _ (QX Z Z))
def KY (a0 : Qu) (a1 : Int) (Q : Int → Prop) : Prop :=
 ((((a1 == 0)) = true → ∃ v2, Zy a0.fa7 v2 ∧ Q v2) ∧ (((a1 == 0)) = false → ((((a1 == 1)) = true → ∃ v3, Zy a0.fa2 v3 ∧ Q v3) ∧ (((a1 == 1)) = false → ((((a1 == 2)) = true → ∃ v4, ZS a0.fj v4 ∧ Q v4) ∧ (((a1 == 2)) = false → ((((a1 == 3)) = true → ∃ v5, Z4 a0.fg v5 ∧ Q v5) ∧ (((a1 == 3)) = false → ((((a1 == 4)) = true → ∃ v6, ZM a0.fp v6 ∧ Q v6) ∧ (((a1 == 4)) = false → ((((a1 == 5)) = true → ∃ v7, Zu a0.f6 64 v7 ∧ Q v7) ∧ (((a1 == 5)) = false → ((((a1 == 6)) = true → ∃ v8, Qz a0.fq 1 1048576 v8 ∧ Q v8) ∧ (((a1 == 6)) = false → ((((a1 == 7)) = true → ∃ v9, Qz a0.f5 1 1048576 v9 ∧ Q v9) ∧ (((a1 == 7)) = false → ((((a1 == 8)) = true → ∃ v10, Qz a0.fo 0 3 v10 ∧ Q v10) ∧ (((a1 == 8)) = false → ((((a1 == 9)) = true → ∃ v11, Qz a0.fa5 0 15 v11 ∧ Q v11) ∧ (((a1 == 9)) = false → ((((a1 == 10)) = true → ∃ v12, Qz a0.f8 0 3 v12 ∧ Q v12) ∧ (((a1 == 10)) = false → ((((a1 == 11)) = true → ∃ v13, Qz a0.fi 0 32 v13 ∧ Q v13) ∧ (((a1 == 11)) = false → ((((a1 == 12)) = true → ∃ v14, ZU a0.ff v14 ∧ Q v14) ∧ (((a1 == 12)) = false → ∃ v15, Zu a0.fv 65536 v15 ∧ Q v15))))))))))))))))))))))))))
def ZN (a0 : Qu) (a1 : Int) (r : Int) : Prop := KY a0 a1 fun x => r = x
theorem XT (a0 : Qu) (a1 : Int) (r : Int) (h : ZN a0 a1 r) : Qq Try.prog 20 [.agg (Zp a0), .c (.v (.int .i64 a1))] [.c (.p (.v (.int .i64 r)))] [] := by
  refine Qp tb Try.func20 Z (by kernel_rfl) Z Z (Nat.le_of_ble_eq_true Z) Z ?_;intro E;unfold ZN KY at h;refine Zx (fun Q hQ => ?_);refine tk fun L hL => u1 (QL Z Z) <| Qr Z Z <| rt (hL _ ?_);refine sk fun L1 hL1 => tk fun L hL => mv Z <| rt (hL _ ?_);refine Ql <| tk fun L hL => u0 (Q5 (c := (a1 == 0)) Z Z Z Z Z) <| Qr Z Z <| rt (hL _ ?_);refine QY Z h (fun h => ?_) fun h => ?_
  · refine tk fun L hL => u0 (Q2 Z Z Z Z Z Z Z Z Z) <| u0 (Q1 Z Z Z Z Z Z) ?_;obtain ⟨v2, hv2, h⟩ := h;refine u0 (Qd (Jh _ _ hv2) Z Z (.cons (.c (.p _)) .nil) Z Z Z) <| Qr Z Z <| rt (hL _ ?_);obtain rfl := h;exact Qe (hQ _ _ (QX Z Z))
  · refine tk fun L hL => u0 (Q5 (c := (a1 == 1)) Z Z Z Z Z) <| Qr Z Z <| rt (hL _ ?_);refine QY Z h (fun h => ?_) fun h => ?_
    · refine tk fun L hL => u0 (Q2 Z Z Z Z Z Z Z Z Z) <| u0 (Q1 Z Z Z Z Z Z) ?_;obtain ⟨v3, hv3, h⟩ := h;refine u0 (Qd (Jh _ _ hv3) Z Z (.cons (.c (.p _)) .nil) Z Z Z) <| Qr Z Z <| rt (hL _ ?_);obtain rfl := h;exact Qe (hQ _ _ (QX Z Z))
    · refine tk fun L hL => u0 (Q5 (c := (a1 == 2)) Z Z Z Z Z) <| Qr Z Z <| rt (hL _ ?_);refine QY Z h (fun h => ?_) fun h => ?_
      · refine tk fun L hL => u0 (Q2 Z Z Z Z Z Z Z Z Z) <| u0 (Q1 Z Z Z Z Z Z) ?_;obtain ⟨v4, hv4, h⟩ := h;refine u0 (Qd (Ye _ _ hv4) Z Z (.cons (.c (.p _)) .nil) Z Z Z) <| Qr Z Z <| rt (hL _ ?_);obtain rfl := h;exact Qe (hQ _ _ (QX Z Z))
      · refine tk fun L hL => u0 (Q5 (c := (a1 == 3)) Z Z Z Z Z) <| Qr Z Z <| rt (hL _ ?_);refine QY Z h (fun h => ?_) fun h => ?_
        · refine tk fun L hL => u0 (Q2 Z Z Z Z Z Z Z Z Z) <| u0 (Qo Z Z Z Z Z Z Z) ?_;obtain ⟨v5, hv5, h⟩ := h;refine u0 (Qd (Ve _ _ hv5) Z Z (.cons (.agg (.pp (.pp (.pp (.pp .nil))))) .nil) Z Z Z) <| Qr Z Z <| rt (hL _ ?_);obtain rfl := h;exact Qe (hQ _ _ (QX Z Z))
        · refine tk fun L hL => u0 (Q5 (c := (a1 == 4)) Z Z Z Z Z) <| Qr Z Z <| rt (hL _ ?_);refine QY Z h (fun h => ?_) fun h => ?_
          · refine tk fun L hL => u0 (Q2 Z Z Z Z Z Z Z Z Z) <| u0 (Q1 Z Z Z Z Z Z) ?_;obtain ⟨v6, hv6, h⟩ := h;refine u0 (Qd (XS _ _ hv6) Z Z (.cons (.c (.p _)) .nil) Z Z Z) <| Qr Z Z <| rt (hL _ ?_);obtain rfl := h;exact Qe (hQ _ _ (QX Z Z))
          · refine tk fun L hL => u0 (Q5 (c := (a1 == 5)) Z Z Z Z Z) <| Qr Z Z <| rt (hL _ ?_);refine QY Z h (fun h => ?_) fun h => ?_
            · refine tk fun L hL => u0 (Q2 Z Z Z Z Z Z Z Z Z) <| u0 (Q1 Z Z Z Z Z Z) ?_;obtain ⟨v7, hv7, h⟩ := h;refine u0 (Qd (JP _ _ _ hv7) Z Z (.cons (.c (.p _)) (.cons (.c (.p _)) .nil)) Z Z Z) <| Qr Z Z <| rt (hL _ ?_);obtain rfl := h;exact Qe (hQ _ _ (QX Z Z))
            · refine tk fun L hL => u0 (Q5 (c := (a1 == 6)) Z Z Z Z Z) <| Qr Z Z <| rt (hL _ ?_);refine QY Z h (fun h => ?_) fun h => ?_
              · refine tk fun L hL => u0 (Q2 Z Z Z Z Z Z Z Z Z) <| u0 (Q1 Z Z Z Z Z Z) ?_;obtain ⟨v8, hv8, h⟩ := h;refine u0 (Qd (QP _ _ _ _ hv8) Z Z (.cons (.c (.p _)) (.cons (.c (.p _)) (.cons (.c (.p _)) .nil))) Z Z Z) <| Qr Z Z <| rt (hL _ ?_);obtain rfl := h;exact Qe (hQ _ _ (QX Z Z))
              · refine tk fun L hL => u0 (Q5 (c := (a1 == 7)) Z Z Z Z Z) <| Qr Z Z <| rt (hL _ ?_);refine QY Z h (fun h => ?_) fun h => ?_
                · refine tk fun L hL => u0 (Q2 Z Z Z Z Z Z Z Z Z) <| u0 (Q1 Z Z Z Z Z Z) ?_;obtain ⟨v9, hv9, h⟩ := h;refine u0 (Qd (QP _ _ _ _ hv9) Z Z (.cons (.c (.p _)) (.cons (.c (.p _)) (.cons (.c (.p _)) .nil))) Z Z Z) <| Qr Z Z <| rt (hL _ ?_);obtain rfl := h;exact Qe (hQ _ _ (QX Z Z))
                · refine tk fun L hL => u0 (Q5 (c := (a1 == 8)) Z Z Z Z Z) <| Qr Z Z <| rt (hL _ ?_);refine QY Z h (fun h => ?_) fun h => ?_
                  · refine tk fun L hL => u0 (Q2 Z Z Z Z Z Z Z Z Z) <| u0 (Q1 Z Z Z Z Z Z) ?_;obtain ⟨v10, hv10, h⟩ := h;refine u0 (Qd (QP _ _ _ _ hv10) Z Z (.cons (.c (.p _)) (.cons (.c (.p _)) (.cons (.c (.p _)) .nil))) Z Z Z) <| Qr Z Z <| rt (hL _ ?_);obtain rfl := h;exact Qe (hQ _ _ (QX Z Z))
                  · refine tk fun L hL => u0 (Q5 (c := (a1 == 9)) Z Z Z Z Z) <| Qr Z Z <| rt (hL _ ?_);refine QY Z h (fun h => ?_) fun h => ?_
                    · refine tk fun L hL => u0 (Q2 Z Z Z Z Z Z Z Z Z) <| u0 (Q1 Z Z Z Z Z Z) ?_;obtain ⟨v11, hv11, h⟩ := h;refine u0 (Qd (QP _ _ _ _ hv11) Z Z (.cons (.c (.p _)) (.cons (.c (.p _)) (.cons (.c (.p _)) .nil))) Z Z Z) <| Qr Z Z <| rt (hL _ ?_);obtain rfl := h;exact Qe (hQ _ _ (QX Z Z))
                    · refine tk fun L hL => u0 (Q5 (c := (a1 == 10)) Z Z Z Z Z) <| Qr Z Z <| rt (hL _ ?_);refine QY Z h (fun h => ?_) fun h => ?_
                      · refine tk fun L hL => u0 (Q2 Z Z Z Z Z Z Z Z Z) <| u0 (Q1 Z Z Z Z Z Z) ?_;obtain ⟨v12, hv12, h⟩ := h;refine u0 (Qd (QP _ _ _ _ hv12) Z Z (.cons (.c (.p _)) (.cons (.c (.p _)) (.cons (.c (.p _)) .nil))) Z Z Z) <| Qr Z Z <| rt (hL _ ?_);obtain rfl := h;exact Qe (hQ _ _ (QX Z Z))
                      · refine tk fun L hL => u0 (Q5 (c := (a1 == 11)) Z Z Z Z Z) <| Qr Z Z <| rt (hL _ ?_);refine QY Z h (fun h => ?_) fun h => ?_
                        · refine tk fun L hL => u0 (Q2 Z Z Z Z Z Z Z Z Z) <| u0 (Q1 Z Z Z Z Z Z) ?_;obtain ⟨v13, hv13, h⟩ := h;refine u0 (Qd (QP _ _ _ _ hv13) Z Z (.cons (.c (.p _)) (.cons (.c (.p _)) (.cons (.c (.p _)) .nil))) Z Z Z) <| Qr Z Z <| rt (hL _ ?_);obtain rfl := h;exact Qe (hQ _ _ (QX Z Z))
                        · refine tk fun L hL => u0 (Q5 (c := (a1 == 12)) Z Z Z Z Z) <| Qr Z Z <| rt (hL _ ?_);refine QY Z h (fun h => ?_) fun h => ?_
                          · refine tk fun L hL => u0 (Q2 Z Z Z Z Z Z Z Z Z) <| u0 (Qo Z Z Z Z Z Z Z) ?_;obtain ⟨v14, hv14, h⟩ := h;refine u0 (Qd (Yf _ _ hv14) Z Z (.cons (.agg (.pp (.pp (.pp (.pp (.pp .nil)))))) .nil) Z Z Z) <| Qr Z Z <| rt (hL _ ?_);obtain rfl := h;exact Qe (hQ _ _ (QX Z Z))
                          · refine Qg (hL1 _ ?_);refine tk fun L hL => u0 (Q2 Z Z Z Z Z Z Z Z Z) <| u0 (Q1 Z Z Z Z Z Z) ?_;obtain ⟨v15, hv15, h⟩ := h;refine u0 (Qd (JP _ _ _ hv15) Z Z (.cons (.c (.p _)) (.cons (.c (.p _)) .nil)) Z Z Z) <| Qr Z Z <| rt (hL _ ?_);obtain rfl := h;exact Qe (hQ _ _ (QX Z Z))
end Go.Proofs.Ytmkhonigljegbaa

namespace Go.Proofs.Ytmkhonigljegbaa
open Go.RowKit
def Xh (b : Nat) (cs : Array Value) (t : TypeId) (w : World) : Prop := w.heap[b]? = some (.cells cs t (0, 0))
theorem Xh.lt {b : Nat} {cs : Array Value} {t : TypeId} {w : World} (h : Xh b cs t w) : b < w.heap.size := by
  unfold Xh at h
  exact (Array.getElem?_eq_some_iff.mp h).1
theorem Xh.cell {b : Nat} {cs : Array Value} {t : TypeId} {w : World} (h : Xh b cs t w) (i : Nat) {v : Value} (hi : cs[i]? = some v) : w.cell? ⟨b, i, none⟩ = some v := by
  unfold Xh at h
  simp [World.cell?, h, hi]
theorem Xh.froz {b : Nat} {cs : Array Value} {t : TypeId} {w : World} (h : Xh b cs t w) (i : Nat) : w.frozen? ⟨b, i, none⟩ = false := by
  unfold Xh at h
  simp [World.frozen?, h]
theorem Xh.keep {b : Nat} {cs : Array Value} {t : TypeId} {w w' : World} (h : Xh b cs t w) (g : w.grownBy w' none) : Xh b cs t w' := by
  have := g.block b h.lt (by simp)
  unfold Xh at *
  rw [this]; exact h
theorem Xh.new (w : World) (cs : Array Value) (t : TypeId) : Xh w.heap.size cs t (w.alloc (.cells cs t)) := by
  unfold Xh
  show (w.heap.push (.cells cs t))[w.heap.size]? = _
  simp
theorem Xh.set {b : Nat} {cs : Array Value} {t : TypeId} {w : World} (h : Xh b cs t w) (o : Nat) (v : Value) : Xh b (cs.setIfInBounds o v) t (w.setCell ⟨b, o, none⟩ v) := by
  unfold Xh at *
  simp [World.setCell, Array.getElem?_modify, h]
theorem Xh.drew {b : Nat} {cs : Array Value} {t : TypeId} {w : World} (h : Xh b cs t w) : Xh b cs t w.drew := h
def Row (k : IntKind) (t : TypeId) (g : Nat) (l : List Int) (w : World) : Prop := ∃ cur : Array Value, Xh g cur t w ∧ l.length ≤ cur.size ∧ ∀ i, i < l.length → cur[i]? = some (.int k (gI l i))
theorem Row.keep {k : IntKind} {t : TypeId} {g : Nat} {l : List Int} {w w' : World} (h : Row k t g l w) (hg : w.grownBy w' none) : Row k t g l w' := by
  obtain ⟨cur, h1, h2⟩ := h
  exact ⟨cur, h1.keep hg, h2⟩
theorem Row.drew {k : IntKind} {t : TypeId} {g : Nat} {l : List Int} {w : World} (h : Row k t g l w) : Row k t g l w.drew := h
theorem Row.lt {k : IntKind} {t : TypeId} {g : Nat} {l : List Int} {w : World} (h : Row k t g l w) : g < w.heap.size := by
  obtain ⟨cur, h1, h2⟩ := h
  exact h1.lt
theorem Row.cell {k : IntKind} {t : TypeId} {g : Nat} {l : List Int} {w : World} (h : Row k t g l w) {i : Nat} (hi : i < l.length) : w.cell? ⟨g, i, none⟩ = some (.int k (gI l i)) := by
  obtain ⟨cur, h1, h2, h3⟩ := h
  exact h1.cell i (h3 i hi)
theorem Row.froz {k : IntKind} {t : TypeId} {g : Nat} {l : List Int} {w : World} (h : Row k t g l w) (i : Nat) : w.frozen? ⟨g, i, none⟩ = false := by
  obtain ⟨cur, h1, _⟩ := h
  exact h1.froz i
theorem Row.set {k : IntKind} {t : TypeId} {g : Nat} {l : List Int} {w : World} (h : Row k t g l w) (i : Nat) (x : Int) : Row k t g (l.set i x) (w.setCell ⟨g, i, none⟩ (.int k x)) := by
  obtain ⟨cur, h1, h2, h3⟩ := h
  refine ⟨_, h1.set i (.int k x), by simpa using h2, fun j hj => ?_⟩
  simp only [List.length_set] at hj
  rw [Array.getElem?_setIfInBounds]
  by_cases e : i = j
  · subst e
    rw [if_pos rfl, if_pos (by omega)]
    simp [gI, List.getD_eq_getElem?_getD, List.getElem?_set, hj]
  · rw [if_neg e, h3 j hj]
    simp [gI, List.getD_eq_getElem?_getD, List.getElem?_set, e]
def BF (p q : Nat) (w w' : World) : Prop := w'.os = w.os ∧ w'.tape = w.tape ∧ w'.output = w.output ∧ w.heap.size ≤ w'.heap.size ∧ ∀ k, k < w.heap.size → k ≠ p → k ≠ q → w'.heap[k]? = w.heap[k]?
theorem BF.refl (p q : Nat) (w : World) : BF p q w w := ⟨rfl, rfl, rfl, Nat.le_refl _, fun _ _ _ _ => rfl⟩
theorem BF.size {p q : Nat} {w w' : World} (h : BF p q w w') : w.heap.size ≤ w'.heap.size := h.2.2.2.1
theorem BF.grown {p q : Nat} {w w1 w2 : World} (h : BF p q w w1) (g : w1.grownBy w2 none) : BF p q w w2 := by
  obtain ⟨h1, h2, h3, h4, h5⟩ := h
  exact ⟨g.os.trans h1, g.tape.trans h2, g.output.trans h3, Nat.le_trans h4 g.size, fun k hk hp hq => (g.block k (Nat.lt_of_lt_of_le hk h4) (by simp)).trans (h5 k hk hp hq)⟩
theorem BF.drew {p q : Nat} {w w1 : World} (h : BF p q w w1) : BF p q w w1.drew := h
end Go.Proofs.Ytmkhonigljegbaa
namespace Go.Proofs.Ytmkhonigljegbaa
open Go.RowKit Go.ChangeShapes Go.WideShapes
def XU (k : Int) : List Int :=
  if k = 1 then [0, 3] else if k = 2 then [0] else if k = 3 then [0, 1] else if k = 5 then [0, 12] else if k = 6 then [0, 4, 5] else if k = 7 then [0, 1, 5] else if k = 8 then [0, 1, 5, 6, 7]
  else if k = 9 then [2] else if k = 10 then [8, 9, 12] else if k = 11 then [8] else if k = 12 ∨ k = 15 then [8, 9] else if k = 13 then [10, 11] else if k = 14 then [10] else if k = 16 then [0, 13] else []
def Kn (k : Int) : Prop := 1 ≤ k ∧ k ≤ 17
instance (k : Int) : Decidable (Kn k) := by unfold Kn; infer_instance
theorem Uj {k : Int} (h : Kn k) : k = 1 ∨ k = 2 ∨ k = 3 ∨ k = 4 ∨ k = 5 ∨ k = 6 ∨ k = 7 ∨ k = 8 ∨ k = 9 ∨ k = 10 ∨ k = 11 ∨ k = 12 ∨ k = 13 ∨ k = 14 ∨ k = 15 ∨ k = 16 ∨ k = 17 := by
  obtain ⟨h1, h2⟩ := h; omega
theorem Dy {k : Int} (h : ¬ Kn k) : (k == 1) = false ∧ (k == 2) = false ∧ (k == 3) = false ∧ (k == 4) = false ∧ (k == 5) = false ∧ (k == 6) = false ∧ (k == 7) = false ∧ (k == 8) = false ∧ (k == 9) = false ∧ (k == 10) = false ∧ (k == 11) = false ∧ (k == 12) = false ∧ (k == 13) = false ∧ (k == 14) = false ∧ (k == 15) = false ∧ (k == 16) = false ∧ (k == 17) = false := by
  unfold Kn at h
  refine ⟨?_, ?_, ?_, ?_, ?_, ?_, ?_, ?_, ?_, ?_, ?_, ?_, ?_, ?_, ?_, ?_, ?_⟩ <;> exact beq_eq_false_iff_ne.2 (by omega)
theorem Cv {P : Program} {T e : TypeId} (hT : P.underlying T = some (.slice e)) (d : Nat) (a : Addr) (n c : Nat) (w : World) : Sem.run P (Op.equalIn (d + 1) T (.slice (some a) n c) (.slice none 0 0)) w = .ok false w := by
  simp [Op.equalIn, run_underlying hT]
theorem Dz {P : Program} {T e : TypeId} (hT : P.underlying T = some (.slice e)) (a : Addr) (n c : Nat) (w : World) : Sem.run P (binOp .eql T (.slice (some a) n c) (.slice none 0 0)) w = .ok (.bool false) w := by
  have h := Cv hT 9999 a n c w
  show Sem.run P (do let b ← Op.equalIn (9999 + 1) T (.slice (some a) n c) (.slice none 0 0); pure (Value.bool b) : Sem Value) w = _
  generalize Op.equalIn (9999 + 1) T (.slice (some a) n c) (.slice none 0 0) = q at *
  simp [h]
theorem BG {P : Program} {T e : TypeId} (hT : P.underlying T = some (.slice e)) (d : Nat) (w : World) : Sem.run P (Op.equalIn (d + 1) T (.slice none 0 0) (.slice none 0 0)) w = .ok true w := by
  simp [Op.equalIn, run_underlying hT]
theorem Cw {P : Program} {T e : TypeId} (hT : P.underlying T = some (.slice e)) (w : World) : Sem.run P (binOp .eql T (.slice none 0 0) (.slice none 0 0)) w = .ok (.bool true) w := by
  have h := BG hT 9999 w
  show Sem.run P (do let b ← Op.equalIn (9999 + 1) T (.slice none 0 0) (.slice none 0 0); pure (Value.bool b) : Sem Value) w = _
  generalize Op.equalIn (9999 + 1) T (.slice none 0 0) (.slice none 0 0) = q at *
  simp [h]
theorem Cy (w : World) (e : TypeId) (l : List Int) (cs : Array Value) (n : Nat) (h : cs.toList = l.map (.int .i64)) (hl : l.length = n) (hn : n ≤ 100) : (w.alloc (.cells cs e)).ownsRow w.heap.size e 1 (.slice (some ⟨w.heap.size, 0, none⟩) n n) n (l.map (.int .i64)) := by
  have hs : cs.size = n * 1 := by rw [← Array.length_toList, h, List.length_map, hl, Nat.mul_one]
  have := World.ownsRow_lit (e := e) w cs n (Nat.le_refl _) (by unfold maxLen; omega) (by omega)
  rw [h] at this
  exact this
set_option maxRecDepth 100000 in
set_option maxHeartbeats 1600000 in
theorem Cz (k : Int) (w : World) (hk : Kn k) :
    Calls Try.prog 19 #[.int .i64 k] w fun e w' => ∃ a, e = .returned (.slice (some a) (XU k).length (XU k).length) ∧ Ints .i64 w' (.slice (some a) (XU k).length (XU k).length) (XU k) ∧ w.grownBy w' none := by
  rcases Uj hk with rfl | rfl | rfl | rfl | rfl | rfl | rfl | rfl | rfl | rfl | rfl | rfl | rfl | rfl | rfl | rfl | rfl
  all_goals
    go_enter Try.func19, Try.ntmps19
    go_wp2
    go_ret
    exact ⟨_, rfl, Uz (Cy w _ _ _ _ rfl rfl (by decide)) (by decide), Jo _ _⟩
set_option maxRecDepth 100000 in
theorem DC (k : Int) (w : World) (hk : ¬ Kn k) :
    Calls Try.prog 19 #[.int .i64 k] w fun e w' => e = .returned (.slice none 0 0) ∧ w = w' := by
  obtain ⟨k1, k2, k3, k4, k5, k6, k7, k8, k9, k10, k11, k12, k13, k14, k15, k16, k17⟩ := Dy hk
  clear hk
  go_enter Try.func19, Try.ntmps19
  go_wp2
  go_ret
  exact ⟨rfl, rfl⟩
end Go.Proofs.Ytmkhonigljegbaa
namespace Go.Proofs.Ytmkhonigljegbaa
open Go.RowKit Go.ChangeShapes Go.WideShapes
structure OpD where
  kind : Int
  name : ByteArray
  other : ByteArray
  names : List ByteArray
  pk : Int
  ps : Int
  pd : Int
  pz : Int
  items : List (ByteArray × Int)
  coins : List Int
  ex : Int
  so : Int
  ha : Int
  ix : Int
  cu : Int
  co : Int
  qk : Int
  qs : ByteArray
  qc : Int
  qn : Int
  qd : Int
  data : List Int
def opV (o : OpD) (vn vi vc vd : Value) : Value :=
  .agg #[.int .i64 o.kind, .string o.name, .string o.other, vn, .int .i64 o.pk, .int .i64 o.ps, .int .i64 o.pd, .int .u64 o.pz, vi, vc, .int .i64 o.ex, .int .i64 o.so, .int .i64 o.ha, .int .i64 o.ix, .int .i64 o.cu, .int .i64 o.co, .int .i64 o.qk, .string o.qs, .int .i64 o.qc, .int .i64 o.qn, .int .i64 o.qd, vd]
def Sl (v : Value) (n : Nat) : Prop := ∃ a cap, v = .slice a n cap
def CB (o : OpD) (f : Nat) : Bool :=
  match f with
  | 0 => o.name.toList == []
  | 1 => o.other.toList == []
  | 2 => decide (o.names.length = 0)
  | 3 => decide (o.pk = 0 ∧ o.ps = 0 ∧ o.pd = 0 ∧ o.pz = 0)
  | 4 => decide (o.items.length = 0)
  | 5 => decide (o.coins.length = 0)
  | 6 => decide (o.ex = 0)
  | 7 => decide (o.so = 0)
  | 8 => decide (o.ha = 0)
  | 9 => decide (o.ix = 0)
  | 10 => decide (o.cu = 0)
  | 11 => decide (o.co = 0)
  | 12 => decide (o.qk = 0 ∧ o.qs.toList = [] ∧ o.qc = 0 ∧ o.qn = 0 ∧ o.qd = 0)
  | _ => decide (o.data.length = 0)
theorem len0 (n : Nat) : ((n : Int) == 0) = decide (n = 0) := by
  by_cases h : n = 0
  · subst h; rfl
  · rw [decide_eq_false h]; exact beq_eq_false_iff_ne.2 (by omega)
theorem E3 {f : Nat} (h : f < 14) : f = 0 ∨ f = 1 ∨ f = 2 ∨ f = 3 ∨ f = 4 ∨ f = 5 ∨ f = 6 ∨ f = 7 ∨ f = 8 ∨ f = 9 ∨ f = 10 ∨ f = 11 ∨ f = 12 ∨ f = 13 := by omega
set_option maxRecDepth 100000 in
set_option maxHeartbeats 1600000 in
theorem CC (o : OpD) (f : Nat) (vn vi vc vd : Value) (w : World) (hf : f < 14) (h1 : Sl vn o.names.length) (h2 : Sl vi o.items.length) (h3 : Sl vc o.coins.length) (h4 : Sl vd o.data.length) :
    Calls Try.prog 21 #[opV o vn vi vc vd, .int .i64 f] w fun e w' => e = .returned (.bool (CB o f)) ∧ w.grownBy w' none := by
  obtain ⟨an, cn, rfl⟩ := h1
  obtain ⟨ai, ci, rfl⟩ := h2
  obtain ⟨ac, cc, rfl⟩ := h3
  obtain ⟨ad, cd, rfl⟩ := h4
  unfold opV
  obtain ⟨kind, name, other, names, pk, ps, pd, pz, items, coins, ex, so, ha, ix, cu, co, qk, qs, qc, qn, qd, data⟩ := o
  simp only
  rcases E3 hf with rfl | rfl | rfl | rfl | rfl | rfl | rfl | rfl | rfl | rfl | rfl | rfl | rfl | rfl
  all_goals
    go_enter Try.func21, Try.ntmps21
    go_wp2
    all_goals
      go_ret
      refine ⟨ret_b ?_, Jo _ _⟩
      first | rfl | exact len0 _ | (simp [CB]; done) | (simp_all [CB]; done) | (simp [CB]; omega) | (simp_all [CB]; omega)
def CE (B : Nat) (v : Value) : Prop := ∀ a n c, v = .slice (some a) n c → B ≤ a.block
theorem Ints.set {k : IntKind} {w : World} {b off n c : Nat} {l : List Int} (h : Ints k w (.slice (some ⟨b, off, none⟩) n c) l) {b' o : Nat} (u : Value) (hne : b ≠ b') : Ints k (w.setCell ⟨b', o, none⟩ u) (.slice (some ⟨b, off, none⟩) n c) l := by
  obtain ⟨a, cap, he, h1, h2, h3, h4⟩ := h
  refine ⟨a, cap, he, h1, h2, h3, ?_⟩
  rcases h4 with h4 | ⟨b2, off2, hb2, hlt, hc⟩
  · exact .inl h4
  · refine .inr ⟨b2, off2, hb2, by simpa using hlt, fun i hi => ?_⟩
    cases he
    cases hb2
    have := hc i hi
    simp [go_sem, hne]
    simpa using this
theorem CE.mono {B B' : Nat} {v : Value} (h : CE B v) (hb : B' ≤ B) : CE B' v := fun a n c e => Nat.le_trans hb (h a n c e)
theorem Ints.at {k : IntKind} {w : World} {a : Option Addr} {n cap : Nat} {l : List Int} (h : Ints k w (.slice a n cap) l) (hl : 0 < l.length) : ∃ b off, a = some ⟨b, off, none⟩ ∧ b < w.heap.size ∧ ∀ i, i < l.length → w.cell? ⟨b, off + i, none⟩ = some (.int k (gI l i)) := by
  obtain ⟨a', cap', e, h1, h2, h3, h4⟩ := h
  injection e with e1 e2 e3
  subst e1
  rcases h4 with rfl | h4
  · simp at hl
  · exact h4
theorem BF.own {p q : Nat} {w w1 w2 w3 : World} {r : Option Nat} (h : BF p q w w1) (g : w1.grownBy w2 none) (g' : w2.grownBy w3 r) (hr : ∀ k, r = some k → w.heap.size ≤ k) : BF p q w w3 := by
  obtain ⟨h1, h2, h3, h4, h5⟩ := h.grown g
  exact ⟨g'.os.trans h1, g'.tape.trans h2, g'.output.trans h3, Nat.le_trans h4 g'.size, fun k hk hp hq => (g'.block k (Nat.lt_of_lt_of_le hk h4) (fun e => by have := hr k e.symm; omega)).trans (h5 k hk hp hq)⟩
theorem Xh.own {b : Nat} {cs : Array Value} {t : TypeId} {w w' : World} {r : Option Nat} (h : Xh b cs t w) (g : w.grownBy w' r) (hne : r ≠ some b) : Xh b cs t w' := by
  have := g.block b h.lt (fun e => hne e.symm)
  unfold Xh at *
  rw [this]; exact h
end Go.Proofs.Ytmkhonigljegbaa
namespace Go.Proofs.Ytmkhonigljegbaa
open Go.RowKit Go.ChangeShapes Go.WideShapes
def Kc (k : Int) (f : Nat) : Bool := (XU k).contains (f : Int)
def Vp : List Int → Int
  | [] => 0
  | e :: r => if e ≠ 0 then e else Vp r
def VE (k : Int) (C : Nat → Int) : List Int := (List.range 14).map fun f => if Kc k f = true then C f else 0
def Uk (o : OpD) (C : Nat → Int) : Int :=
  if ¬ Kn o.kind then 8 else if Vp (VE o.kind C) ≠ 0 then Vp (VE o.kind C) else if (List.range 14).all (fun f => Kc o.kind f || CB o f) = true then 0 else 18
theorem B2 {k : Int} (hk : ¬ Kn k) : XU k = [] := by
  unfold Kn at hk
  unfold XU
  repeat rw [if_neg (by omega)]
theorem CF (k : Int) : (XU k).all (fun x => decide (0 ≤ x ∧ x ≤ 13)) = true := by
  by_cases hk : Kn k
  · rcases Uj hk with rfl | rfl | rfl | rfl | rfl | rfl | rfl | rfl | rfl | rfl | rfl | rfl | rfl | rfl | rfl | rfl | rfl <;> decide
  · rw [B2 hk]; rfl
theorem DD {k : Int} {x : Int} (h : x ∈ XU k) : 0 ≤ x ∧ x ≤ 13 := of_decide_eq_true (List.all_eq_true.1 (CF k) x h)
theorem CG (k : Int) : (XU k).length ≤ 5 := by
  by_cases hk : Kn k
  · rcases Uj hk with rfl | rfl | rfl | rfl | rfl | rfl | rfl | rfl | rfl | rfl | rfl | rfl | rfl | rfl | rfl | rfl | rfl <;> decide
  · rw [B2 hk]; simp
theorem CH {L : List Int} (h : ∀ i, i < L.length → gI L i = 0) : Vp L = 0 := by
  induction L with
  | nil => rfl
  | cons e r ih =>
    have h0 := h 0 (by simp)
    have h1 : e = 0 := h0
    unfold Vp
    rw [if_neg (by simp [h1])]
    exact ih fun i hi => h (i + 1) (by simp; omega)
theorem Ep {L : List Int} {k : Nat} (hk : k < L.length) (h : ∀ i, i < k → gI L i = 0) (hn : gI L k ≠ 0) : Vp L = gI L k := by
  induction L generalizing k with
  | nil => simp at hk
  | cons e r ih =>
    unfold Vp
    cases k with
    | zero => have h1 : e ≠ 0 := hn; rw [if_pos h1]; rfl
    | succ k =>
      have h1 : e = 0 := h 0 (by omega)
      rw [if_neg (by simp [h1])]
      exact ih (by simpa using hk) (fun i hi => h (i + 1) (by omega)) hn
theorem A4 (k : Int) (C : Nat → Int) : (VE k C).length = 14 := by simp [VE]
theorem DF (k : Int) (C : Nat → Int) {f : Nat} (h : f < 14) : gI (VE k C) f = if Kc k f = true then C f else 0 := by
  rw [YT (by rw [A4]; exact h)]; simp [VE]
def B4 (b : Nat) (S : List Int) (w : World) : Prop := ∃ cs : Array Value, Xh b cs 54 w ∧ cs.size = 14 ∧ ∀ f, f < 14 → cs[f]? = some (.bool (S.contains (f : Int)))
theorem B4.keep {b : Nat} {S : List Int} {w w' : World} (h : B4 b S w) (g : w.grownBy w' none) : B4 b S w' := by
  obtain ⟨cs, h1, h2⟩ := h
  exact ⟨cs, h1.keep g, h2⟩
theorem B4.cell {b : Nat} {S : List Int} {w : World} (h : B4 b S w) {f : Nat} (hf : f < 14) : w.cell? ⟨b, f, none⟩ = some (.bool (S.contains (f : Int))) := by
  obtain ⟨cs, h1, h2, h3⟩ := h
  exact h1.cell f (h3 f hf)
theorem B4.froz {b : Nat} {S : List Int} {w : World} (h : B4 b S w) (f : Nat) : w.frozen? ⟨b, f, none⟩ = false := by
  obtain ⟨cs, h1, _⟩ := h
  exact h1.froz f
theorem B4.set {b : Nat} {S : List Int} {w : World} (h : B4 b S w) {x : Nat} (hx : x < 14) : B4 b (S ++ [(x : Int)]) (w.setCell ⟨b, x, none⟩ (.bool true)) := by
  obtain ⟨cs, h1, h2, h3⟩ := h
  refine ⟨_, h1.set x (.bool true), by simpa using h2, fun f hf => ?_⟩
  rw [Array.getElem?_setIfInBounds]
  by_cases e : x = f
  · subst e
    rw [if_pos rfl, if_pos (by omega)]
    simp
  · rw [if_neg e, h3 f hf]
    have : (S ++ [(x : Int)]).contains (f : Int) = S.contains (f : Int) := by
      simp only [List.contains_eq_mem, List.mem_append, List.mem_singleton]
      congr 1
      rw [eq_iff_iff]
      constructor
      · rintro (h | h)
        · exact h
        · omega
      · exact .inl
    rw [this]
theorem B4.new (w : World) (cs : Array Value) (h : cs = (Array.replicate 14 (Value.bool false))) : B4 w.heap.size [] (w.alloc (.cells cs 54)) := by
  subst h
  refine ⟨_, Xh.new _ _ _, rfl, fun f hf => ?_⟩
  rw [Array.getElem?_replicate, if_pos hf]; simp
theorem JA {P : Program} {ops : Array Oper} {rest : List Oper} {o : Oper} {a : Act} {w : World} {Q : Exit → Act → World → Prop} (hw : Region.wanted o (yielded ops a.tmps) = true) (ty : TypeId) (x : Operand) (ho : o.op = .load ty x)
    (g : Nat) (hx : a.eval x = .pointer (some ⟨g, 0, none⟩)) (t : TypeId) (cs : Array Value) (fr : Nat × Nat) (d : TypeDesc) (hg : w.heap[g]? = some (.cells cs t fr))
    (hu : P.underlying ty = some d) (hd : (match d with | .struct _ | .array _ _ => true | _ => false) = true) (hi : (P.info? ty).map (·.size) = some cs.size)
    (h : wpList P ops Q rest (a.put o.dst (.agg cs)) w) : wpList P ops Q (o :: rest) a w :=
  wpList_step fun K hK => by
    rw [if_pos hw]
    exact wp_load_row ty x ho g hx t cs fr d hg hu hd hi (hK _ _ h)
set_option maxRecDepth 100000 in
set_option maxHeartbeats 1600000 in
theorem CI (cs : Array Value) (kind : Int) (C : Nat → Int) (ZR : Nat → Bool) (w : World) (hsz : cs.size = 22) (h0 : cs[0]? = some (.int .i64 kind)) (hinf : (Try.prog.info? 41).map (·.size) = some cs.size)
    (hC : ∀ (f : Nat) (w' : World), f < 14 → Kc kind f = true → w.grownBy w' none → Calls Try.prog 20 #[.agg cs, .int .i64 f] w' fun e w'' => e = .returned (.int .i64 (C f)) ∧ w'.grownBy w'' none)
    (hZ : ∀ (f : Nat) (w' : World), f < 14 → Calls Try.prog 21 #[.agg cs, .int .i64 f] w' fun e w'' => e = .returned (.bool (ZR f)) ∧ w'.grownBy w'' none) (hk : Kn kind) (VO : Int)
    (hV : VO = if Vp (VE kind C) ≠ 0 then Vp (VE kind C) else if (List.range 14).all (fun f => Kc kind f || ZR f) = true then 0 else 18) :
    Calls Try.prog 15 #[.agg cs] w fun e w' => e = .returned (.int .i64 VO) ∧ w.grownBy w' none := by
  have HV := Lib.hid hV
  have hc0 : ∀ h, cs[0]'h = .int .i64 kind := fun h => by
    have := Array.getElem?_eq_getElem h
    rw [h0] at this
    exact (Option.some.inj this).symm
  have CZ := Lib.hid hZ
  have CU := Lib.hid (fun w => Cz kind w hk)
  have hlen := CG kind
  have HIN := Lib.hid (fun x (h : x ∈ XU kind) => DD h)
  have HC := Lib.hid hC
  have HM := Lib.hid (fun (f : Nat) (hf : f < 14) => DF kind C hf)
  have HML := Lib.hid (A4 kind C)
  have hmine : Kc kind = fun f : Nat => (XU kind).contains (f : Int) := rfl
  have hmk := congrFun hmine
  generalize VE kind C = MC at *
  generalize Kc kind = MB at *
  generalize XU kind = U at *
  have HMK := Lib.hid hmk
  have henil := fun a n c w => Dz (P := Try.prog) Try.underlying23 a n c w
  clear hC hk hmine hmk hV hZ
  go_enter Try.func15, Try.ntmps15
  go_wp2_with fail
  refine (CU.out _).mono ?_
  rintro e w1 ⟨a, rfl, IU, g1⟩
  have c1 : Xh w.heap.size cs 41 w1 := (Xh.new w _ _).keep g1
  have G1 := (Jo _ _).trans' g1
  have hz1 := c1.lt
  clear g1
  go_wp2_with fail
  go_loopw [6, 17] (fun _ i wr => ∃ j : Nat, j ≤ U.length ∧ i = .int .i64 j ∧ B4 w1.heap.size (U.take j) wr ∧ w1.grownBy wr none ∧ w1.heap.size < wr.heap.size) (fun _ i _ => U.length - (intOf i).toNat)
  case atStart => exact ⟨0, by omega, rfl, B4.new _ _ (by rfl), Jo _ _, by simp⟩
  case round =>
    obtain ⟨j, hj, rfl, hM, g2, hz2⟩ := hrel
    by_cases hlt : j < U.length
    · obtain ⟨b, off, hab, hb, hc⟩ := (IU.grown g2).at (by omega)
      injection hab with hab
      subst hab
      have y := hc j hlt
      have hx := HIN.out _ (BP hlt)
      have HS := Lib.hid (U1 hlt)
      obtain ⟨X, hX⟩ : ∃ X : Nat, gI U j = X := ⟨(gI U j).toNat, by omega⟩
      rw [hX] at y hx HS
      have hX14 : (X : Int) < 14 := by omega
      have hX0 : (0 : Int) ≤ X := by omega
      have e1 : (j : Int) < U.length := by omega
      have e2 : (0 : Int) ≤ j := by omega
      have f1 := hM.cell (f := X) (by omega)
      have f2 := hM.froz X
      clear hc hX
      go_wp2
      go_roundw
      case rel =>
        refine ⟨j + 1, by omega, by go_num, ?_, Bh g2 _ (Nat.le_refl _), by simpa using hz2⟩
        rw [HS.out]
        exact hM.set (by omega)
      case measure => simp [intOf]; omega
    · obtain rfl : j = U.length := by omega
      rw [List.take_of_length_le (by omega)] at hM
      rename World => w2
      have c2 := c1.keep g2
      have G2 := G1.trans' g2
      clear c1 IU CU G1 g2 hlt hj
      go_wp2_with fail
      go_loopw [7, 8, 24] (fun _ _ i ws => ∃ f : Nat, f ≤ 14 ∧ i = .int .i64 f ∧ Hid (∀ g, g < f → gI MC g = 0) ∧ w2.grownBy ws none) (fun _ _ i _ => 14 - (intOf i).toNat)
      case atStart => exact ⟨0, by omega, rfl, fun g hg => absurd hg (by omega), YV _⟩
      case round =>
        obtain ⟨f, hf, rfl, hall, g3⟩ := hrel
        have M3 := hM.keep g3
        have c3 := c2.keep g3
        have G3 := G2.trans' g3
        by_cases hlt : f < 14
        · have f1 := M3.cell hlt
          rw [← HMK.out] at f1
          have hmc := HM.out f hlt
          have e1 : (f : Int) < 14 := by omega
          have e2 : (0 : Int) ≤ f := by omega
          have hcc := fun h => HC.out f wr hlt h G3
          have hnx : gI MC f = 0 → Hid (∀ g, g < f + 1 → gI MC g = 0) := fun h g hg => by
            by_cases e : g = f
            · rw [e]; exact h
            · exact hall.out g (by omega)
          have hbad : gI MC f ≠ 0 → Hid (VO = gI MC f) := fun h => by
            have hq := Ep (L := MC) (k := f) (by rw [HML.out]; exact hlt) hall.out h
            show _ = _
            rw [HV.out, hq, if_pos h]
          generalize MB f = mb at *
          cases mb
          · have HS := Lib.hid (hnx (by rw [hmc]; rfl))
            clear hcc hmc hnx hbad
            go_wp2
            go_roundw
            case rel => exact ⟨f + 1, by omega, by go_num, HS.out, g3⟩
            case measure => simp [intOf]; omega
          · rw [if_pos rfl] at hmc
            rw [hmc] at hnx hbad
            have CK := Lib.hid (hcc rfl)
            generalize C f = ce at *
            clear hcc hmc
            by_cases hce : ce = 0
            · have HS := Lib.hid (hnx hce)
              subst hce
              clear hnx hbad
              go_wp2_with (refine wpList_load_row rfl 41 _ rfl _ rfl _ cs (0, 0) _ c3 Try.underlying41 rfl hinf ?_)
              go_wp2_with fail
              refine CK.out.mono ?_
              rintro e w5 ⟨rfl, g5⟩
              clear f1
              go_wp2
              go_roundw
              case rel => exact ⟨f + 1, by omega, by go_num, HS.out, g3.trans' g5⟩
              case measure => simp [intOf]; omega
            · have HB := hbad hce
              have hcb : (ce != 0) = true := bne_iff_ne.2 hce
              clear hnx hbad hce
              go_wp2_with (refine wpList_load_row rfl 41 _ rfl _ rfl _ cs (0, 0) _ c3 Try.underlying41 rfl hinf ?_)
              go_wp2_with fail
              refine CK.out.mono ?_
              rintro e w5 ⟨rfl, g5⟩
              clear f1
              go_wp2
              go_ret
              rw [HB.out]
              exact ⟨rfl, G3.trans' g5⟩
        · obtain rfl : f = 14 := by omega
          have HZ : Hid (Vp MC = 0) := CH (fun i hi => hall.out i (by rw [HML.out] at hi; exact hi))
          have hV2 : VO = if (List.range 14).all (fun f => MB f || ZR f) = true then 0 else 18 := by
            rw [HV.out, HZ.out, if_neg (by simp)]
          have HV2 := Lib.hid hV2
          clear hM c2 G2 hall hlt hf HV HM HML HC hV2 HZ
          rename World => w3
          go_wp2_with fail
          go_loopw [9, 38] (fun _ i ws => ∃ f : Nat, f ≤ 14 ∧ i = .int .i64 f ∧ Hid (∀ g, g < f → (MB g || ZR g) = true) ∧ w3.grownBy ws none) (fun _ i _ => 14 - (intOf i).toNat)
          case atStart => exact ⟨0, by omega, rfl, fun g hg => absurd hg (by omega), YV _⟩
          case round =>
            obtain ⟨f, hf, rfl, hall, g4⟩ := hrel
            have M4 := M3.keep g4
            have c4 := c3.keep g4
            have G4 := G3.trans' g4
            by_cases hlt : f < 14
            · have f1 := M4.cell hlt
              rw [← HMK.out] at f1
              have e1 : (f : Int) < 14 := by omega
              have e2 : (0 : Int) ≤ f := by omega
              have hnx : (MB f || ZR f) = true → Hid (∀ g, g < f + 1 → (MB g || ZR g) = true) := fun h g hg => by
                by_cases e : g = f
                · rw [e]; exact h
                · exact hall.out g (by omega)
              have hbad : (MB f || ZR f) = false → Hid (VO = 18) := fun h => by
                show _ = _
                rw [HV2.out, if_neg]
                intro hh
                have := List.all_eq_true.1 hh f (by simpa using hlt)
                rw [h] at this
                cases this
              have CK := Lib.hid (CZ.out f wr hlt)
              generalize MB f = mb at *
              cases mb
              · generalize ZR f = zf at *
                cases zf
                · have HB := hbad rfl
                  clear hnx hbad
                  go_wp2_with (refine JA (by first | rfl | simp [Region.wanted, yielded]) 41 _ rfl _ rfl _ cs (0, 0) _ c4 Try.underlying41 rfl hinf ?_)
                  go_wp2_with fail
                  refine CK.out.mono ?_
                  rintro e w5 ⟨rfl, g5⟩
                  clear f1
                  go_wp2
                  go_ret
                  rw [HB.out]
                  exact ⟨rfl, G4.trans' g5⟩
                · have HS := Lib.hid (hnx rfl)
                  clear hnx hbad
                  go_wp2_with (refine JA (by first | rfl | simp [Region.wanted, yielded]) 41 _ rfl _ rfl _ cs (0, 0) _ c4 Try.underlying41 rfl hinf ?_)
                  go_wp2_with fail
                  refine CK.out.mono ?_
                  rintro e w5 ⟨rfl, g5⟩
                  clear f1
                  go_wp2
                  go_roundw
                  case rel =>
                    refine ⟨_, _, _, _, _, _, _, _, _, _, _, _, _, _, _, _, ?_, rfl⟩
                    exact ⟨f + 1, by omega, by go_num, HS.out, g4.trans' g5⟩
                  case measure => simp [intOf]; omega
              · have HS := Lib.hid (hnx rfl)
                clear hnx hbad
                go_wp2
                go_roundw
                case rel => exact ⟨f + 1, by omega, by go_num, HS.out, g4⟩
                case measure => simp [intOf]; omega
            · obtain rfl : f = 14 := by omega
              have HB := Lib.hid (show VO = 0 by
                rw [HV2.out, if_pos]
                exact List.all_eq_true.2 fun g hg => hall.out g (by simpa using hg))
              clear c4 M4
              go_wp2
              go_ret
              rw [HB.out]
              exact ⟨rfl, G4⟩
end Go.Proofs.Ytmkhonigljegbaa
namespace Go.Proofs.Ytmkhonigljegbaa
open Go.RowKit Go.ChangeShapes Go.WideShapes
theorem Try.infoOp : (Try.prog.info? 41).map (·.size) = some 22 := by kernel_rfl
set_option maxRecDepth 100000 in
set_option maxHeartbeats 1600000 in
theorem CJ (cs : Array Value) (kind : Int) (w : World) (hsz : cs.size = 22) (h0 : cs[0]? = some (.int .i64 kind)) (hk : ¬ Kn kind) :
    Calls Try.prog 15 #[.agg cs] w fun e w' => e = .returned (.int .i64 8) ∧ w.grownBy w' none := by
  have hc0 : ∀ h, cs[0]'h = .int .i64 kind := fun h => by
    have := Array.getElem?_eq_getElem h
    rw [h0] at this
    exact (Option.some.inj this).symm
  have CU := Lib.hid (fun w => DC kind w hk)
  have henil := fun w => Cw (P := Try.prog) Try.underlying23 w
  go_enter Try.func15, Try.ntmps15
  go_wp2_with fail
  refine (CU.out _).mono ?_
  rintro e w1 ⟨rfl, rfl⟩
  go_wp2
  go_ret
  exact ⟨rfl, Jo _ _⟩
theorem BH (o : OpD) (C : Nat → Int) (vn vi vc vd : Value) (w : World)
    (h1 : Sl vn o.names.length) (h2 : Sl vi o.items.length) (h3 : Sl vc o.coins.length) (h4 : Sl vd o.data.length)
    (hC : ∀ (f : Nat) (w' : World), f < 14 → Kc o.kind f = true → w.grownBy w' none → Calls Try.prog 20 #[opV o vn vi vc vd, .int .i64 f] w' fun e w'' => e = .returned (.int .i64 (C f)) ∧ w'.grownBy w'' none) :
    Calls Try.prog 15 #[opV o vn vi vc vd] w fun e w' => e = .returned (.int .i64 (Uk o C)) ∧ w.grownBy w' none := by
  by_cases hk : Kn o.kind
  · refine CI _ o.kind C (CB o) w (by rfl) (by rfl) (by exact Try.infoOp) hC (fun f w' hf => CC o f vn vi vc vd w' hf h1 h2 h3 h4) hk _ ?_
    unfold Uk
    rw [if_neg (by simp [hk])]
  · unfold Uk
    rw [if_pos hk]
    exact CJ _ o.kind w (by rfl) (by rfl) hk
def WF (a : Qu) : OpD := ⟨a.fc, a.fa7, a.fa2, a.fj, a.fg.fc, a.fg.f3, a.fg.fy, a.fg.fa3, a.fp.map (fun x => (x.fu, x.fa1)), a.f6, a.fq, a.f5, a.fo, a.fa5, a.f8, a.fi, a.ff.fc, a.ff.fu, a.ff.fi, a.ff.fa4, a.ff.f7, a.fv⟩
def Ko (a0 : Qu) (r : Int) : Prop :=
  (Lit.int .i64 r).wf = true ∧ ∃ C : Nat → Int, (∀ f : Nat, f < 14 → Kc a0.fc f = true → ZN a0 f (C f)) ∧ r = Uk (WF a0) C
theorem DG {w : World} {A : Nat → Prop} {gs : Nat → Option Nat} {g q : Nat} {xs : List PV} {vs : Array Value} (h : C9 w A gs g q [.agg xs] vs.toList) : ∃ cs, vs = #[.agg cs] ∧ Y9 w A (fun _ => none) 0 (xs.map .p) cs.toList := by
  suffices ∃ cs, vs.toList = [.agg cs] ∧ Y9 w A (fun _ => none) 0 (xs.map .p) cs.toList by
    obtain ⟨cs, h1, h2⟩ := this
    exact ⟨cs, by have := congrArg List.toArray h1; simpa using this, h2⟩
  revert h
  generalize vs.toList = l
  intro h
  match l, h with
  | [v], h =>
    obtain ⟨cs, rfl, h2⟩ := h.1
    exact ⟨cs, rfl, h2⟩
theorem Z0 {w : World} {A : Nat → Prop} {gs : Nat → Option Nat} {n : Nat} {x : RV} {r : List RV} {us : List Value} (h : Y9 w A gs n (x :: r) us) : ∃ u us', us = u :: us' ∧ Ee w A (gs n) x u ∧ Y9 w A gs (n + 1) r us' := by
  cases us with
  | nil => exact h.elim
  | cons u us => exact ⟨u, us, rfl, h.2.1, h.2.2⟩
theorem VF {w : World} {A : Nat → Prop} {go : Option Nat} {x u : Value} (h : Ee w A go (.p (.v x)) u) : u = x := by
  have : RP w A (.v x) u := h
  cases this with | v _ _ => rfl
theorem B5 {w : World} {A : Nat → Prop} {go : Option Nat} {e : Nat} {rows : List (List PV)} {u : Value} (h : Ee w A go (.p (.l e rows)) u) : Sl u rows.length := by
  have : RP w A (.l e rows) u := h
  cases this with | l _ _ a cap c _ _ _ _ _ => exact ⟨a, cap, rfl⟩
set_option maxRecDepth 100000 in
theorem Er {w : World} {A : Nat → Prop} {a0 : Qu} {cs : Array Value} (hcs : Y9 w A (fun _ => none) 0 ((Zp a0).map .p) cs.toList) : ∃ vn vi vc vd, Value.agg cs = opV (WF a0) vn vi vc vd ∧ Sl vn (WF a0).names.length ∧ Sl vi (WF a0).items.length ∧ Sl vc (WF a0).coins.length ∧ Sl vd (WF a0).data.length := by
  simp only [Zp, List.map_cons, List.map_nil] at hcs
  obtain ⟨u0, l0, e0, h0, hcs⟩ := Z0 hcs
  have x0 := VF h0
  obtain ⟨u1, l1, e1, h1, hcs⟩ := Z0 hcs
  have x1 := VF h1
  obtain ⟨u2, l2, e2, h2, hcs⟩ := Z0 hcs
  have x2 := VF h2
  obtain ⟨u3, l3, e3, h3, hcs⟩ := Z0 hcs
  have x3 := B5 h3
  obtain ⟨u4, l4, e4, h4, hcs⟩ := Z0 hcs
  have x4 := VF h4
  obtain ⟨u5, l5, e5, h5, hcs⟩ := Z0 hcs
  have x5 := VF h5
  obtain ⟨u6, l6, e6, h6, hcs⟩ := Z0 hcs
  have x6 := VF h6
  obtain ⟨u7, l7, e7, h7, hcs⟩ := Z0 hcs
  have x7 := VF h7
  obtain ⟨u8, l8, e8, h8, hcs⟩ := Z0 hcs
  have x8 := B5 h8
  obtain ⟨u9, l9, e9, h9, hcs⟩ := Z0 hcs
  have x9 := B5 h9
  obtain ⟨u10, l10, e10, h10, hcs⟩ := Z0 hcs
  have x10 := VF h10
  obtain ⟨u11, l11, e11, h11, hcs⟩ := Z0 hcs
  have x11 := VF h11
  obtain ⟨u12, l12, e12, h12, hcs⟩ := Z0 hcs
  have x12 := VF h12
  obtain ⟨u13, l13, e13, h13, hcs⟩ := Z0 hcs
  have x13 := VF h13
  obtain ⟨u14, l14, e14, h14, hcs⟩ := Z0 hcs
  have x14 := VF h14
  obtain ⟨u15, l15, e15, h15, hcs⟩ := Z0 hcs
  have x15 := VF h15
  obtain ⟨u16, l16, e16, h16, hcs⟩ := Z0 hcs
  have x16 := VF h16
  obtain ⟨u17, l17, e17, h17, hcs⟩ := Z0 hcs
  have x17 := VF h17
  obtain ⟨u18, l18, e18, h18, hcs⟩ := Z0 hcs
  have x18 := VF h18
  obtain ⟨u19, l19, e19, h19, hcs⟩ := Z0 hcs
  have x19 := VF h19
  obtain ⟨u20, l20, e20, h20, hcs⟩ := Z0 hcs
  have x20 := VF h20
  obtain ⟨u21, l21, e21, h21, hcs⟩ := Z0 hcs
  have x21 := B5 h21
  have hl : cs.toList = [u0, u1, u2, u3, u4, u5, u6, u7, u8, u9, u10, u11, u12, u13, u14, u15, u16, u17, u18, u19, u20, u21] := by
    have h0 : l21 = [] := by
      cases l21 with
      | nil => rfl
      | cons v l => exact hcs.elim
    rw [e0, e1, e2, e3, e4, e5, e6, e7, e8, e9, e10, e11, e12, e13, e14, e15, e16, e17, e18, e19, e20, e21, h0]
  refine ⟨u3, u8, u9, u21, ?_, by simpa [WF] using x3, by simpa [WF] using x8, by simpa [WF] using x9, by simpa [WF] using x21⟩
  have hc : cs = #[u0, u1, u2, u3, u4, u5, u6, u7, u8, u9, u10, u11, u12, u13, u14, u15, u16, u17, u18, u19, u20, u21] := by have := congrArg List.toArray hl; simpa using this
  rw [hc, x0, x1, x2, x4, x5, x6, x7, x10, x11, x12, x13, x14, x15, x16, x17, x18, x19, x20]
  rfl
theorem VR (a0 : Qu) (r : Int) (h : Ko a0 r) : Qq Try.prog 15 [.agg (Zp a0)] [.c (.p (.v (.int .i64 r)))] [] := by
  obtain ⟨hwf, C, hC, hr⟩ := h
  refine Wd (by kernel_rfl) hwf rfl fun A q w vs hA hR => ?_
  obtain ⟨cs, rfl, hcs⟩ := DG hR
  obtain ⟨vn, vi, vc, vd, hv, h1, h2, h3, h4⟩ := Er hcs
  rw [hv, hr]
  rw [hv] at hR
  refine BH (WF a0) C vn vi vc vd w h1 h2 h3 h4 fun f w' hf hm g => ?_
  refine JO (A := A) (q := 0) (g := w'.heap.size) (XT a0 f (C f) (hC f hf hm)) rfl (fun x hx => Nat.lt_of_lt_of_le (hA x hx) g.size) ?_
  have h1 := A1 (g' := w'.heap.size) (q' := 0) g hA rfl hR
  refine ⟨h1.1, .v _ ?_, trivial⟩
  simp only [Kv, Lit.wf, Bool.and_eq_true, decide_eq_true_eq]
  constructor <;> simp [IntKind.min, IntKind.max, IntKind.bits, IntKind.signed] <;> omega
end Go.Proofs.Ytmkhonigljegbaa
