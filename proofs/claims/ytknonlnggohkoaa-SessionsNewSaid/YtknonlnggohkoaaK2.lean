/- Parts of the proof, laid together. No condition. -/
import Derived.Test.YtknonlnggohkoaaK1
import Derived.ChangeKeysEq
import Derived.Laws.StructEq
import Derived.Laws.IdiomStrings
import Derived.Laws.MakeOwn
import Derived.ScopeJumps
import Derived.Lib.SliceRun
set_option linter.unusedVariables false
set_option linter.unusedSimpArgs false
namespace Go.Proofs.Ytknonlnggohkoaa
open Go.RowKit
def gt : Bool → TV → TV
  | true, t => t
  | false, _ => .tup []
theorem Q8 {g : Bool} {t : TV} (h : g = true) : gt g t = t := by subst h; rfl
theorem Q6 {b : Bool} : (b == true) = b := by cases b <;> rfl
theorem Q7 {b : Bool} : (b == false) = !b := by cases b <;> rfl
section
variable {E : En} {N : Nat} {P : Program} {T : Tb P} {ops : Array Oper} {o : Oper} {st : St} {r : List Oper} {acc : List (Fp × Ef)} {K : List (Fp × Ef) → St → Prop} {d : Nat} {ty : Nat} {pos : String} {af : Array Edge} {gd : Option (Nat × Bool)} {op : Op} {f : Fp} {t : TV} {fr : List (Nat × TV)} {H : List (QG × Option Bk)}
theorem Z7 {j dj : Nat} {want b g g0 : Bool} (hj : (ops[j]?).bind (·.dst) = some dj) (hb : (⟨fr, H⟩ : St).g dj = gt g0 (.c (.p (.v (.bool b))))) (hg : (g0 && (b == want)) = g) (hop : g = true → ZY E N P ops ⟨some d, op, ty, pos, af, some (j, want)⟩ ⟨fr, H⟩ f ⟨t, []⟩)
    (h : Vl E N P ops r ((f, ⟨gt g t, []⟩) :: acc) ⟨(d, gt g t) :: fr, H⟩ K) : Vl E N P ops (⟨some d, op, ty, pos, af, some (j, want)⟩ :: r) acc ⟨fr, H⟩ K := by
  refine ⟨f, ⟨gt g t, []⟩, ?_, h⟩
  have hw : wn ops ⟨some d, op, ty, pos, af, some (j, want)⟩ ⟨fr, H⟩ = some g := by
    unfold wn
    simp only [hj, hb]
    subst hg
    cases g0
    · rfl
    · simp [gt]
  cases g with
  | true => exact .inl ⟨hw, hop rfl⟩
  | false => exact .inr ⟨hw, trivial, rfl⟩
theorem Q3 {j dj : Nat} {want b g : Bool} (hj : (ops[j]?).bind (·.dst) = some dj) (hb : (⟨fr, H⟩ : St).g dj = .c (.p (.v (.bool b)))) (hg : (b == want) = g) (hop : g = true → ZY E N P ops ⟨some d, op, ty, pos, af, some (j, want)⟩ ⟨fr, H⟩ f ⟨t, []⟩)
    (h : Vl E N P ops r ((f, ⟨gt g t, []⟩) :: acc) ⟨(d, gt g t) :: fr, H⟩ K) : Vl E N P ops (⟨some d, op, ty, pos, af, some (j, want)⟩ :: r) acc ⟨fr, H⟩ K := Z7 (g0 := true) hj hb (by simpa using hg) hop h
theorem Qg {c x y : Operand} {b g : Bool} {v w : Value} {u : Value} (hv : st.ev c = .c (.p (.v (.bool b)))) (hx : st.ev x = gt g (.c (.p (.v v)))) (hg : (b == true) = g) (hy : st.ev y = .c (.p (.v w))) (hu : (bif b then v else w) = u) (hb : Zj c = true) (h1 : Zj x = true) (h2 : Zj y = true) :
    ZY E N P ops ⟨some d, .pick c x y, ty, pos, af, gd⟩ st ⟨[], []⟩ ⟨.c (.p (.v u)), []⟩ := by
  refine WZ hb h1 h2 hv ?_
  subst hg hu
  cases b
  · rw [if_neg (by simp)]; exact hy
  · rw [if_pos rfl]; exact hx
theorem Qp {c x y : Operand} {b g : Bool} {v w : Value} {u : Value} (hv : st.ev c = .c (.p (.v (.bool b)))) (hx : st.ev x = .c (.p (.v v))) (hg : (b == false) = g) (hy : st.ev y = gt g (.c (.p (.v w)))) (hu : (bif b then v else w) = u) (hb : Zj c = true) (h1 : Zj x = true) (h2 : Zj y = true) :
    ZY E N P ops ⟨some d, .pick c x y, ty, pos, af, gd⟩ st ⟨[], []⟩ ⟨.c (.p (.v u)), []⟩ := by
  refine WZ hb h1 h2 hv ?_
  subst hg hu
  cases b
  · rw [if_neg (by simp)]; exact hy
  · rw [if_pos rfl]; exact hx
theorem QB {b x y : Bool} : (bif b then Value.bool x else Value.bool y) = .bool (bif b then x else y) := by cases b <;> rfl
end
def Z9 (st st' : St) : Prop := ∀ (E : En) (N : Nat) (cx : Cx) (a : Act) (w : World), Kb E N cx st a w → ∃ cx', Kb E N cx' st' a w
def jn {α : Type} (k : α → Prop) (m : (α → Prop) → Prop) : Prop := m k
def lp {σ : Type} (step : (σ → Prop) → σ → Prop) (s : σ) : Prop := ∀ X : σ → Prop, (∀ s, step X s → X s) → X s
def ix {α : Type} (l : List α) (n : Int) (x : α) : Prop := 0 ≤ n ∧ l[n.toNat]? = some x
def WH (P : Program) (c : Code) (Q : Exit → Act → World → Prop) (a : Act) (w : World) : Prop :=
  ∀ (b : Frame) (kk : List Item) (cs : List Frame), ∃ e a' w', Q e a' w' ∧ Arrives P (lone (b.at a (.code c :: .inLoop c :: kk)) cs w) b kk cs e a' w'
theorem UN {P : Program} {c : Code} {Q : Exit → Act → World → Prop} {a : Act} {w : World} (h : WH P c Q a w) : (Code.loop c).wp P Q a w := by
  intro b kk cs
  obtain ⟨e, a', w', hq, harr⟩ := h b kk cs
  exact ⟨e, a', w', hq, .of_steps (.one step_loop) harr⟩
theorem Bl {P : Program} {c : Code} {Q : Exit → Act → World → Prop} {a : Act} {w : World} (h : c.wp P (Exit.then (WH P c Q) Q) a w) : WH P c Q a w := by
  intro b kk cs
  obtain ⟨e, a₁, w₁, hq, harr⟩ := h b (.inLoop c :: kk) cs
  cases e with
  | normal =>
    obtain ⟨e₂, a₂, w₂, hq₂, harr₂⟩ := hq b kk cs
    exact ⟨e₂, a₂, w₂, hq₂, .of_steps (Steps.trans harr (.one step_inLoop)) harr₂⟩
  | exit id => exact ⟨_, a₁, w₁, hq, .pass (x := .inLoop c) rfl (fun _ _ => .inl (by simp)) harr⟩
  | goto l => exact ⟨_, a₁, w₁, hq, .pass (x := .inLoop c) rfl (fun _ _ => .inl (by simp)) harr⟩
  | ret => exact ⟨_, a₁, w₁, hq, .pass (x := .inLoop c) rfl (fun _ _ => .inl (by simp)) harr⟩
  | panic ch => exact ⟨_, a₁, w₁, hq, .pass (x := .inLoop c) rfl (fun _ _ => .inl (by simp)) harr⟩
  | outgrown => exact ⟨_, a₁, w₁, hq, .pass (x := .inLoop c) rfl (fun _ _ => .inl (by simp)) harr⟩
section
variable {E : En} {N : Nat} {P : Program} {T : Tb P} {Q : Exit → St → Prop} {st st' st2 : St}
theorem Z9.refl (st : St) : Z9 st st := fun _ _ cx _ _ h => ⟨cx, h⟩
theorem Z9.trans (h : Z9 st st') (h2 : Z9 st' st2) : Z9 st st2 := fun E N cx a w hr => let ⟨cx', hr'⟩ := h E N cx a w hr; h2 E N cx' a w hr'
theorem Z9.nm (ks : List Nat) (σ : List (QG × QG)) (h1 : okS σ = true) (h : st.norm ks σ = st') : Z9 st st' := fun E N cx a w hr => by subst h; exact hr.norm h1
theorem ZI {c : Code} (h : Z9 st st') (h2 : AW E N P c Q st') : AW E N P c Q st := fun cx a w hr => let ⟨cx', hr'⟩ := h E N cx a w hr; h2 cx' a w hr'
def AL (E : En) (N : Nat) (P : Program) (c : Code) (Q : Exit → St → Prop) (st : St) : Prop :=
  ∀ cx a w, Kb E N cx st a w → WH P c (fun e a' w' => ∃ st' cx', Q e st' ∧ Kb E N cx' st' a' w') a w
theorem Bm {c : Code} (h : AL E N P c Q st) : AW E N P (.loop c) Q st := fun cx a w hr => UN (h cx a w hr)
theorem Bn {c : Code} (h : AW E N P c (Wi Q (AL E N P c Q)) st) : AL E N P c Q st := by
  intro cx a w hr
  refine Bl (wp_mono (h cx a w hr) ?_)
  rintro e a' w' ⟨st', cx', h1, h2⟩
  cases e with
  | normal => exact h1 cx' a' w' h2
  | _ => exact ⟨st', cx', h1, h2⟩
theorem CQ {c : Code} (h : Z9 st st') (h2 : AL E N P c Q st') : AL E N P c Q st := fun cx a w hr => let ⟨cx', hr'⟩ := h E N cx a w hr; h2 cx' a w hr'
theorem KY {σ : Type} {c : Code} {step : (σ → Prop) → σ → Prop} {s0 : σ} (S : σ → St) (h : lp step s0) (hs : Z9 st (S s0))
    (hb : ∀ (X : σ → Prop) (L : St → Prop), (∀ p st, X p → Z9 st (S p) → L st) → ∀ s, step X s → AW E N P c (Wi Q L) (S s)) : AW E N P (.loop c) Q st :=
  Bm (h (fun s => ∀ st, Z9 st (S s) → AL E N P c Q st) (fun s hstep st hst => CQ hst (Bn (hb _ _ (fun p st hp hst => hp st hst) s hstep))) st hs)
theorem Km {α : Type} {x y : Code} {k : α → Prop} {m : (α → Prop) → Prop} (S : α → St) (h : jn k m) (hk : ∀ p, k p → AW E N P y Q (S p))
    (hm : ∀ (J : α → Prop) (L : St → Prop), (∀ p st, J p → Z9 st (S p) → L st) → m J → AW E N P x (Wi Q L) st) : AW E N P (.seq x y) Q st :=
  B7 (hm k _ (fun p st hp hst => ZI hst (hk p hp)) h)
theorem ZN {c : Code} {Q0 : Exit → St → Prop} (h : ∀ Q : Exit → St → Prop, (∀ e st, Q0 e st → Q e st) → AW E N P c Q st) : AW E N P c Q0 st := h _ fun _ _ h => h
end
theorem YI (b b' : QG) (x : Option Bk) (fr : List (Nat × TV)) (H : List (QG × Option Bk)) : (⟨fr, (b, x) :: H⟩ : St).h b' = if b' = b then x else (⟨fr, H⟩ : St).h b' := by
  show (VG ((b, x) :: H) b').getD none = _
  simp only [VG]
  by_cases h : b' = b
  · subst h; rw [Z6.2 rfl, if_pos rfl]; rfl
  · have : J7 b b' = false := by
      cases hb : J7 b b' with
      | false => rfl
      | true => exact absurd (Z6.1 hb).symm h
    rw [this, if_neg h]; rfl
theorem CR (s s' : Nat) (t : TV) (fr : List (Nat × TV)) (H : List (QG × Option Bk)) : (⟨(s, t) :: fr, H⟩ : St).g s' = if s' = s then t else (⟨fr, H⟩ : St).g s' := by
  show (Zt ((s, t) :: fr) s').getD (.c .any) = _
  simp only [Zt]
  by_cases h : s' = s
  · subst h; simp
  · have : Nat.beq s s' = false := by
      cases hb : Nat.beq s s' with
      | false => rfl
      | true => exact absurd (Nat.eq_of_beq_eq_true hb).symm h
    rw [this, if_neg h]; rfl
section
variable {E : En} {N : Nat} {P : Program} {T : Tb P} {Q : Exit → St → Prop} {st st' st2 : St} {cx : Cx} {a : Act} {w : World} {fr : List (Nat × TV)} {H : List (QG × Option Bk)}
theorem Z9.blk (b : QG) (e : Nat) (he : Nat.blt 0 e = true) (hb0 : Nat.blt b.1 65536 = true) (hf : WA b ⟨fr, H⟩ = true) : Z9 ⟨fr, H⟩ ⟨fr, (b, some (.row e [] true)) :: H⟩ := by
  intro E N cx a w hr
  have hf := Yh hf
  have hh := YI b (x := some (.row e [] true)) (fr := fr) (H := H)
  have hcmp : ∀ b', b' ≠ b → AM cx w (⟨fr, H⟩ : St).h (cx.upd b none) w (⟨fr, (b, some (.row e [] true)) :: H⟩ : St).h b' := by
    intro b' hne bk' hb
    rw [hh, if_neg hne] at hb
    exact ⟨bk', hb, rfl, Nat.le_refl _, by simp [Cx.upd, hne], fun g o c el fz _ h => ⟨c, el, fz, h, fun _ => rfl⟩⟩
  have hk : Ke cx.A w w := Ke.refl _ _
  refine ⟨cx.upd b none, hr.defers, hr.size, fun s' => ?_, fun b' bk hb => ?_, fun b1 b2 g o g' o' h1 h2 h3 h4 hne => ?_, fun b1 g o h1 h2 => ?_, hr.A, hr.A0, hr.kept, hr.sz, hr.os, hr.tape, hr.output, hr.hN, (Wx (Nat.le_of_ble_eq_true hb0)).trans hr.pin⟩
  · refine RT.tr (cx := cx) (fun _ h => h) hk (fun b' hb' => hcmp b' ?_) (hr.fr s')
    rintro rfl
    exact hf.2.1 s' hb'
  · rw [hh] at hb
    by_cases h : b' = b
    · rw [if_pos h] at hb
      cases hb
      subst h
      exact ⟨Nat.le_of_ble_eq_true he, by simp, by simp [Cx.upd]⟩
    · rw [if_neg h] at hb
      refine RB.tr (cx := cx) (fun _ h => h) hk (fun b2 hb2 => hcmp b2 ?_) (by simp [Cx.upd, h]) (fun g o _ => ⟨rfl, fun h => h⟩) (hr.bl b' bk hb)
      rintro rfl
      exact hf.2.2 b' bk hb hb2
  · rw [hh] at h1 h2
    simp only [Cx.upd] at h3 h4
    by_cases e1 : b1 = b
    · rw [if_pos e1] at h3; cases h3
    · by_cases e2 : b2 = b
      · rw [if_pos e2] at h4; cases h4
      · rw [if_neg e1] at h1 h3; rw [if_neg e2] at h2 h4
        exact hr.inj b1 b2 g o g' o' h1 h2 h3 h4 hne
  · rw [hh] at h1
    simp only [Cx.upd] at h2
    by_cases e1 : b1 = b
    · rw [if_pos e1] at h2; cases h2
    · rw [if_neg e1] at h1 h2
      exact hr.own b1 g o h1 h2
theorem Kb.frz {b : QG} {e : Nat} {rows : List (List PV)} {mu : Bool} (hb : st.h b = some (.row e rows mu)) (hr : Kb E N cx st a w) : ∃ cx', (∀ x, cx.A x → cx'.A x) ∧ cx'.ι = cx.ι ∧ Kb E N cx' ⟨st.fr, (b, some (.row e rows false)) :: st.H⟩ a w := by
  have hh := YI b (x := some (.row e rows false)) (fr := st.fr) (H := st.H)
  let cx' : Cx := ⟨cx.ι, fun x => cx.A x ∨ ∃ q, cx.ι b = some (x, q)⟩
  have hA : ∀ x, cx.A x → cx'.A x := fun x h => .inl h
  have hk : Ke cx.A w w := Ke.refl _ _
  have hcmp : ∀ b', AM cx w st.h cx' w (⟨st.fr, (b, some (.row e rows false)) :: st.H⟩ : St).h b' := by
    intro b' bk' hb'
    rw [hh] at hb'
    by_cases h : b' = b
    · rw [if_pos h] at hb'
      cases hb'
      subst h
      exact ⟨_, hb, rfl, Nat.le_refl _, rfl, fun g o c el fz _ h => ⟨c, el, fz, h, fun _ => rfl⟩⟩
    · rw [if_neg h] at hb'
      exact ⟨bk', hb', rfl, Nat.le_refl _, rfl, fun g o c el fz _ h => ⟨c, el, fz, h, fun _ => rfl⟩⟩
  have hlive : ∀ b', (⟨st.fr, (b, some (.row e rows false)) :: st.H⟩ : St).h b' ≠ none → st.h b' ≠ none := by
    intro b' h1
    rw [hh] at h1
    by_cases h : b' = b
    · rw [h, hb]; simp
    · rwa [if_neg h] at h1
  refine ⟨cx', hA, rfl, hr.defers, hr.size, fun s' => ?_, fun b' bk hb' => ?_, fun b1 b2 g o g' o' h1 h2 h3 h4 hne => ?_, fun b1 g o h1 h2 => ?_, fun g hg => ?_, fun g hg => hA g (hr.A0 g hg), hr.kept, hr.sz, hr.os, hr.tape, hr.output, hr.hN, hr.pin⟩
  · exact RT.tr (cx := cx) hA hk (fun b' _ => hcmp b') (hr.fr s')
  · rw [hh] at hb'
    by_cases h : b' = b
    · rw [if_pos h] at hb'
      cases hb'
      subst h
      obtain ⟨h1, h2, h3⟩ := hr.bl b' _ hb
      refine ⟨h1, h2, ?_⟩
      revert h3
      show (match cx.ι b' with | none => _ | some (g, o) => _) → (match cx.ι b' with | none => _ | some (g, o) => _)
      cases hι : cx.ι b' with
      | none => exact fun h => h
      | some x =>
        obtain ⟨g, o⟩ := x
        rintro ⟨h3, c, el, fz, capR, h4, h5, h6, h7, h8, h9, h10⟩
        exact ⟨h3, c, el, fz, capR, h4, (fun h => by cases h), fun _ => .inr ⟨o, hι⟩, h7, h8, h9, fun i r k p hi hk' => let ⟨cv, hc, hp⟩ := h10 i r k p hi hk'; ⟨cv, hc, hp.mono hA (Nat.le_refl _) (fun _ _ _ => rfl)⟩⟩
    · rw [if_neg h] at hb'
      refine RB.tr (cx := cx) hA hk (fun b2 _ => hcmp b2) rfl (fun g o hg => ⟨rfl, fun hn hA' => ?_⟩) (hr.bl b' bk hb')
      rcases hA' with hA' | ⟨q, hq⟩
      · exact hn hA'
      · exact hr.inj b' b g o g q (by rw [hb']; simp) (by rw [hb]; simp) hg hq h rfl
  · exact hr.inj b1 b2 g o g' o' (hlive b1 h1) (hlive b2 h2) h3 h4 hne
  · exact hr.own b1 g o (hlive b1 h1) h2
  · rcases hg with hg | ⟨q, hq⟩
    · exact hr.A g hg
    · obtain ⟨h1, h2⟩ := hr.own b g q (by rw [hb]; simp) hq
      exact ⟨h1, h2.elim (fun h => .inr (.inl h)) (fun h => .inr (.inr h))⟩
theorem Z9.frz (b : QG) {e : Nat} {rows : List (List PV)} {mu : Bool} (hb : (⟨fr, H⟩ : St).h b = some (.row e rows mu)) : Z9 ⟨fr, H⟩ ⟨fr, (b, some (.row e rows false)) :: H⟩ := fun E N cx a w hr =>
  let ⟨cx', _, _, h⟩ := hr.frz hb; ⟨cx', h⟩
inductive Ct (st : St) : CV → CV → Prop
  | k (c : CV) : Ct st c c
  | any (c : CV) : Ct st c .any
  | nil (e : Nat) : Ct st (.p (.v (.slice none 0 0))) (.p (.l e []))
  | nilo {b : QG} {bk : Bk} (hb : st.h b = some bk) : Ct st (.p (.v (.slice none 0 0))) (.sl b 0 0)
  | n {b : QG} {off n n' : Nat} (h : n = n') : Ct st (.sl b off n) (.sl b off n')
  | fr {b : QG} {e off n : Nat} {rows rows' : List (List PV)} (hb : st.h b = some (.row e rows false)) (hr : (rows.drop off).take n = rows') : Ct st (.sl b off n) (.p (.l e rows'))
theorem Bo {c c' : CV} {v : Value} (hr : Kb E N cx st a w) (h : Ct st c c') (hc : RC cx w st.h c v) : RC cx w st.h c' v := by
  cases h with
  | k => exact hc
  | any => trivial
  | nil e => cases hc with | v _ _ => exact Bb e
  | n h => subst h; exact hc
  | nilo hb =>
    cases hc with
    | v _ _ =>
      intro bk hbk
      exact ⟨none, 0, rfl, Nat.le_refl _, Nat.zero_le _, Nat.zero_le _, .inl rfl⟩
  | @fr b e off n rows rows' hb hr' =>
    have hA : ∀ b' ∈ [b], ∀ g q, cx.ι b' = some (g, q) → cx.A g := by
      intro b' hb' g q hg
      rw [List.mem_singleton.1 hb'] at hg
      obtain ⟨_, _, h3⟩ := hr.bl b _ hb
      rw [hg] at h3
      obtain ⟨_, c, el, fz, capR, _, _, h6, _⟩ := h3
      exact h6 rfl
    exact WC (x := .p (.l e rows')) (o := none) hr (.fr hb hr') hc (fun _ h => h) hA (fun b h => by cases h)
inductive AG (st : St) : List CV → List CV → Prop
  | nil : AG st [] []
  | cons {c c' : CV} {cs cs' : List CV} (h : Ct st c c') (hs : AG st cs cs') : AG st (c :: cs) (c' :: cs')
theorem AG.k (cs : List CV) : AG st cs cs := by
  induction cs with
  | nil => exact .nil
  | cons c cs ih => exact .cons (.k c) ih
theorem AG.at {cs cs' : List CV} (h : AG st cs cs') : cs'.length = cs.length ∧ ∀ (k : Nat) (c' : CV), cs'[k]? = some c' → ∃ c, cs[k]? = some c ∧ Ct st c c' := by
  induction h with
  | nil => exact ⟨rfl, fun k c' h => by simp at h⟩
  | cons h hs ih =>
    refine ⟨by simp [ih.1], fun k c' hk => ?_⟩
    cases k with
    | zero => rw [List.getElem?_cons_zero] at hk; cases hk; exact ⟨_, rfl, h⟩
    | succ k => rw [List.getElem?_cons_succ] at hk; obtain ⟨c, h1, h2⟩ := ih.2 k c' hk; exact ⟨c, by rw [List.getElem?_cons_succ]; exact h1, h2⟩
theorem CS {cs cs' : List CV} {vs : Array Value} (hr : Kb E N cx st a w) (h : AG st cs cs') (hc : RL cx w st.h cs vs) : RL cx w st.h cs' vs := by
  obtain ⟨h1, h2⟩ := h.at
  refine ⟨by rw [h1]; exact hc.1, fun i c hi => ?_⟩
  obtain ⟨c0, h3, h4⟩ := h2 i c hi
  obtain ⟨u, hu, h5, h6⟩ := hc.2 i c0 h3
  exact ⟨u, hu, h5, Bo hr h4 h6⟩
theorem Kb.re (hr : Kb E N cx st a w) {s : Nat} {t : TV} (ht : RT cx w st.h t (a.tmps.getD s undef)) : Kb E N cx ⟨(s, t) :: st.fr, st.H⟩ a w := by
  refine ⟨hr.defers, hr.size, fun s' => ?_, hr.bl, hr.inj, hr.own, hr.A, hr.A0, hr.kept, hr.sz, hr.os, hr.tape, hr.output, hr.hN, hr.pin⟩
  rw [CR]
  by_cases h : s' = s
  · rw [if_pos h, h]; exact ht
  · rw [if_neg h]; exact hr.fr s'
theorem Z9.slot (s : Nat) {c c' : CV} (hs : (⟨fr, H⟩ : St).g s = .c c) (hc : Ct ⟨fr, H⟩ c c') : Z9 ⟨fr, H⟩ ⟨(s, .c c') :: fr, H⟩ := by
  intro E N cx a w hr
  refine ⟨cx, hr.re ?_⟩
  have := hr.fr s
  rw [hs] at this
  refine ⟨?_, Bo hr hc this.2⟩
  rcases this.1 with h | h
  · subst h; cases hc <;> exact .inl rfl
  · exact .inr h
theorem Z9.cells (b : QG) {cs cs' : List CV} (hb : (⟨fr, H⟩ : St).h b = some (.box cs)) (hc : AG ⟨fr, H⟩ cs cs') : Z9 ⟨fr, H⟩ ⟨fr, (b, some (.box cs')) :: H⟩ := by
  intro E N cx a w hr
  have hh := YI b (x := some (.box cs')) (fr := fr) (H := H)
  obtain ⟨hl, hat⟩ := hc.at
  have hcmp : ∀ b', AM cx w (⟨fr, H⟩ : St).h cx w (⟨fr, (b, some (.box cs')) :: H⟩ : St).h b' := by
    intro b' bk' hb'
    rw [hh] at hb'
    by_cases h : b' = b
    · rw [if_pos h] at hb'
      cases hb'
      subst h
      exact ⟨_, hb, rfl, Nat.le_refl _, rfl, fun g o c el fz _ h => ⟨c, el, fz, h, fun _ => rfl⟩⟩
    · rw [if_neg h] at hb'
      exact ⟨bk', hb', rfl, Nat.le_refl _, rfl, fun g o c el fz _ h => ⟨c, el, fz, h, fun _ => rfl⟩⟩
  have hk : Ke cx.A w w := Ke.refl _ _
  have hlive : ∀ b', (⟨fr, (b, some (.box cs')) :: H⟩ : St).h b' ≠ none → (⟨fr, H⟩ : St).h b' ≠ none := by
    intro b' h1
    rw [hh] at h1
    by_cases h : b' = b
    · rw [h, hb]; simp
    · rwa [if_neg h] at h1
  refine ⟨cx, hr.defers, hr.size, fun s' => ?_, fun b' bk hb' => ?_, fun b1 b2 g o g' o' h1 h2 h3 h4 hne => ?_, fun b1 g o h1 h2 => ?_, hr.A, hr.A0, hr.kept, hr.sz, hr.os, hr.tape, hr.output, hr.hN, hr.pin⟩
  · exact RT.tr (cx := cx) (fun _ h => h) hk (fun b' _ => hcmp b') (hr.fr s')
  · rw [hh] at hb'
    by_cases h : b' = b
    · rw [if_pos h] at hb'
      cases hb'
      subst h
      obtain ⟨g, o, c, el, h1, h2, h3, h4, h5⟩ := hr.bl b' _ hb
      refine ⟨g, o, c, el, h1, h2, h3, by rw [hl]; exact h4, fun k x hx => ?_⟩
      obtain ⟨x0, h6, h7⟩ := hat k x hx
      obtain ⟨cv, h8, h9, h10⟩ := h5 k x0 h6
      exact ⟨cv, h8, h9, RC.tr (cx := cx) (fun _ h => h) hk (fun b' _ => hcmp b') (Bo hr h7 h10)⟩
    · rw [if_neg h] at hb'
      exact RB.tr (cx := cx) (fun _ h => h) hk (fun b2 _ => hcmp b2) rfl (fun g o _ => ⟨rfl, fun h => h⟩) (hr.bl b' bk hb')
  · exact hr.inj b1 b2 g o g' o' (hlive b1 h1) (hlive b2 h2) h3 h4 hne
  · exact hr.own b1 g o (hlive b1 h1) h2
theorem Z1 {ops : Array Oper} {o : Oper} {rb al : List QG} {t : TV} {bl : List (QG × Option Bk)} {b : QG} {e : Nat} {rows : List (List PV)} {mu : Bool} (hb : (⟨fr, H⟩ : St).h b = some (.row e rows mu)) (hal : WT al [b] = true)
    (h : ZY E N P ops o ⟨fr, (b, some (.row e rows false)) :: H⟩ ⟨rb, al⟩ ⟨t, bl⟩) : ZY E N P ops o ⟨fr, H⟩ ⟨b :: rb, al⟩ ⟨t, bl ++ [(b, some (.row e rows false))]⟩ := by
  intro st' ha hf hd cx a w Q hr
  have hb' : st'.h b = some (.row e rows mu) := by rw [ha.2 b (by simp)]; exact hb
  obtain ⟨cx', hA, hι, hr'⟩ := hr.frz hb'
  have hh := YI b (x := some (.row e rows false)) (fr := st'.fr) (H := st'.H)
  refine Oper.wp_mono (fun a' w' ⟨cx2, h2⟩ => ⟨cx2, ?_⟩) (h ⟨st'.fr, (b, some (.row e rows false)) :: st'.H⟩ ⟨ha.1, fun b' hb2 => ?_⟩ (fun b' hb2 => ?_) hd cx' a w Q hr')
  · rw [hh, YI]
    by_cases hbb : b' = b
    · rw [if_pos hbb, if_pos hbb]
    · rw [if_neg hbb, if_neg hbb]; exact ha.2 b' (List.mem_cons_of_mem _ hb2)
  · obtain ⟨h1, h2, h3⟩ := hf b' hb2
    have hne : b' ≠ b := by have := Jn hal b' hb2; simpa using this
    refine ⟨by rw [hh, if_neg hne]; exact h1, h2, fun b2 bk hbk => ?_⟩
    rw [hh] at hbk
    by_cases h4 : b2 = b
    · rw [if_pos h4] at hbk; cases hbk; simp [Bk.ment]
    · rw [if_neg h4] at hbk; exact h3 b2 bk hbk
  · have e1 : (Ef.ap ⟨t, bl ++ [(b, some (.row e rows false))]⟩ o st') = Ef.ap ⟨t, bl⟩ o ⟨st'.fr, (b, some (.row e rows false)) :: st'.H⟩ := by
      unfold Ef.ap; simp
    rw [e1]; exact h2
end
def eI (k : IntKind) (n : Int) : List PV := [.v (.int k n)]
def eS (s : ByteArray) : List PV := [.v (.string s)]
def bx (s : ByteArray) (n v : Int) : Prop := 0 ≤ n ∧ ∃ b : UInt8, s[n.toNat]? = some b ∧ v = (b.toNat : Int)
def Bp (k : IntKind) (a b : Int) : Int := k.wrap (BitVec.ofInt k.bits a &&& BitVec.ofInt k.bits b).toNat
def eqV : Value → Value → Bool
  | .int _ a, .int _ b => a == b
  | .bool a, .bool b => a == b
  | .string a, .string b => a.toList == b.toList
  | _, _ => false
def UO : List Value → List Value → Bool
  | [], [] => true
  | a :: l, b :: m => eqV a b && UO l m
  | _, _ => false
section
variable {α : Type} {f : α → List PV} {L L' : List α} {E : En} {N : Nat} {P : Program} {T : Tb P} {ops : Array Oper} {o : Oper} {st : St} {d : Nat} {ty : Nat} {pos : String} {af : Array Edge} {gd : Option (Nat × Bool)} {cx : Cx} {a : Act} {w w' : World}
theorem tn {n : Int} (h : 0 ≤ n) : n = (n.toNat : Int) := (Int.toNat_of_nonneg h).symm
theorem Ad {x y : Operand} {t el e : Nat} {k : IntKind} {n : Int} {v : α} {tt te : TE} (hv : ix L n v) (h1 : st.ev x = .c (.p (.l e (L.map f)))) (h2 : st.ev y = .c (.p (.v (.int k n)))) (ht : Zt T.ty t = some tt) (hk : tt.kd = .slice el) (hel : Zt T.ty el = some te) (he : te.size = e) (hx : Zj x = true) (hy : Zj y = true) :
    ZY E N P ops ⟨some d, .indexAddr t x y, ty, pos, af, gd⟩ st ⟨[], []⟩ ⟨.c (.ep (f v) 0), []⟩ := U1 h1 h2 (tn hv.1) (gm hv.2) ht hk hel he hx hy
theorem Uh {x y : Operand} {t el e m : Nat} {b : QG} {mu : Bool} {k : IntKind} {n : Int} {v : α} {tt te : TE} (hv : ix L n v) (h1 : st.ev x = .c (.sl b 0 m)) (hb : st.h b = some (.row e (L.map f) mu)) (hm : (L.map f).length = m) (h2 : st.ev y = .c (.p (.v (.int k n)))) (ht : Zt T.ty t = some tt) (hk : tt.kd = .slice el) (hel : Zt T.ty el = some te) (he : te.size = e) (hx : Zj x = true) (hy : Zj y = true) :
    ZY E N P ops ⟨some d, .indexAddr t x y, ty, pos, af, gd⟩ st ⟨[b], []⟩ ⟨.c (.ptr b n.toNat 0), []⟩ :=
  Wv h1 hb h2 (tn hv.1) (by rw [← hm, List.length_map]; exact (List.getElem?_eq_some_iff.1 hv.2).1) ht hk hel he (Nat.zero_add _) hx hy
theorem Yk {x y : Operand} {t : Nat} {s : ByteArray} {k : IntKind} {n v : Int} {tt : TE} (hv : bx s n v) (h1 : st.ev x = .c (.p (.v (.string s)))) (h2 : st.ev y = .c (.p (.v (.int k n)))) (ht : Zt T.ty t = some tt) (hk : tt.kd = .string) (hx : Zj x = true) (hy : Zj y = true) :
    ZY E N P ops ⟨some d, .index t x y, ty, pos, af, gd⟩ st ⟨[], []⟩ ⟨.c (.p (.v (.int .u8 v))), []⟩ := by
  obtain ⟨h0, b, hb, rfl⟩ := hv
  exact YY h1 h2 (tn h0) hb ht hk hx hy
theorem Ae {x : Operand} {t e : TypeId} {tt : TE} {k : Nat} (h1 : st.ev x = .c (.p (.l k (L.map f)))) (ht : Zt T.ty t = some tt) (hk : tt.kd = .slice e) (hx : Zj x = true) :
    ZY E N P ops ⟨some d, .call { callee := .builtin .len, args := #[x], argTypes := #[t] }, ty, pos, af, gd⟩ st ⟨[], []⟩ ⟨.c (.p (.v (.int .i64 (L.length : Int)))), []⟩ := by
  have := Ax (E := E) (N := N) (ops := ops) (d := d) (ty := ty) (pos := pos) (af := af) (gd := gd) h1 ht hk hx
  rwa [List.length_map] at this
theorem Ui {x : Operand} {t e e' : TypeId} {tt : TE} {b : QG} {m : Nat} {mu : Bool} (h1 : st.ev x = .c (.sl b 0 m)) (hb : st.h b = some (.row e' (L.map f) mu)) (hm : (L.map f).length = m) (ht : Zt T.ty t = some tt) (hk : tt.kd = .slice e) (hx : Zj x = true) :
    ZY E N P ops ⟨some d, .call { callee := .builtin .len, args := #[x], argTypes := #[t] }, ty, pos, af, gd⟩ st ⟨[b], []⟩ ⟨.c (.p (.v (.int .i64 (L.length : Int)))), []⟩ := by
  have := UD (E := E) (N := N) (ops := ops) (d := d) (ty := ty) (pos := pos) (af := af) (gd := gd) h1 (by rw [hb]; rfl) ht hk hx
  rwa [← hm, List.length_map] at this
theorem o_rem {xt yt : TypeId} {x y : Operand} {k : IntKind} {a b : Int} (hb : b ≠ 0) (h1 : st.ev x = .c (.p (.v (.int k a)))) (h2 : st.ev y = .c (.p (.v (.int k b)))) (hx : Zj x = true) (hy : Zj y = true) :
    ZY E N P ops ⟨some d, .binOp .rem xt x y yt, ty, pos, af, gd⟩ st ⟨[], []⟩ ⟨.c (.p (.v (.int k (a.tmod b)))), []⟩ := X0 h1 h2 (by simp [Wc, hb]) hx hy
def CW (E : En) (N : Nat) (P : Program) (ops : Array Oper) (o : Oper) (st : St) (rb : List QG) (tx : TypeId) (e : Nat) (y : Operand) (f : α → List PV) (L : List α) : Prop := BY E N P ops o st rb tx e y (L.map f)
theorem Bq {y : Operand} {tx e' : TypeId} {e : Nat} {tt : TE} (hm : y ∈ o.op.operands.toList) (hy : Zj y = true) (h1 : st.ev y = .c (.p (.l e (L.map f)))) (he : Nat.blt 0 e = true) (ht : Zt T.ty tx = some tt) (hk : tt.kd = .slice e') : CW E N P ops o st [] tx e y f L := CL hm hy h1 (Nat.le_of_ble_eq_true he) ht hk
theorem Af {y : Operand} {tx e' : TypeId} {e m : Nat} {b : QG} {tt : TE} {mu : Bool} (hm : y ∈ o.op.operands.toList) (hy : Zj y = true) (h1 : st.ev y = .c (.sl b 0 m)) (hb : st.h b = some (.row e (L.map f) mu)) (hl : (L.map f).length = m) (ht : Zt T.ty tx = some tt) (hk : tt.kd = .slice e') : CW E N P ops o st [b] tx e y f L := by
  have := BZ (E := E) (N := N) (P := P) (ops := ops) hm hy h1 hb ht hk
  rw [List.drop_zero, ← hl, List.take_length] at this
  exact this
theorem Uj {x y : Operand} {t tx el : TypeId} {te tt : TE} {e m by' : Nat} {b : QG} {rb : List QG} (hby : (L.length + L'.length) * by' ≤ 140737488355328) (hx : st.ev x = .c (.sl b 0 m)) (hcx : Zj x = true) (hb : st.h b = some (.row e (L.map f) true)) (hm : (L.map f).length = m) (ht : Zt T.ty t = some tt) (hk : tt.kd = .slice el) (hel : Zt T.ty el = some te) (hes : te.size = e) (hbt : te.bytes = by') (hpos : Nat.blt 0 by' = true) (hz : te.zero.cells.size = e)
    (hsrc : CW E N P ops ⟨some d, .call { callee := .builtin .append, args := #[x, y], argTypes := #[t, tx] }, ty, pos, af, gd⟩ st rb tx e y f L') :
    ZY E N P ops ⟨some d, .call { callee := .builtin .append, args := #[x, y], argTypes := #[t, tx] }, ty, pos, af, gd⟩ st ⟨b :: rb, [(d, 0)]⟩ ⟨.c (.sl (d, 0) 0 ((L ++ L').map f).length), [((d, 0), some (.row e ((L ++ L').map f) true)), (b, none)]⟩ := by
  have hb2 : L.length + L'.length ≤ 140737488355328 := Nat.le_trans (Nat.le_mul_of_pos_right _ (Nat.le_of_ble_eq_true hpos)) hby
  exact UJ hx hcx hb hm ht hk hel hes hz hsrc (List.map_append).symm (by rw [← hm]; simp) (by simpa using hb2) (by rw [hbt]; simpa using hby)
theorem YJ {x : Operand} {s t e : TypeId} {ts te tt : TE} {l : List Int} (h1 : st.ev x = .c (.p (.l 1 (l.map (eI .u8))))) (hs : Zt T.ty s = some ts) (hsk : ts.kd = .slice e) (he : Zt T.ty e = some te) (hek : te.kd = .int .u8) (ht : Zt T.ty t = some tt) (htk : tt.kd = .string) (hx : Zj x = true) :
    ZY E N P ops ⟨some d, .convert s t x, ty, pos, af, gd⟩ st ⟨[], []⟩ ⟨.c (.p (.v (.string (strOfNums l)))), []⟩ := Ww h1 rfl hs hsk he hek ht htk hx
theorem Ag {n : Nat} {x : α} : (L.map f).set n (f x) = (L.set n x).map f := by rw [List.map_set]
theorem KP {n : Nat} {x y : α} (h : L[n]? = some y) : (L.set n x)[n]? = some x := by
  rw [List.getElem?_set, if_pos rfl, if_pos (List.getElem?_eq_some_iff.1 h).1]
theorem Yl {x y : Operand} {t : TypeId} {te : TE} {b : QG} {i k e : Nat} {x0 x1 : α} {ps : List PV} {v : TV} {dst : Option Nat} (hi : L[i]? = some x0) (hx : st.ev x = .c (.ptr b i k)) (hb : st.h b = some (.row e (L.map f) true)) (hv : st.ev y = v) (hk : v.known = true) (hps : pvs v.cells = some ps)
    (ht : Zt T.ty t = some te) (hsz : ps.length = te.size) (hin : Nat.ble (k + ps.length) e = true) (hr' : setAt (f x0) k ps = f x1) (hcx : Zj x = true) (hcy : Zj y = true) :
    ZY E N P ops ⟨dst, .store t x y, ty, pos, af, gd⟩ st ⟨[b], []⟩ ⟨.c .any, [(b, some (.row e ((L.set i x1).map f) true))]⟩ :=
  YZ hx hb (gm hi) hv hk (UM hps) ht hsz (Nat.le_of_ble_eq_true hin) hr' Ag hcx hcy
end
theorem QO {α : Type} {l : List α} {n : Nat} (h : l.length = n) : (l.drop 0).take n = l := by subst h; simp
theorem Zh {st : St} {g : Bool} {t : TV} {x : AV} {bs : List QG} (hg : g = true) (h : ToA st t x bs) : ToA st (gt g t) x bs := by rw [Q8 hg]; exact h
theorem Jb {a b : Bool} : (a && (b == true)) = (a && b) := by cases b <;> simp
theorem Ko {a b : Bool} : (a && (b == false)) = (a && !b) := by cases b <;> simp
theorem WI {a b : Bool} (h : a = true) : (b == true) = (a && b) := by subst h; cases b <;> rfl
theorem YK {a b : Bool} (h : a = true) : (b == false) = (a && !b) := by subst h; cases b <;> rfl
theorem KQ {x y : Operand} {ats : Array TypeId} : y ∈ (Op.call { callee := .builtin .append, args := #[x, y], argTypes := ats }).operands.toList := by simp [Op.operands, Call.operands]
def eL {α : Type} (e : Nat) (f : α → List PV) (l : List α) : List PV := [.l e (l.map f)]
theorem nl_eI {k : IntKind} (n : Int) : (eI k n).all Cv = true := rfl
theorem Cb {α : Type} {f : α → List PV} (h : ∀ x, (f x).all Cv = true) {L : List α} : ∀ r ∈ L.map f, ∀ p ∈ r, Cv p = true := by
  intro r hr p hp
  obtain ⟨x, _, rfl⟩ := List.mem_map.1 hr
  exact List.all_eq_true.1 (h x) p hp
inductive CX : RV → Prop
  | p {x : PV} (h : Cv x = true) : CX (.p x)
  | o {e : Nat} {rows : List (List PV)} (h : ∀ r ∈ rows, ∀ p ∈ r, Cv p = true) : CX (.own e rows)
inductive W2 : List RV → Prop
  | nil : W2 []
  | cons {x : RV} {l : List RV} (h : CX x) (hs : W2 l) : W2 (x :: l)
theorem CY {cs : List RV} (h : W2 cs) : NoLs cs := by
  induction h with
  | nil => exact fun x hx => by cases hx
  | cons h hs ih =>
    intro x hx
    rcases List.mem_cons.1 hx with rfl | hx
    · cases h with
      | p h => exact h
      | o h => exact h
    · exact ih x hx
section
variable {P : Program} {T : Tb P} {st : St} {k0 : Nat}
theorem W0.p {x : PV} (h : st.g k0 = .c (.p x)) : W0 T st (.tmp k0) (.c (.p x)) := .tmpc h (by simp)
theorem W0.s {b : QG} {off n : Nat} (h : st.g k0 = .c (.sl b off n)) : W0 T st (.tmp k0) (.c (.sl b off n)) := .tmpc h (by simp)
end
section
variable {α : Type} {f : α → List PV} {L L' : List α} {E : En} {N : Nat} {P : Program} {T : Tb P} {ops : Array Oper} {o : Oper} {st : St} {d : Nat} {ty : Nat} {pos : String} {af : Array Edge} {gd : Option (Nat × Bool)} {cx : Cx} {a : Act} {w w' : World} {fr : List (Nat × TV)} {H : List (QG × Option Bk)}
theorem Qy {f : FuncId} {xs : Array Operand} {tys : Array TypeId} {avs : List AV} {r : List RS} {t : TV} (hcon : Qz P f avs r []) (hn : avs.any AV.isRef = false) (hok : xs.toList.all Zj = true) (hargs : W1 st (xs.toList.map st.ev) avs []) (hids : (XZ d 0 (QY r)).map (·.1) = []) (hbl : XZ d 0 (QY r) ++ X8 st [] = []) (ht : AN d r = t) :
    ZY E N P ops ⟨some d, .call { callee := .value (.func f), args := xs, argTypes := tys }, ty, pos, af, gd⟩ st ⟨[], []⟩ ⟨t, []⟩ := QK hcon hn hok hargs hids hbl ht
theorem Br {xt yt : TypeId} {x y : Operand} {b c : Bool} {te : TE} (h1 : st.ev x = .c (.p (.v (.bool b)))) (h2 : st.ev y = .c (.p (.v (.bool c)))) (ht : Zt T.ty xt = some te) (hk : te.kd = .bool) (hx : Zj x = true) (hy : Zj y = true) :
    ZY E N P ops ⟨some d, .binOp .eql xt x y yt, ty, pos, af, gd⟩ st ⟨[], []⟩ ⟨.c (.p (.v (.bool (b == c)))), []⟩ :=
  QX fun st' cx a' w ha hr => by
    obtain ⟨e1, w1⟩ := WX h1 hx ha (by simp [Op.operands]) hr
    obtain ⟨e2, w2⟩ := WX h2 hy ha (by simp [Op.operands]) hr
    obtain ⟨dd, i, g1, g2, g3, g4, g5, g6⟩ := Ja (T.ok _ _ ht)
    have hu : P.underlying xt = some .bool := by rw [g1]; rw [hk] at g3; cases dd <;> simp_all [Ws]
    refine ⟨.bool (b == c), ?_, .inr rfl, .v _ rfl⟩
    simp only [execOp, e1, e2, Sem.run_bind, VM, Result.andThen_ok, binOp, Op.equal, Op.maxDepth, run_equalIn_bool' w _ _ _ _ hu, Sem.run_pure]
theorem Bs {xt yt : TypeId} {x y : Operand} {b c : Bool} {te : TE} (h1 : st.ev x = .c (.p (.v (.bool b)))) (h2 : st.ev y = .c (.p (.v (.bool c)))) (ht : Zt T.ty xt = some te) (hk : te.kd = .bool) (hx : Zj x = true) (hy : Zj y = true) :
    ZY E N P ops ⟨some d, .binOp .neq xt x y yt, ty, pos, af, gd⟩ st ⟨[], []⟩ ⟨.c (.p (.v (.bool (!(b == c))))), []⟩ :=
  QX fun st' cx a' w ha hr => by
    obtain ⟨e1, w1⟩ := WX h1 hx ha (by simp [Op.operands]) hr
    obtain ⟨e2, w2⟩ := WX h2 hy ha (by simp [Op.operands]) hr
    obtain ⟨dd, i, g1, g2, g3, g4, g5, g6⟩ := Ja (T.ok _ _ ht)
    have hu : P.underlying xt = some .bool := by rw [g1]; rw [hk] at g3; cases dd <;> simp_all [Ws]
    refine ⟨.bool (!(b == c)), ?_, .inr rfl, .v _ rfl⟩
    simp only [execOp, e1, e2, Sem.run_bind, VM, Result.andThen_ok, binOp, Op.equal, Op.maxDepth, run_equalIn_bool' w _ _ _ _ hu, Sem.run_pure]
def Xt (P : Program) : Nat → List Field → List Value → List Value → Bool
  | _, [], [], [] => true
  | i, f :: fs, x :: xs, y :: ys => f.name != "_" && Nat.beq f.offset i && (match P.underlying f.type, x, y with
    | some (.int _), .int k _, .int k' _ => decide (k = k')
    | some .bool, .bool _, .bool _ => true
    | some .string, .string _, .string _ => true
    | _, _, _ => false) && Xt P (i + 1) fs xs ys
  | _, _, _, _ => false
def Ah (P : Program) (t : TypeId) (xs ys : List Value) : Bool := match P.underlying t with
  | some (.struct fs) => Xt P 0 fs.toList xs ys && !P.stoodInHeld t && !P.eqGuardType P.depth t
  | _ => false
def UP : TypeDesc → Bool
  | .int _ | .bool | .string => true
  | _ => false
theorem Wn {e : TypeId} {dsc : TypeDesc} (hu : P.underlying e = some dsc) (ha : UP dsc = true) {xs : Array Value} {i : Nat} {v : Value} (hx : xs[i]? = some v) : (part e xs i).run P w = .ok v w := by
  cases dsc <;> simp [UP] at ha <;> simp [part, isAgg, run_underlying hu, hx]
theorem WJ {xs ys : Array Value} : ∀ (fs : List Field) (i : Nat) (us vs : List Value), Xt P i fs us vs = true → xs.toList.drop i = us → ys.toList.drop i = vs → (Op.eqFields 9999 xs ys fs).run P w = .ok (UO us vs) w := by
  intro fs
  induction fs with
  | nil =>
    intro i us vs h h1 h2
    cases us <;> cases vs <;> simp [Xt] at h
    simp [Op.eqFields, UO, Sem.run_pure]
  | cons f fs ih =>
    intro i us vs h h1 h2
    cases us with
    | nil => simp [Xt] at h
    | cons u us =>
      cases vs with
      | nil => simp [Xt] at h
      | cons v vs =>
        simp only [Xt, Bool.and_eq_true] at h
        obtain ⟨⟨⟨hn, hi⟩, hk⟩, hr⟩ := h
        have hi := Nat.eq_of_beq_eq_true hi
        have hu : xs[i]? = some u := by have := congrArg (·[0]?) h1; simpa [List.getElem?_drop] using this
        have hv : ys[i]? = some v := by have := congrArg (·[0]?) h2; simpa [List.getElem?_drop] using this
        have h1' : xs.toList.drop (i + 1) = us := by rw [← List.drop_drop, h1]; rfl
        have h2' : ys.toList.drop (i + 1) = vs := by rw [← List.drop_drop, h2]; rfl
        have hih := ih (i + 1) us vs hr h1' h2'
        have hne : f.name ≠ "_" := by simpa using hn
        have key : ∃ dsc, P.underlying f.type = some dsc ∧ UP dsc = true ∧ (Op.equalIn 9999 f.type u v).run P w = .ok (eqV u v) w := by
          split at hk
          · rename_i k0 k a k' b hd
            have := of_decide_eq_true hk; subst this
            exact ⟨_, hd, rfl, run_equalIn_int w 9998 _ _ _ _ _ hd⟩
          · rename_i a b hd
            exact ⟨_, hd, rfl, run_equalIn_bool' w 9998 _ _ _ hd⟩
          · rename_i a b hd
            exact ⟨_, hd, rfl, run_equalIn_string w 9998 _ _ _ hd⟩
          · cases hk
        obtain ⟨dsc, hd, ha, he⟩ := key
        simp only [Op.eqFields, if_pos hne, Sem.run_bind, hi, Wn hd ha hu, Wn hd ha hv, Result.andThen_ok, he, UO]
        cases heq : eqV u v
        · simp [Sem.run_pure]
        · simp [hih]
theorem Ai {t : TypeId} {us vs : List Value} (h : Ah P t us vs = true) : (Op.equalIn 10000 t (.agg us.toArray) (.agg vs.toArray)).run P w = .ok (UO us vs) w ∧ P.eqGuardType P.depth t = false := by
  unfold Ah at h
  split at h
  · rename_i fs hu
    simp only [Bool.and_eq_true, Bool.not_eq_true'] at h
    obtain ⟨⟨h1, h2⟩, h3⟩ := h
    have hfo : P.fieldsOf t = fs := by unfold Program.fieldsOf; rw [hu]
    refine ⟨?_, h3⟩
    rw [run_equalIn_struct w 9999 t _ _ (by rw [hfo]; exact hu) h2, hfo]
    exact WJ fs.toList 0 us vs h1 rfl rfl
  · cases h
theorem XF {st' : St} {x : Operand} {us : List Value} {f : Fp} (hx : st.ev x = .agg (us.map fun v => .p (.v v))) (hc : Zj x = true) (ha : Agree ops o f st st') (hm : x ∈ o.op.operands.toList) (hr : Kb E N cx st' a w) : a.eval x = .agg us.toArray := by
  have := hr.ev hc
  rw [Zy ha hm, hx] at this
  obtain ⟨vs, h1, h2, h3⟩ := this
  rw [h1]
  have key : vs = us.toArray := by
    apply Array.ext_getElem?
    intro i
    cases hu : us[i]? with
    | none =>
      have h4 : us.length ≤ i := by simpa using hu
      rw [Array.getElem?_eq_none (by rw [h2]; simpa using h4), List.getElem?_toArray, hu]
    | some u =>
      obtain ⟨v, h5, h6, h7⟩ := h3 i (.p (.v u)) (by rw [List.getElem?_map, hu]; rfl)
      rw [h5, List.getElem?_toArray, hu]
      cases h7 with | v _ _ => rfl
  rw [key]
theorem UQ {xt yt : TypeId} {x y : Operand} {us vs : List Value} {c : Bool} {cx1 cy1 : List CV} (h1 : st.ev x = .agg cx1) (h2 : st.ev y = .agg cy1) (hf : Ah P xt us vs = true) (he : UO us vs = c) (hcx : cx1 = us.map fun v => .p (.v v)) (hcy : cy1 = vs.map fun v => .p (.v v)) (hx : Zj x = true) (hy : Zj y = true) (htr : true = true) :
    ZY E N P ops ⟨some d, .binOp .eql xt x y yt, ty, pos, af, gd⟩ st ⟨[], []⟩ ⟨.c (.p (.v (.bool c))), []⟩ :=
  QX fun st' cx a' w ha hr => by
    subst hcx hcy he
    have e1 := XF h1 hx ha (by simp [Op.operands]) hr
    have e2 := XF h2 hy ha (by simp [Op.operands]) hr
    obtain ⟨h3, h4⟩ := Ai (w := w) hf
    refine ⟨_, ?_, .inr rfl, .v _ rfl⟩
    simp only [execOp, e1, e2, Sem.run_bind, run_eqGuard_agg w _ _ _ _ _ _ h4, Result.andThen_ok, run_eql_struct, h3, Sem.run_pure]
theorem YL {xt yt : TypeId} {x y : Operand} {us vs : List Value} {c : Bool} {cx1 cy1 : List CV} (h1 : st.ev x = .agg cx1) (h2 : st.ev y = .agg cy1) (hf : Ah P xt us vs = true) (he : (!UO us vs) = c) (hcx : cx1 = us.map fun v => .p (.v v)) (hcy : cy1 = vs.map fun v => .p (.v v)) (hx : Zj x = true) (hy : Zj y = true) (htr : true = true) :
    ZY E N P ops ⟨some d, .binOp .neq xt x y yt, ty, pos, af, gd⟩ st ⟨[], []⟩ ⟨.c (.p (.v (.bool c))), []⟩ :=
  QX fun st' cx a' w ha hr => by
    subst hcx hcy he
    have e1 := XF h1 hx ha (by simp [Op.operands]) hr
    have e2 := XF h2 hy ha (by simp [Op.operands]) hr
    obtain ⟨h3, h4⟩ := Ai (w := w) hf
    refine ⟨_, ?_, .inr rfl, .v _ rfl⟩
    simp only [execOp, e1, e2, Sem.run_bind, run_eqGuard_agg w _ _ _ _ _ _ h4, Result.andThen_ok, run_neq_struct, h3, Sem.run_pure]
end
inductive Cr (st : St) : CV → PV → Prop
  | k (x : PV) : Cr st (.p x) x
  | nil (e : Nat) : Cr st (.p (.v (.slice none 0 0))) (.l e [])
  | fr {b : QG} {e off n : Nat} {rows rows' : List (List PV)} (hb : st.h b = some (.row e rows false)) (hr : (rows.drop off).take n = rows') : Cr st (.sl b off n) (.l e rows')
inductive WK (st : St) : List CV → List PV → Prop
  | nil : WK st [] []
  | cons {c : CV} {x : PV} {cs : List CV} {xs : List PV} (h : Cr st c x) (hs : WK st cs xs) : WK st (c :: cs) (x :: xs)
theorem WK.agree {st st' : St} {cs : List CV} {xs : List PV} (h : WK st cs xs) (ha : ∀ b ∈ Jl cs, st'.h b = st.h b) : WK st' cs xs := by
  induction h with
  | nil => exact .nil
  | @cons c x cs xs h hs ih =>
    have h1 : ∀ b ∈ c.ment, st'.h b = st.h b := fun b hb => ha b (by unfold Jl; rw [List.flatMap_cons]; exact List.mem_append_left _ hb)
    refine .cons ?_ (ih fun b hb => ha b (by unfold Jl at hb ⊢; rw [List.flatMap_cons]; exact List.mem_append_right _ hb))
    cases h with
    | k => exact .k _
    | nil e => exact .nil e
    | @fr b e off n rows rows' hb hr => exact .fr (by rw [h1 b (by simp [CV.ment])]; exact hb) hr
theorem WK.cts {st : St} {cs : List CV} {xs : List PV} (h : WK st cs xs) : AG st cs (xs.map .p) := by
  induction h with
  | nil => exact .nil
  | cons h hs ih =>
    refine .cons ?_ ih
    cases h with
    | k => exact .k _
    | nil e => exact .nil e
    | fr hb hr => exact .fr hb hr
section
variable {E : En} {N : Nat} {P : Program} {T : Tb P} {ops : Array Oper} {o : Oper} {st : St} {d : Nat} {ty : Nat} {pos : String} {af : Array Edge} {gd : Option (Nat × Bool)} {cx : Cx} {a : Act} {w w' : World}
theorem UR {cs : List CV} {xs : List PV} {vs : Array Value} (hr : Kb E N cx st a w) (h : WK st cs xs) (hc : RL cx w st.h cs vs) : RL cx w st.h (xs.map .p) vs := CS hr h.cts hc
theorem Ym {parts : Array (Nat × Operand)} {t e n sz : Nat} {tt te : TE} {zs : List Value} {cs : List CV} {ps : List PV} {rows : List (List PV)} (ht : Zt T.ty t = some tt) (hk : tt.kd = .slice e) (hel : Zt T.ty e = some te) (hsz : te.size = sz) (hpos : Nat.blt 0 (n * sz) = true) (hsm : Nat.ble (n * sz) 16777216 = true)
    (hz : te.zero.cells.toList = zs) (hat : zs.all KI = true) (hf : Wm (fun i => some (i * sz, sz)) ((List.range (n * sz)).map fun i => .p (.v (zs.getD (i % zs.length) undef))) (parts.toList.map fun x => (x.1, st.ev x.2)) = some cs) (hct : WK st cs ps) (hrows : VN sz n ps = rows)
    (hzl : zs.length = sz) (hok : parts.toList.all (fun x => Zj x.2) = true) :
    ZY E N P ops ⟨some d, .buildSlice t n parts, ty, pos, af, gd⟩ st ⟨Jl cs, [(d, 0)]⟩ ⟨.c (.sl (d, 0) 0 n), [((d, 0), some (.row sz rows true))]⟩ := by
  intro st' ha hfr hd cx a w Q hr
  have hpos := Nat.le_of_ble_eq_true hpos
  have hsm := Nat.le_of_ble_eq_true hsm
  have hn0 : 0 < n := Nat.pos_of_ne_zero (fun h => by rw [h] at hpos; omega)
  have hsz0 : 0 < sz := Nat.pos_of_ne_zero (fun h => by rw [h] at hpos; omega)
  have hu := ZH ht hk
  obtain ⟨dd', i', h1', h2', h3', h4', h5', h6'⟩ := Ja (T.ok _ _ hel)
  have hm : ∀ x ∈ parts.toList, x.2 ∈ (Op.buildSlice t n parts).operands.toList := fun x hx => by
    simp only [Op.operands, Array.toList_map, List.mem_map]; exact ⟨x, hx, rfl⟩
  have hz0 : RL cx w st'.h ((List.range (n * sz)).map fun i => .p (.v (zs.getD (i % zs.length) undef))) ((Array.range (n * te.size)).map (te.zero.cells[· % te.zero.cells.size]!)) := by
    have hzs : te.zero.cells.size = sz := by rw [← hzl, ← hz]; simp
    refine ⟨by simp [hsz], fun i c hi => ?_⟩
    rw [List.getElem?_map, Option.map_eq_some_iff] at hi
    obtain ⟨j, hj, rfl⟩ := hi
    have hil : i < n * sz := by simpa using (List.getElem?_eq_some_iff.1 hj).1
    rw [List.getElem?_range hil] at hj
    cases hj
    have hmod : i % sz < sz := Nat.mod_lt _ hsz0
    have hat' : KI (zs.getD (i % zs.length) undef) = true := by
      rw [hzl, List.getD_eq_getElem?_getD, List.getElem?_eq_getElem (by omega)]
      exact List.all_eq_true.1 hat _ (List.getElem_mem _)
    refine ⟨zs.getD (i % zs.length) undef, ?_, Kv hat', .v _ hat'⟩
    rw [Array.getElem?_map, Array.getElem?_range, hsz, if_pos hil, Option.map_some, hzs, hzl]
    congr 1
    have hbd : i % sz < te.zero.cells.size := by rw [hzs]; exact hmod
    have hg : zs[i % sz]? = some (te.zero.cells[i % sz]'hbd) := by rw [← hz, Array.getElem?_toList, Array.getElem?_eq_getElem]
    rw [getElem!_pos te.zero.cells _ hbd, List.getD_eq_getElem?_getD, hg]
    rfl
  obtain ⟨cells', h7, h8⟩ := YH (cx := cx) (w := w) (h := st'.h) hf hz0 (vs := (parts.map fun (i, x) => (i, a.eval x)).toList) (by simp) (Y2 hr ha (fun x hx => hm x hx) hok)
  replace h8 := UR hr (hct.agree ha.2) h8
  have hlen : cells'.size = n * sz := by
    rw [Y3 h7]; simp [hsz]
  have hpl : ps.length = n * sz := by
    have := h8.1; rw [List.length_map] at this; omega
  obtain ⟨c1, c2, c3⟩ := Xs sz n ps hpl
  rw [hrows] at c1 c2 c3
  have hrun := run_buildSlice (P := P) w t e n (parts.map fun (i, x) => (i, a.eval x)) cells' i' te.zero hu h2' h6' (by rw [h4', hsz]; omega) (by rw [h4', hsz]; omega) (by rw [h4', hsz]; rw [hsz] at h7; exact h7)
  refine Jx (v := .slice (some ⟨w.heap.size, 0, none⟩) n n) (w' := w.alloc (.cells cells' e)) (by simp only [execOp, Sem.run_bind, hrun]; rfl) ⟨_, JR (w' := w.alloc (.cells cells' e)) (bk := .row sz rows true) (t := .c (.sl (d, 0) 0 n)) hr hd (b := (d, 0)) (hd d rfl) (hfr (d, 0) (by simp)) (ob := .cells cells' e) rfl rfl rfl rfl ?_ ?_⟩
  · refine ⟨hsz0, c2, ?_⟩
    simp only [Cx.upd, if_true]
    refine ⟨trivial, cells', e, (0, 0), n, KJ rfl, fun _ => ⟨rfl, fun h => ?_⟩, (fun h => by cases h), hlen, by omega, by unfold maxLen; have := Nat.le_mul_of_pos_right n hsz0; omega, fun i r k p hi hk => ?_⟩
    · have := (hr.A _ h).1; omega
    · have hp := c3 i r k p hi hk
      obtain ⟨u, hu, h9, h10⟩ := h8.2 (i * sz + k) (.p p) (by rw [List.getElem?_map, hp]; rfl)
      exact ⟨u, by simpa using hu, RP.keeps h10 (fun _ h => h) (KT rfl)⟩
  · refine ⟨.inr rfl, fun bk hbk => ?_⟩
    rw [JH, if_pos rfl] at hbk
    cases hbk
    refine ⟨_, n, rfl, Nat.le_refl _, by unfold maxLen; have := Nat.le_mul_of_pos_right n hsz0; omega, by simp [Bk.len, c1], .inr ⟨w.heap.size, cells', e, (0, 0), by simp [Cx.upd], by simp [Bk.e], KJ rfl, fun _ => by simp [Bk.e, hlen]⟩⟩
theorem YM {x y : Operand} {t : TypeId} {te : TE} {b : QG} {i k e : Nat} {rows rows' : List (List PV)} {r r' ps : List PV} {v : TV} {dst : Option Nat} (hx : st.ev x = .c (.ptr b i k)) (hb : st.h b = some (.row e rows true)) (hi : rows[i]? = some r) (hv : st.ev y = v) (hk : v.known = true) (hct : WK st v.cells ps)
    (ht : Zt T.ty t = some te) (hsz : ps.length = te.size) (hin : k + ps.length ≤ e) (hr' : setAt r k ps = r') (hrows : rows.set i r' = rows') (hcx : Zj x = true) (hcy : Zj y = true) :
    ZY E N P ops ⟨dst, .store t x y, ty, pos, af, gd⟩ st ⟨b :: Jl v.cells, []⟩ ⟨.c .any, [(b, some (.row e rows' true))]⟩ := by
  intro st' ha hf hd cx a w Q hr
  have he := hr.ev hcy
  rw [Zy ha (by simp [Op.operands]), hv] at he
  have hrl := Vm hk he
  replace hrl := UR hr (hct.agree fun b' hb' => ha.2 b' (List.mem_cons_of_mem _ hb')) hrl
  obtain ⟨-, h4⟩ := WY hx hcx ha (by simp [Op.operands]) hr
  have hb' : st'.h b = some (.row e rows true) := by rw [ha.2 b (by simp)]; exact hb
  obtain ⟨g, q, h5, h6⟩ := h4 _ hb'
  have hbl := hr.bl b _ hb'
  obtain ⟨h7, h8, h9⟩ := hbl
  rw [h5] at h9
  obtain ⟨rfl, c, el, fz, capR, h10, h11, h12, h13, h14, h15, h16⟩ := h9
  obtain ⟨rfl, hnA⟩ := h11 rfl
  have hil := (List.getElem?_eq_some_iff.1 hi).1
  have hrl2 := h8 r (List.mem_of_getElem? hi)
  have h6' : a.eval x = .pointer (some ⟨g, i * e + k, none⟩) := by simpa [Bk.e] using h6
  have hcl : (a.eval y).cells.size = ps.length := by have := hrl.1; simpa using this
  have hbig : i * e + e ≤ c.size := by
    have : (i + 1) * e ≤ capR * e := Nat.mul_le_mul_right e (by omega)
    rw [Nat.add_mul] at this
    omega
  have hrun := Vt (w := w) (g := g) (q := i * e + k) (u := a.eval y) ht (by rw [hcl, hsz]) h10 (by omega) (UG hrl)
  obtain ⟨c2, hc2⟩ : ∃ c2, c2 = (c.toList.take (i * e + k) ++ (a.eval y).cells.toList ++ c.toList.drop (i * e + k + (a.eval y).cells.size)).toArray := ⟨_, rfl⟩
  rw [← hc2] at hrun
  have hlen : c2.size = c.size := by rw [hc2]; simp; omega
  refine upon_skip (w' := w.setRow g c2) (by simp only [execOp, h6', Sem.run_bind, Instr.storeAt, Instr.sureAddr, Sem.run_pure, Result.andThen_ok, hrun]) ⟨cx, ?_⟩
  have hkeep : Ke cx.A w (w.setRow g c2) := ⟨by simp, fun g' hA _ => setRow_other w g g' c2 (fun e => hnA (e ▸ hA))⟩
  have hr'l : r'.length = e := by rw [← hr', X1 r k ps (by omega)]; exact hrl2
  refine Xp (t := .c .any) (bk' := .row e rows' true) hr hd hb' rfl (by simp [Bk.len, ← hrows]) h5 hnA h10 rfl hlen ⟨h7, ?_, ?_⟩ ⟨.inl rfl, trivial⟩
  · intro r2 hr2
    rw [← hrows] at hr2
    rcases List.mem_or_eq_of_mem_set hr2 with h | h
    · exact h8 r2 h
    · rw [h]; exact hr'l
  · rw [h5]
    refine ⟨rfl, c2, el, (0, 0), capR, setRow_heap w g c c2 el _ h10, fun _ => ⟨rfl, hnA⟩, (fun h => by cases h), by rw [hlen]; exact h13, by rw [← hrows]; simpa using h14, h15, fun i2 r2 k2 p2 hi2 hk2 => ?_⟩
    have hidx : ∀ j, c2[j]? = if j < i * e + k ∨ i * e + k + ps.length ≤ j then c[j]? else (a.eval y).cells[j - (i * e + k)]? := by
      intro j
      have h17 := JS c.toList (i * e + k) (a.eval y).cells.toList (by simp; omega)
      rw [hc2, show i * e + k + (a.eval y).cells.size = i * e + k + (a.eval y).cells.toList.length by simp, ← h17, List.getElem?_toArray, JU _ _ _ (by simp; omega)]
      simp only [Array.length_toList, hcl, Array.getElem?_toList]
    have hk2l : k2 < e := by
      have h1 := (List.getElem?_eq_some_iff.1 hk2).1
      have : r2.length = e := by
        rw [← hrows] at hi2
        rcases List.mem_or_eq_of_mem_set (List.mem_of_getElem? hi2) with h | h
        · exact h8 r2 h
        · rw [h]; exact hr'l
      omega
    rw [← hrows, List.getElem?_set] at hi2
    rw [hidx]
    by_cases e1 : i = i2
    · rw [if_pos e1, if_pos hil] at hi2
      cases hi2
      subst e1
      rw [← hr', JU r k ps (by omega)] at hk2
      by_cases h17 : k2 < k ∨ k + ps.length ≤ k2
      · rw [if_pos h17] at hk2
        rw [if_pos (by omega)]
        obtain ⟨cv, h18, h19⟩ := h16 i r k2 p2 hi hk2
        exact ⟨cv, h18, h19.keeps (fun _ h => h) hkeep⟩
      · rw [if_neg h17] at hk2
        rw [if_neg (by omega)]
        obtain ⟨u, h18, h19, h20⟩ := hrl.2 (k2 - k) (.p p2) (by rw [List.getElem?_map, hk2]; rfl)
        refine ⟨u, ?_, RP.keeps h20 (fun _ h => h) hkeep⟩
        rw [← h18]
        congr 1
        omega
    · rw [if_neg e1] at hi2
      have hi2l := (List.getElem?_eq_some_iff.1 hi2).1
      have hout : i2 * e + k2 < i * e + k ∨ i * e + k + ps.length ≤ i2 * e + k2 := by
        rcases Nat.lt_or_gt_of_ne e1 with h | h
        · right
          have : (i + 1) * e ≤ i2 * e := Nat.mul_le_mul_right e h
          rw [Nat.add_mul] at this
          omega
        · left
          have : (i2 + 1) * e ≤ i * e := Nat.mul_le_mul_right e h
          rw [Nat.add_mul] at this
          omega
      rw [if_pos hout]
      obtain ⟨cv, h18, h19⟩ := h16 i2 r2 k2 p2 hi2 hk2
      exact ⟨cv, h18, h19.keeps (fun _ h => h) hkeep⟩
theorem XG {α : Type} {f : α → List PV} {L : List α} {x y : Operand} {t : TypeId} {te : TE} {b : QG} {i k e : Nat} {x0 x1 : α} {ps : List PV} {v : TV} {dst : Option Nat} (hi : L[i]? = some x0) (hx : st.ev x = .c (.ptr b i k)) (hb : st.h b = some (.row e (L.map f) true)) (hv : st.ev y = v) (hk : v.known = true) (hct : WK st v.cells ps)
    (ht : Zt T.ty t = some te) (hsz : ps.length = te.size) (hin : Nat.ble (k + ps.length) e = true) (hr' : setAt (f x0) k ps = f x1) (hcx : Zj x = true) (hcy : Zj y = true) :
    ZY E N P ops ⟨dst, .store t x y, ty, pos, af, gd⟩ st ⟨b :: Jl v.cells, []⟩ ⟨.c .any, [(b, some (.row e ((L.set i x1).map f) true))]⟩ :=
  YM hx hb (gm hi) hv hk hct ht hsz (Nat.le_of_ble_eq_true hin) hr' Ag hcx hcy
theorem Bt {α : Type} {f : α → List PV} {z : α} {x y : Operand} {t el e by' : Nat} {tt te : TE} {k k' : IntKind} {n : Int} {zs : List Value} (hn : 0 ≤ n ∧ n * (by' : Nat) ≤ 140737488355328) (h1 : st.ev x = .c (.p (.v (.int k n)))) (h2 : st.ev y = .c (.p (.v (.int k' n)))) (ht : Zt T.ty t = some tt) (hk : tt.kd = .slice el) (hel : Zt T.ty el = some te) (hes : te.size = e) (hbt : te.bytes = by') (hpos : (Nat.blt 0 by' && Nat.blt 0 e) = true) (hz : te.zero.cells.toList = zs)
    (hct : WK (⟨[], []⟩ : St) (zs.map fun v => .p (.v v)) (f z)) (hat : zs.all KI = true) (hok : (Zj x && Zj y && Nat.beq zs.length e) = true) :
    ZY E N P ops ⟨some d, .makeSlice t x y, ty, pos, af, gd⟩ st ⟨[], [(d, 0)]⟩ ⟨.c (.sl (d, 0) 0 ((List.replicate n.toNat z).map f).length), [((d, 0), some (.row e ((List.replicate n.toNat z).map f) true))]⟩ := by
  intro st' ha hfr hd cx a w Q hr
  simp only [Bool.and_eq_true] at hok hpos
  have he0 : 0 < e := Nat.le_of_ble_eq_true hpos.2
  have hb0 : 0 < by' := Nat.le_of_ble_eq_true hpos.1
  have e1 := (WX h1 hok.1.1 ha (by simp [Op.operands]) hr).1
  have e2 := (WX h2 hok.1.2 ha (by simp [Op.operands]) hr).1
  obtain ⟨i, hi1, hi2, hi3, hi4⟩ := Wy hel
  have hzl : te.zero.cells.size = e := by have := Nat.eq_of_beq_eq_true hok.2; rw [← hz] at this; simpa using this
  have hnb : n ≤ 140737488355328 := by
    have h3 : n * 1 ≤ n * (by' : Nat) := Int.mul_le_mul_of_nonneg_left (by omega) hn.1
    omega
  have hrun := run_make (P := P) (w := w) t el i te.zero (ZH ht hk) hi1 hi4 k k' n n hn.1 (Int.le_refl _) (by rw [hi3, hbt, Int.mul_comm]; omega) (by omega)
  rw [hi2, hes] at hrun
  have hct' : WK st' (zs.map fun v => .p (.v v)) (f z) := by
    refine (WK.agree hct (fun b hb => ?_) : WK st' _ _)
    simp only [Jl, List.mem_flatMap, List.mem_map] at hb
    obtain ⟨c, ⟨y, _, rfl⟩, h2⟩ := hb
    simp [CV.ment] at h2
  have hrz := UR hr hct' (Ug (cx := cx) (w := w) (h := st'.h) hz hat)
  have hfl : (f z).length = e := by have := hrz.1; rw [List.length_map] at this; omega
  have hmk : ∀ (i : Nat) (r : List PV) (k : Nat) (p : PV), ((List.replicate n.toNat z).map f)[i]? = some r → r[k]? = some p → ∃ cv, (madeCells te.zero.cells (n.toNat * e))[i * e + k]? = some cv ∧ RP w cx.A p cv := by
    intro i r k p hi hk
    rw [List.getElem?_map, Option.map_eq_some_iff] at hi
    obtain ⟨z', hz', rfl⟩ := hi
    have hil : i < n.toNat := by have := (List.getElem?_eq_some_iff.1 hz').1; simpa using this
    have : z' = z := by have := List.mem_of_getElem? hz'; exact (List.mem_replicate.1 this).2
    subst this
    obtain ⟨u, hu, h3, h4⟩ := hrz.2 k (.p p) (by rw [List.getElem?_map, hk]; rfl)
    have hkl : k < e := by have := (List.getElem?_eq_some_iff.1 hk).1; omega
    refine ⟨u, ?_, h4⟩
    have hlt : i * e + k < n.toNat * e := by
      have : (i + 1) * e ≤ n.toNat * e := Nat.mul_le_mul_right e hil
      rw [Nat.add_mul] at this
      omega
    have hmod : (i * e + k) % e = k := by rw [Nat.mul_comm, Nat.mul_add_mod]; exact Nat.mod_eq_of_lt hkl
    unfold madeCells
    rw [Array.getElem?_map, Array.getElem?_range, if_pos hlt, Option.map_some, hzl, hmod, ← hu]
    have hb : k < te.zero.cells.size := by omega
    rw [getElem!_pos te.zero.cells _ hb, Array.getElem?_eq_getElem hb]
  have hsz : (madeCells te.zero.cells (n.toNat * e)).size = n.toNat * e := size_madeCells _ _
  have hlen : ((List.replicate n.toNat z).map f).length = n.toNat := by simp
  refine Jx (v := .slice (some ⟨w.heap.size, 0, none⟩) n.toNat n.toNat) (w' := w.alloc (.cells (madeCells te.zero.cells (n.toNat * e)) el)) (by simp only [execOp, e1, e2, Sem.run_bind, hrun]; rfl) ⟨_, JR (w' := w.alloc (.cells (madeCells te.zero.cells (n.toNat * e)) el)) (bk := .row e ((List.replicate n.toNat z).map f) true) (t := .c (.sl (d, 0) 0 ((List.replicate n.toNat z).map f).length)) hr hd (b := (d, 0)) (hd d rfl) (hfr (d, 0) (by simp)) (ob := .cells (madeCells te.zero.cells (n.toNat * e)) el) rfl rfl rfl rfl ?_ ?_⟩
  · refine ⟨he0, fun r hr' => ?_, ?_⟩
    · obtain ⟨z', hz', rfl⟩ := List.mem_map.1 hr'
      rw [(List.mem_replicate.1 hz').2]; exact hfl
    · simp only [Cx.upd, if_true]
      refine ⟨trivial, _, el, (0, 0), n.toNat, KJ rfl, fun _ => ⟨rfl, fun h => ?_⟩, (fun h => by cases h), hsz, by rw [hlen]; exact Nat.le_refl _, by unfold maxLen; omega, fun i r k p hi hk => ?_⟩
      · have := (hr.A _ h).1; omega
      · obtain ⟨cv, h3, h4⟩ := hmk i r k p hi hk
        exact ⟨cv, h3, RP.keeps h4 (fun _ h => h) (KT rfl)⟩
  · refine ⟨.inr rfl, fun bk hbk => ?_⟩
    rw [JH, if_pos rfl] at hbk
    cases hbk
    refine ⟨_, n.toNat, by rw [hlen], by rw [hlen]; exact Nat.le_refl _, by unfold maxLen; omega, by simp [Bk.len], .inr ⟨w.heap.size, _, el, (0, 0), by simp [Cx.upd], by simp [Bk.e], KJ rfl, fun _ => by simp [Bk.e, hsz]⟩⟩
theorem YN {op : Op} {f : Fp} {t : TV} {fr : List (Nat × TV)} {H : List (QG × Option Bk)} {bl : List (QG × Option Bk)} {r : List Oper} {acc : List (Fp × Ef)} {K : List (Fp × Ef) → St → Prop} (hw : wn ops ⟨none, op, ty, pos, af, gd⟩ ⟨fr, H⟩ = some true) (hop : ZY E N P ops ⟨none, op, ty, pos, af, gd⟩ ⟨fr, H⟩ f ⟨t, bl⟩) (h : Vl E N P ops r ((f, ⟨t, bl⟩) :: acc) ⟨fr, bl ++ H⟩ K) : Vl E N P ops (⟨none, op, ty, pos, af, gd⟩ :: r) acc ⟨fr, H⟩ K := ⟨f, ⟨t, bl⟩, .inl ⟨hw, hop⟩, h⟩
theorem Uk {α : Type} {f : α → List PV} {t e sz : Nat} {tt te : TE} (ht : Zt T.ty t = some tt) (hk : tt.kd = .slice e) (hel : Zt T.ty e = some te) (hsz : te.size = sz) (hpos : Nat.blt 0 sz = true) :
    ZY E N P ops ⟨some d, .buildSlice t 0 #[], ty, pos, af, gd⟩ st ⟨[], [(d, 0)]⟩ ⟨.c (.sl (d, 0) 0 (([] : List α).map f).length), [((d, 0), some (.row sz (([] : List α).map f) true))]⟩ := by
  intro st' ha hfr hd cx a w Q hr
  have hpos := Nat.le_of_ble_eq_true hpos
  obtain ⟨i, hi1, hi2, hi3, hi4⟩ := Wy hel
  have hrun : (Instr.buildSlice t 0 #[]).run P w = .ok (.slice (some ⟨w.heap.size, 0, none⟩) 0 0) (w.alloc (.cells #[] e)) := by
    simp [Instr.buildSlice, run_underlying (ZH ht hk), sizeOf, typeInfo, hi1, Instr.fill, newRow, Array.range_zero']
  refine Jx (v := .slice (some ⟨w.heap.size, 0, none⟩) 0 0) (w' := w.alloc (.cells #[] e)) (by simp only [execOp, Sem.run_bind]; rw [show (#[] : Array (Nat × Operand)).map (fun x => (x.fst, a.eval x.snd)) = #[] from by simp, hrun]; rfl) ⟨_, JR (w' := w.alloc (.cells #[] e)) (bk := .row sz [] true) (t := .c (.sl (d, 0) 0 0)) hr hd (b := (d, 0)) (hd d rfl) (hfr (d, 0) (by simp)) (ob := .cells #[] e) rfl rfl rfl rfl ?_ ?_⟩
  · refine ⟨hpos, by simp, ?_⟩
    simp only [Cx.upd, if_true]
    exact ⟨trivial, #[], e, (0, 0), 0, KJ rfl, fun _ => ⟨rfl, fun h => by have := (hr.A _ h).1; omega⟩, (fun h => by cases h), by simp, by simp, by unfold maxLen; omega, fun i r k p hi hk => by simp at hi⟩
  · refine ⟨.inr rfl, fun bk hbk => ?_⟩
    rw [JH, if_pos rfl] at hbk
    cases hbk
    exact ⟨_, 0, rfl, Nat.le_refl _, by unfold maxLen; omega, by simp [Bk.len], .inl rfl⟩
end
section
variable {E : En} {N : Nat} {P : Program} {Q : Exit → St → Prop} {st : St}
end
section
variable {P : Program} {w w' : World}
theorem Ul {A : Nat → Prop} {gs : Nat → Option Nat} {g q g' q' : Nat} (hg : w.grownBy w' none) (hA : ∀ x, A x → x < w.heap.size) : ∀ {avs : List AV} {vs : List Value}, avs.any AV.isRef = false → B8 w A gs g q avs vs → B8 w' A gs g' q' avs vs := by
  intro avs
  induction avs with
  | nil => intro vs _ h; cases vs with | nil => trivial | cons v vs => exact h.elim
  | cons a avs ih =>
    intro vs hn h
    cases vs with
    | nil => exact h.elim
    | cons v vs =>
      simp only [List.any_cons, Bool.or_eq_false_iff] at hn
      refine ⟨?_, ih hn.2 h.2⟩
      have hm : ∀ {p : PV} {u : Value}, RP w A p u → RP w' A p u := fun h => h.mono (fun _ h => h) hg.size (fun x hx hl => hg.block x hl (by simp))
      have hcs : ∀ {n : Nat} {xs : List PV} {us : List Value}, XY w A (fun _ => none) n (xs.map .p) us → XY w' A (fun _ => none) n (xs.map .p) us := by
        intro n xs
        induction xs generalizing n with
        | nil => intro us h; cases us with | nil => trivial | cons u us => exact h.elim
        | cons x xs ih2 =>
          intro us h
          cases us with
          | nil => exact h.elim
          | cons u us => exact ⟨h.1, hm h.2.1, ih2 h.2.2⟩
      cases a with
      | c x => exact hm h.1
      | agg xs => obtain ⟨us, h1, h2⟩ := h.1; exact ⟨us, h1, hcs h2⟩
      | ref cs => exact absurd hn.1 (by simp [AV.isRef])
theorem V7 {f : FuncId} {avs : List AV} {x : Value} {vs : Array Value} {A : Nat → Prop} {g q : Nat} (hc : Qz P f avs [.c (.p (.v x))] []) (hn : avs.any AV.isRef = false) (hA : ∀ x, A x → x < w.heap.size) (hR : B8 w A (fun _ => none) g q avs vs.toList) :
    Calls P f vs w fun e w' => e = .returned x ∧ w.grownBy w' none := by
  refine (hc.run A (fun _ => none) w.heap.size 0 w vs hA (fun n m x h => by cases h) (fun n x h => by cases h) (fun _ => ⟨fun _ => rfl, rfl⟩) (Ul ⟨rfl, rfl, rfl, Nat.le_refl _, fun _ _ _ => rfl⟩ hA hn hR)).mono ?_
  rintro e w' ⟨v, A', gs', h1, h2, h3, h4, h5, h6, h7, h8, h9, h10, h11, h12⟩
  have hv : v = x := by
    have := h11.2.1
    cases this with | v _ _ => rfl
  subst hv
  exact ⟨h1, h6, h7, h8, h4, fun k hk _ => h5 k hk (by omega) (fun n h => by cases h)⟩
theorem YO {f : FuncId} {avs : List AV} {x : Value} (he : B9 P f = true) (hx : KI x = true) (hn : avs.any AV.isRef = false) (h : ∀ A q w vs, (∀ x, A x → x < w.heap.size) → B8 w A (fun _ => none) w.heap.size q avs vs.toList → Calls P f vs w fun e w' => e = .returned x ∧ w.grownBy w' none) : Qz P f avs [.c (.p (.v x))] [] := by
  refine ⟨he, fun A gs g q w vs hA hinj hgs hg hR => ?_⟩
  obtain ⟨hg1, rfl⟩ := hg hn
  have e : gs = fun _ => none := funext hg1
  subst e
  refine (h A q w vs hA hR).mono ?_
  rintro _ w' ⟨rfl, hgr⟩
  exact ⟨x, A, fun _ => none, rfl, fun _ h => h, fun _ h => .inl h, hgr.size, fun y hy _ _ => hgr.block y hy (by simp), hgr.os, hgr.tape, hgr.output, fun n m y h => (by cases h), fun n y h => (by cases h), ⟨Kv hx, .v x hx, trivial⟩, fun h => by rw [hn] at h; cases h⟩
end
end Go.Proofs.Ytknonlnggohkoaa
namespace Go.Proofs.Ytknonlnggohkoaa
open Go.RowKit Go.ChangeShapes Go.WideShapes
theorem ret_b {x y : Bool} (h : x = y) : Ending.returned (.bool x) = .returned (.bool y) := by rw [h]
end Go.Proofs.Ytknonlnggohkoaa
namespace Go.Proofs.Ytknonlnggohkoaa
open Go.RowKit Go.ChangeShapes Go.WideShapes
theorem XH {σ : Type} {step : (σ → Prop) → σ → Prop} (I : Nat → σ → Prop) (h : ∀ k s, I k s → ∀ X : σ → Prop, (∀ k' s', k' < k → I k' s' → X s') → step X s) {k : Nat} {s : σ} (h0 : I k s) : lp step s := by
  intro X hX
  have key : ∀ k s, I k s → X s := by
    intro k
    induction k using Nat.strongRecOn with
    | _ k ih => exact fun s hs => hX s (h k s hs X fun k' s' hk hs' => ih k' hk s' hs')
  exact key k s h0
theorem Cy {α : Type} {l : List α} {n : Int} {j : Nat} {x : α} (hn : n = (j : Int)) (h : l[j]? = some x) : ix l n x := by
  subst hn; exact ⟨by omega, by simpa using h⟩
theorem bx_of {s : ByteArray} {n v : Int} {j : Nat} (hn : n = (j : Int)) (hj : j < s.size) (h : v = (s[j].toNat : Int)) : bx s n v := by
  subst hn; exact ⟨by omega, s[j], by simp [hj], h⟩
theorem Um {n : Int} (h : -9223372036854775808 ≤ n ∧ n ≤ 9223372036854775807) : IntKind.i64.wrap n = n := by rw [IntKind.wrap_i64]; omega
def wI (n lo hi : Int) : Bool := decide (lo ≤ n ∧ n ≤ hi)
def GM {R : Type} (G G' : (R → Prop) → Prop) : Prop := ∀ Post : R → Prop, G Post → ∃ r, G' (fun x => r = x) ∧ Post r
section
variable {R α σ : Type}
theorem GM.ret (e : R) : GM (fun Q => Q e) (fun Q => Q e) := fun Post h => ⟨e, rfl, h⟩
theorem GM.and {p : Prop} {G G' : (R → Prop) → Prop} (h : GM G G') : GM (fun Q => p ∧ G Q) (fun Q => p ∧ G' Q) := fun Post ⟨hp, hg⟩ => let ⟨r, h1, h2⟩ := h Post hg; ⟨r, ⟨hp, h1⟩, h2⟩
theorem GM.ex {p : α → Prop} {G G' : α → (R → Prop) → Prop} (h : ∀ a, GM (G a) (G' a)) : GM (fun Q => ∃ a, p a ∧ G a Q) (fun Q => ∃ a, p a ∧ G' a Q) := fun Post ⟨a, hp, hg⟩ => let ⟨r, h1, h2⟩ := h a Post hg; ⟨r, ⟨a, hp, h1⟩, h2⟩
theorem GM.cond {c : Bool} {A A' B B' : (R → Prop) → Prop} (h1 : GM A A') (h2 : GM B B') : GM (fun Q => (c = true → A Q) ∧ (c = false → B Q)) (fun Q => (c = true → A' Q) ∧ (c = false → B' Q)) := fun Post h => by
  cases c with
  | true => obtain ⟨r, h3, h4⟩ := h1 Post (h.1 rfl); exact ⟨r, ⟨fun _ => h3, (fun h => by cases h)⟩, h4⟩
  | false => obtain ⟨r, h3, h4⟩ := h2 Post (h.2 rfl); exact ⟨r, ⟨(fun h => by cases h), fun _ => h3⟩, h4⟩
theorem GM.loop {step step' : (σ → Prop) → σ → (R → Prop) → Prop} {s0 : σ} (hm : ∀ (X Y : σ → Prop) (Q : R → Prop) (s : σ), (∀ s, X s → Y s) → step' X s Q → step' Y s Q)
    (h : ∀ K K' : σ → (R → Prop) → Prop, (∀ s, GM (K s) (K' s)) → ∀ s, GM (fun Q => step (fun s => K s Q) s Q) (fun Q => step' (fun s => K' s Q) s Q)) :
    GM (fun Q => lp (fun (X : σ → Prop) (s : σ) => step X s Q) s0) (fun Q => lp (fun (X : σ → Prop) (s : σ) => step' X s Q) s0) := by
  intro Post hl
  have hl : lp (fun (X : σ → Prop) (s : σ) => step X s Post) s0 := hl
  refine hl (fun (s : σ) => ∃ r, lp (fun (X : σ → Prop) (s : σ) => step' X s (fun x => r = x)) s ∧ Post r) fun s hs => ?_
  obtain ⟨r, h1, h2⟩ := h (fun s Q => ∃ r, lp (fun (X : σ → Prop) (s : σ) => step' X s (fun x => r = x)) s ∧ Q r) (fun s Q => lp (fun (X : σ → Prop) (s : σ) => step' X s Q) s) (fun s P ⟨r, h1, h2⟩ => ⟨r, h1, h2⟩) s Post hs
  exact ⟨r, fun X hX => hX s (hm _ _ _ s (fun s' h' => h' X hX) h1), h2⟩
end
section
variable {E : En} {N : Nat} {P : Program} {T : Tb P} {ops : Array Oper} {o : Oper} {st : St} {r : List Oper} {acc : List (Fp × Ef)} {K : List (Fp × Ef) → St → Prop} {d : Nat} {ty : Nat} {pos : String} {af : Array Edge} {op : Op} {f : Fp} {t : TV} {fr : List (Nat × TV)} {H : List (QG × Option Bk)} {Q : Exit → St → Prop}
theorem u0 (hop : ZY E N P ops ⟨some d, op, ty, pos, af, none⟩ ⟨fr, H⟩ f ⟨t, []⟩) (h : Vl E N P ops r ((f, ⟨t, []⟩) :: acc) ⟨(d, t) :: fr, H⟩ K) : Vl E N P ops (⟨some d, op, ty, pos, af, none⟩ :: r) acc ⟨fr, H⟩ K := Wt rfl hop h
theorem u1 {b1 : QG × Option Bk} (hop : ZY E N P ops ⟨some d, op, ty, pos, af, none⟩ ⟨fr, H⟩ f ⟨t, [b1]⟩) (h : Vl E N P ops r ((f, ⟨t, [b1]⟩) :: acc) ⟨(d, t) :: fr, b1 :: H⟩ K) : Vl E N P ops (⟨some d, op, ty, pos, af, none⟩ :: r) acc ⟨fr, H⟩ K := BS rfl hop h
theorem un {b1 : QG × Option Bk} (hop : ZY E N P ops ⟨none, op, ty, pos, af, none⟩ ⟨fr, H⟩ f ⟨t, [b1]⟩) (h : Vl E N P ops r ((f, ⟨t, [b1]⟩) :: acc) ⟨fr, b1 :: H⟩ K) : Vl E N P ops (⟨none, op, ty, pos, af, none⟩ :: r) acc ⟨fr, H⟩ K := BU rfl hop h
theorem ul {bl : List (QG × Option Bk)} (hop : ZY E N P ops ⟨some d, op, ty, pos, af, none⟩ ⟨fr, H⟩ f ⟨t, bl⟩) (h : Vl E N P ops r ((f, ⟨t, bl⟩) :: acc) ⟨(d, t) :: fr, bl ++ H⟩ K) : Vl E N P ops (⟨some d, op, ty, pos, af, none⟩ :: r) acc ⟨fr, H⟩ K := Ca rfl hop h
theorem mv {k : Nat} {y : CV} (hx : (⟨fr, H⟩ : St).ev (.tmp k) = .c y) (h : Vl E N P ops r ((⟨[], []⟩, ⟨.c y, []⟩) :: acc) ⟨(d, .c y) :: fr, H⟩ K) : Vl E N P ops (⟨some d, .move (.tmp k), ty, pos, af, none⟩ :: r) acc ⟨fr, H⟩ K := Wt rfl (Qa hx rfl) h
theorem QD {x : Operand} {y : CV} (hx : (⟨fr, H⟩ : St).ev x = .c y) (hc : Zj x = true) (h : Vl E N P ops r ((⟨[], []⟩, ⟨.c y, []⟩) :: acc) ⟨(d, .c y) :: fr, H⟩ K) : Vl E N P ops (⟨some d, .assign x, ty, pos, af, none⟩ :: r) acc ⟨fr, H⟩ K := Wt rfl (WF hx hc) h
theorem rt {L : St → Prop} (h : L st) (h1 : Uy acc.reverse = true := by kernel_rfl) {st0 : St} (h2 : Jp st0 acc = true := by kernel_rfl) : Vl E N P ops [] acc st fun acc st' => Uy acc.reverse = true ∧ Jp st0 acc = true ∧ L st' := A4 ⟨h1, h2, h⟩
theorem rd {L : St → Prop} {l : List Oper} (h : L st) (h1 : Ux l acc.reverse = true := by kernel_rfl) {st0 : St} (h2 : Jp st0 acc = true := by kernel_rfl) : Vl E N P ops [] acc st fun acc st' => Ux l acc.reverse = true ∧ Jp st0 acc = true ∧ L st' := A4 ⟨h1, h2, h⟩
theorem tk {x : List Oper} {id : Nat} {y : Code} (h : ∀ L : St → Prop, (∀ st, AW E N P y Q st → L st) → Vl E N P x.toArray x [] st fun acc st' => Uy acc.reverse = true ∧ Jp st acc = true ∧ L st') (hN : AX N x = true := by kernel_rfl) : AW E N P (.seq (.region id x.toArray false) y) Q st := Bi hN h
theorem dk (hm : P.follows .mixedOrders = true) {x : List Oper} {id : Nat} {y : Code} (h : ∀ L : St → Prop, (∀ st, AW E N P y Q st → L st) → Vl E N P x.toArray x [] st fun acc st' => Ux x acc.reverse = true ∧ Jp st acc = true ∧ L st') (hS : AT N x = true := by kernel_rfl) : AW E N P (.seq (.region id x.toArray true) y) Q st := Bj hm hS h
theorem tl {x : List Oper} {id : Nat} (h : ∀ L : St → Prop, (∀ st, Q .normal st → L st) → Vl E N P x.toArray x [] st fun acc st' => Uy acc.reverse = true ∧ Jp st acc = true ∧ L st') (hN : AX N x = true := by kernel_rfl) : AW E N P (.region id x.toArray false) Q st := A9 hN (h _ fun _ h => h)
theorem dl (hm : P.follows .mixedOrders = true) {x : List Oper} {id : Nat} (h : ∀ L : St → Prop, (∀ st, Q .normal st → L st) → Vl E N P x.toArray x [] st fun acc st' => Ux x acc.reverse = true ∧ Jp st acc = true ∧ L st') (hS : AT N x = true := by kernel_rfl) : AW E N P (.region id x.toArray true) Q st := A8 hm hS (h _ fun _ h => h)
theorem sk {x y : Code} (h : ∀ K : St → Prop, (∀ st, AW E N P y Q st → K st) → AW E N P x (Wi Q K) st) : AW E N P (.seq x y) Q st := WG h
theorem ZZ {c : Operand} {x y : Code} {b : Bool} {A B : Prop} (hb : st.ev c = .c (.p (.v (.bool b)))) (h : (b = true → A) ∧ (b = false → B)) (ht : A → AW E N P x Q st) (hf : B → AW E N P y Q st) (hc : Zj c = true := by rfl) : AW E N P (.cond c x y) Q st := Wz hb hc (fun e => ht (h.1 e)) (fun e => hf (h.2 e))
end
structure Qf where
  fb9 : Bool
  fa6 : Int
  f9 : (List ByteArray)
def QC (x : Qf) : List PV := [.v (.bool (x.fb9)), .v (.int .i64 (x.fa6)), .l 1 (List.map eS (x.f9))]
structure Qr where
  fb9 : Bool
  fa6 : Int
  fb2 : ByteArray
  fd1 : Int
def QU (x : Qr) : List PV := [.v (.bool (x.fb9)), .v (.int .i64 (x.fa6)), .v (.string (x.fb2)), .v (.int .i64 (x.fd1))]
structure Qe where
  fo : Int
  fi : Int
  fv : Int
  fu : Int
def Vu (x : Qe) : List PV := [.v (.int .i64 (x.fo)), .v (.int .i64 (x.fi)), .v (.int .i64 (x.fv)), .v (.int .u64 (x.fu))]
structure Qt where
  fb4 : ByteArray
  fb7 : Int
def Ze (x : Qt) : List PV := [.v (.string (x.fb4)), .v (.int .i64 (x.fb7))]
structure QI where
  fo : Int
  fb4 : ByteArray
  fx : Int
  fc3 : Int
  fb8 : Int
def VP (x : QI) : List PV := [.v (.int .i64 (x.fo)), .v (.string (x.fb4)), .v (.int .i64 (x.fx)), .v (.int .i64 (x.fc3)), .v (.int .i64 (x.fb8))]
structure Qs where
  fo : Int
  fb2 : ByteArray
  ff : ByteArray
  f9 : (List ByteArray)
  fb : Qe
  fy : (List Qt)
  fb3 : (List Int)
  fa0 : Int
  fa4 : Int
  f7 : Int
  fb1 : Int
  f8 : Int
  fx : Int
  fq : QI
  fb0 : (List Int)
def Zp (x : Qs) : List PV := [.v (.int .i64 (x.fo)), .v (.string (x.fb2)), .v (.string (x.ff)), .l 1 (List.map eS (x.f9)), .v (.int .i64 (x.fb.fo)), .v (.int .i64 (x.fb.fi)), .v (.int .i64 (x.fb.fv)), .v (.int .u64 (x.fb.fu)), .l 2 (List.map Ze (x.fy)), .l 1 (List.map (eI .u8) (x.fb3)), .v (.int .i64 (x.fa0)), .v (.int .i64 (x.fa4)), .v (.int .i64 (x.f7)), .v (.int .i64 (x.fb1)), .v (.int .i64 (x.f8)), .v (.int .i64 (x.fx)), .v (.int .i64 (x.fq.fo)), .v (.string (x.fq.fb4)), .v (.int .i64 (x.fq.fx)), .v (.int .i64 (x.fq.fc3)), .v (.int .i64 (x.fq.fb8)), .l 1 (List.map (eI .u8) (x.fb0))]
structure QA where
  fk : Int
  fy : Int
  fa : Bool
structure Qb where
  fv : Int
  fi : Int
  fu : Int
  fc1 : (List Int)
  fa : Bool
def VQ (x : Qb) : List PV := [.v (.int .i64 (x.fv)), .v (.int .i64 (x.fi)), .v (.int .u64 (x.fu)), .l 1 (List.map (eI .i64) (x.fc1)), .v (.bool (x.fa))]
structure Qh where
  f4 : Int
  fu : Int
  fa3 : (List Int)
def XI (x : Qh) : List PV := [.v (.int .i64 (x.f4)), .v (.int .u64 (x.fu)), .l 1 (List.map (eI .i64) (x.fa3))]
structure Q5 where
  fb4 : ByteArray
  fx : Int
  fc8 : Int
def Ql (x : Q5) : List PV := [.v (.string (x.fb4)), .v (.int .i64 (x.fx)), .v (.int .i64 (x.fc8))]
structure Qu where
  fi : Int
  fk : Int
  f6 : (List Q5)
  fa : Bool
def Wo (x : Qu) : List PV := [.v (.int .i64 (x.fi)), .v (.int .i64 (x.fk)), .l 3 (List.map Ql (x.f6)), .v (.bool (x.fa))]
structure Qc where
  fi : Int
  fk : Int
  fb5 : Int
  f6 : (List Q5)
  fa : Bool
def VR (x : Qc) : List PV := [.v (.int .i64 (x.fi)), .v (.int .i64 (x.fk)), .v (.int .i64 (x.fb5)), .l 3 (List.map Ql (x.f6)), .v (.bool (x.fa))]
structure Qk where
  fi : Int
  fk : Int
  fa7 : Int
  f5 : (List (List ByteArray))
  fa : Bool
def ZF (x : Qk) : List PV := [.v (.int .i64 (x.fi)), .v (.int .i64 (x.fk)), .v (.int .i64 (x.fa7)), .l 1 (List.map (eL 1 eS) (x.f5)), .v (.bool (x.fa))]
structure Qd where
  fb : Qe
  fp : QA
  fg : Qb
  fw : Qh
  fa2 : Qu
  fh : Qc
  fm : Qk
def Vv (x : Qd) : List PV := [.v (.int .i64 (x.fb.fo)), .v (.int .i64 (x.fb.fi)), .v (.int .i64 (x.fb.fv)), .v (.int .u64 (x.fb.fu)), .v (.int .i64 (x.fp.fk)), .v (.int .i64 (x.fp.fy)), .v (.bool (x.fp.fa)), .v (.int .i64 (x.fg.fv)), .v (.int .i64 (x.fg.fi)), .v (.int .u64 (x.fg.fu)), .l 1 (List.map (eI .i64) (x.fg.fc1)), .v (.bool (x.fg.fa)), .v (.int .i64 (x.fw.f4)), .v (.int .u64 (x.fw.fu)), .l 1 (List.map (eI .i64) (x.fw.fa3)), .v (.int .i64 (x.fa2.fi)), .v (.int .i64 (x.fa2.fk)), .l 3 (List.map Ql (x.fa2.f6)), .v (.bool (x.fa2.fa)), .v (.int .i64 (x.fh.fi)), .v (.int .i64 (x.fh.fk)), .v (.int .i64 (x.fh.fb5)), .l 3 (List.map Ql (x.fh.f6)), .v (.bool (x.fh.fa)), .v (.int .i64 (x.fm.fi)), .v (.int .i64 (x.fm.fk)), .v (.int .i64 (x.fm.fa7)), .l 1 (List.map (eL 1 eS) (x.fm.f5)), .v (.bool (x.fm.fa))]
structure QS where
  fa1 : Int
  fc7 : Int
structure Qn where
  fc2 : Int
  fc4 : Int
  fb6 : Bool
  fa8 : (List Int)
  fa1 : Int
  fc : Qd
  ff : Qd
  fc5 : Int
  fc6 : Int
  f7 : Int
  f8 : Int
  fAt : QS
  fb0 : (List Int)
  fc0 : Bool
def ZW (x : Qn) : List PV := [.v (.int .i64 (x.fc2)), .v (.int .i64 (x.fc4)), .v (.bool (x.fb6)), .l 1 (List.map (eI .i64) (x.fa8)), .v (.int .i64 (x.fa1)), .v (.int .i64 (x.fc.fb.fo)), .v (.int .i64 (x.fc.fb.fi)), .v (.int .i64 (x.fc.fb.fv)), .v (.int .u64 (x.fc.fb.fu)), .v (.int .i64 (x.fc.fp.fk)), .v (.int .i64 (x.fc.fp.fy)), .v (.bool (x.fc.fp.fa)), .v (.int .i64 (x.fc.fg.fv)), .v (.int .i64 (x.fc.fg.fi)), .v (.int .u64 (x.fc.fg.fu)), .l 1 (List.map (eI .i64) (x.fc.fg.fc1)), .v (.bool (x.fc.fg.fa)), .v (.int .i64 (x.fc.fw.f4)), .v (.int .u64 (x.fc.fw.fu)), .l 1 (List.map (eI .i64) (x.fc.fw.fa3)), .v (.int .i64 (x.fc.fa2.fi)), .v (.int .i64 (x.fc.fa2.fk)), .l 3 (List.map Ql (x.fc.fa2.f6)), .v (.bool (x.fc.fa2.fa)), .v (.int .i64 (x.fc.fh.fi)), .v (.int .i64 (x.fc.fh.fk)), .v (.int .i64 (x.fc.fh.fb5)), .l 3 (List.map Ql (x.fc.fh.f6)), .v (.bool (x.fc.fh.fa)), .v (.int .i64 (x.fc.fm.fi)), .v (.int .i64 (x.fc.fm.fk)), .v (.int .i64 (x.fc.fm.fa7)), .l 1 (List.map (eL 1 eS) (x.fc.fm.f5)), .v (.bool (x.fc.fm.fa)), .v (.int .i64 (x.ff.fb.fo)), .v (.int .i64 (x.ff.fb.fi)), .v (.int .i64 (x.ff.fb.fv)), .v (.int .u64 (x.ff.fb.fu)), .v (.int .i64 (x.ff.fp.fk)), .v (.int .i64 (x.ff.fp.fy)), .v (.bool (x.ff.fp.fa)), .v (.int .i64 (x.ff.fg.fv)), .v (.int .i64 (x.ff.fg.fi)), .v (.int .u64 (x.ff.fg.fu)), .l 1 (List.map (eI .i64) (x.ff.fg.fc1)), .v (.bool (x.ff.fg.fa)), .v (.int .i64 (x.ff.fw.f4)), .v (.int .u64 (x.ff.fw.fu)), .l 1 (List.map (eI .i64) (x.ff.fw.fa3)), .v (.int .i64 (x.ff.fa2.fi)), .v (.int .i64 (x.ff.fa2.fk)), .l 3 (List.map Ql (x.ff.fa2.f6)), .v (.bool (x.ff.fa2.fa)), .v (.int .i64 (x.ff.fh.fi)), .v (.int .i64 (x.ff.fh.fk)), .v (.int .i64 (x.ff.fh.fb5)), .l 3 (List.map Ql (x.ff.fh.f6)), .v (.bool (x.ff.fh.fa)), .v (.int .i64 (x.ff.fm.fi)), .v (.int .i64 (x.ff.fm.fk)), .v (.int .i64 (x.ff.fm.fa7)), .l 1 (List.map (eL 1 eS) (x.ff.fm.f5)), .v (.bool (x.ff.fm.fa)), .v (.int .i64 (x.fc5)), .v (.int .i64 (x.fc6)), .v (.int .i64 (x.f7)), .v (.int .i64 (x.f8)), .v (.int .i64 (x.fAt.fa1)), .v (.int .i64 (x.fAt.fc7)), .l 1 (List.map (eI .u8) (x.fb0)), .v (.bool (x.fc0))]
structure Q4 where
  fa5 : Bool
  fOp : Qs
  fj : Qn
  f0 : Int
  f3 : (List Qf)
  fa9 : (List Qr)
def Qj (x : Q4) : List PV := [.v (.bool (x.fa5)), .v (.int .i64 (x.fOp.fo)), .v (.string (x.fOp.fb2)), .v (.string (x.fOp.ff)), .l 1 (List.map eS (x.fOp.f9)), .v (.int .i64 (x.fOp.fb.fo)), .v (.int .i64 (x.fOp.fb.fi)), .v (.int .i64 (x.fOp.fb.fv)), .v (.int .u64 (x.fOp.fb.fu)), .l 2 (List.map Ze (x.fOp.fy)), .l 1 (List.map (eI .u8) (x.fOp.fb3)), .v (.int .i64 (x.fOp.fa0)), .v (.int .i64 (x.fOp.fa4)), .v (.int .i64 (x.fOp.f7)), .v (.int .i64 (x.fOp.fb1)), .v (.int .i64 (x.fOp.f8)), .v (.int .i64 (x.fOp.fx)), .v (.int .i64 (x.fOp.fq.fo)), .v (.string (x.fOp.fq.fb4)), .v (.int .i64 (x.fOp.fq.fx)), .v (.int .i64 (x.fOp.fq.fc3)), .v (.int .i64 (x.fOp.fq.fb8)), .l 1 (List.map (eI .u8) (x.fOp.fb0)), .v (.int .i64 (x.fj.fc2)), .v (.int .i64 (x.fj.fc4)), .v (.bool (x.fj.fb6)), .l 1 (List.map (eI .i64) (x.fj.fa8)), .v (.int .i64 (x.fj.fa1)), .v (.int .i64 (x.fj.fc.fb.fo)), .v (.int .i64 (x.fj.fc.fb.fi)), .v (.int .i64 (x.fj.fc.fb.fv)), .v (.int .u64 (x.fj.fc.fb.fu)), .v (.int .i64 (x.fj.fc.fp.fk)), .v (.int .i64 (x.fj.fc.fp.fy)), .v (.bool (x.fj.fc.fp.fa)), .v (.int .i64 (x.fj.fc.fg.fv)), .v (.int .i64 (x.fj.fc.fg.fi)), .v (.int .u64 (x.fj.fc.fg.fu)), .l 1 (List.map (eI .i64) (x.fj.fc.fg.fc1)), .v (.bool (x.fj.fc.fg.fa)), .v (.int .i64 (x.fj.fc.fw.f4)), .v (.int .u64 (x.fj.fc.fw.fu)), .l 1 (List.map (eI .i64) (x.fj.fc.fw.fa3)), .v (.int .i64 (x.fj.fc.fa2.fi)), .v (.int .i64 (x.fj.fc.fa2.fk)), .l 3 (List.map Ql (x.fj.fc.fa2.f6)), .v (.bool (x.fj.fc.fa2.fa)), .v (.int .i64 (x.fj.fc.fh.fi)), .v (.int .i64 (x.fj.fc.fh.fk)), .v (.int .i64 (x.fj.fc.fh.fb5)), .l 3 (List.map Ql (x.fj.fc.fh.f6)), .v (.bool (x.fj.fc.fh.fa)), .v (.int .i64 (x.fj.fc.fm.fi)), .v (.int .i64 (x.fj.fc.fm.fk)), .v (.int .i64 (x.fj.fc.fm.fa7)), .l 1 (List.map (eL 1 eS) (x.fj.fc.fm.f5)), .v (.bool (x.fj.fc.fm.fa)), .v (.int .i64 (x.fj.ff.fb.fo)), .v (.int .i64 (x.fj.ff.fb.fi)), .v (.int .i64 (x.fj.ff.fb.fv)), .v (.int .u64 (x.fj.ff.fb.fu)), .v (.int .i64 (x.fj.ff.fp.fk)), .v (.int .i64 (x.fj.ff.fp.fy)), .v (.bool (x.fj.ff.fp.fa)), .v (.int .i64 (x.fj.ff.fg.fv)), .v (.int .i64 (x.fj.ff.fg.fi)), .v (.int .u64 (x.fj.ff.fg.fu)), .l 1 (List.map (eI .i64) (x.fj.ff.fg.fc1)), .v (.bool (x.fj.ff.fg.fa)), .v (.int .i64 (x.fj.ff.fw.f4)), .v (.int .u64 (x.fj.ff.fw.fu)), .l 1 (List.map (eI .i64) (x.fj.ff.fw.fa3)), .v (.int .i64 (x.fj.ff.fa2.fi)), .v (.int .i64 (x.fj.ff.fa2.fk)), .l 3 (List.map Ql (x.fj.ff.fa2.f6)), .v (.bool (x.fj.ff.fa2.fa)), .v (.int .i64 (x.fj.ff.fh.fi)), .v (.int .i64 (x.fj.ff.fh.fk)), .v (.int .i64 (x.fj.ff.fh.fb5)), .l 3 (List.map Ql (x.fj.ff.fh.f6)), .v (.bool (x.fj.ff.fh.fa)), .v (.int .i64 (x.fj.ff.fm.fi)), .v (.int .i64 (x.fj.ff.fm.fk)), .v (.int .i64 (x.fj.ff.fm.fa7)), .l 1 (List.map (eL 1 eS) (x.fj.ff.fm.f5)), .v (.bool (x.fj.ff.fm.fa)), .v (.int .i64 (x.fj.fc5)), .v (.int .i64 (x.fj.fc6)), .v (.int .i64 (x.fj.f7)), .v (.int .i64 (x.fj.f8)), .v (.int .i64 (x.fj.fAt.fa1)), .v (.int .i64 (x.fj.fAt.fc7)), .l 1 (List.map (eI .u8) (x.fj.fb0)), .v (.bool (x.fj.fc0)), .v (.int .i64 (x.f0)), .l 3 (List.map QC (x.f3)), .l 4 (List.map QU (x.fa9))]
set_option maxRecDepth 20000
theorem te_2 : QP Try.prog 2 = some ⟨.int .i64, 1, 8, .int .i64 0⟩ := by kernel_rfl
theorem te_3 : QP Try.prog 3 = some ⟨.int .i64, 1, 8, .int .i64 0⟩ := by kernel_rfl
theorem te_4 : QP Try.prog 4 = some ⟨.bool, 1, 1, .bool false⟩ := by kernel_rfl
theorem te_5 : QP Try.prog 5 = some ⟨.int .u8, 1, 1, .int .u8 0⟩ := by kernel_rfl
theorem te_6 : QP Try.prog 6 = some ⟨.int .u8, 1, 1, .int .u8 0⟩ := by kernel_rfl
theorem te_7 : QP Try.prog 7 = some ⟨.struct [(0, 2), (1, 3), (2, 4), (3, 6)], 4, 24, .agg #[.int .i64 0, .int .i64 0, .bool false, .int .u8 0]⟩ := by kernel_rfl
theorem te_8 : QP Try.prog 8 = some ⟨.struct [(0, 2), (1, 3), (2, 4), (3, 6)], 4, 24, .agg #[.int .i64 0, .int .i64 0, .bool false, .int .u8 0]⟩ := by kernel_rfl
theorem te_9 : QP Try.prog 9 = some ⟨.string, 1, 16, .string ByteArray.empty⟩ := by kernel_rfl
theorem te_10 : QP Try.prog 10 = some ⟨.string, 1, 16, .string ByteArray.empty⟩ := by kernel_rfl
theorem te_11 : QP Try.prog 11 = some ⟨.string, 1, 16, .string ByteArray.empty⟩ := by kernel_rfl
theorem te_12 : QP Try.prog 12 = some ⟨.int .u64, 1, 8, .int .u64 0⟩ := by kernel_rfl
theorem te_13 : QP Try.prog 13 = some ⟨.struct [(0, 9), (1, 12)], 2, 24, .agg #[.string ByteArray.empty, .int .u64 0]⟩ := by kernel_rfl
theorem te_14 : QP Try.prog 14 = some ⟨.struct [(0, 9), (1, 12)], 2, 24, .agg #[.string ByteArray.empty, .int .u64 0]⟩ := by kernel_rfl
theorem te_15 : QP Try.prog 15 = some ⟨.ptr 118, 1, 8, .pointer none⟩ := by kernel_rfl
theorem te_16 : QP Try.prog 16 = some ⟨.ptr 121, 1, 8, .pointer none⟩ := by kernel_rfl
theorem te_17 : QP Try.prog 17 = some ⟨.ptr 131, 1, 8, .pointer none⟩ := by kernel_rfl
theorem te_18 : QP Try.prog 18 = some ⟨.struct [(0, 17)], 1, 8, .agg #[.pointer none]⟩ := by kernel_rfl
theorem te_19 : QP Try.prog 19 = some ⟨.struct [(0, 17)], 1, 8, .agg #[.pointer none]⟩ := by kernel_rfl
theorem te_21 : QP Try.prog 21 = some ⟨.int .i32, 1, 4, .int .i32 0⟩ := by kernel_rfl
theorem te_22 : QP Try.prog 22 = some ⟨.slice 63, 1, 24, .slice none 0 0⟩ := by kernel_rfl
theorem te_23 : QP Try.prog 23 = some ⟨.int .i64, 1, 8, .int .i64 0⟩ := by kernel_rfl
theorem te_29 : QP Try.prog 29 = some ⟨.slice 75, 1, 24, .slice none 0 0⟩ := by kernel_rfl
theorem te_30 : QP Try.prog 30 = some ⟨.slice 77, 1, 24, .slice none 0 0⟩ := by kernel_rfl
theorem te_31 : QP Try.prog 31 = some ⟨.slice 9, 1, 24, .slice none 0 0⟩ := by kernel_rfl
theorem te_32 : QP Try.prog 32 = some ⟨.int .u64, 1, 8, .int .u64 0⟩ := by kernel_rfl
theorem te_33 : QP Try.prog 33 = some ⟨.struct [(0, 3), (1, 3), (2, 3), (3, 32)], 4, 32, .agg #[.int .i64 0, .int .i64 0, .int .i64 0, .int .u64 0]⟩ := by kernel_rfl
theorem te_34 : QP Try.prog 34 = some ⟨.struct [(0, 3), (1, 3), (2, 3), (3, 32)], 4, 32, .agg #[.int .i64 0, .int .i64 0, .int .i64 0, .int .u64 0]⟩ := by kernel_rfl
theorem te_35 : QP Try.prog 35 = some ⟨.slice 72, 1, 24, .slice none 0 0⟩ := by kernel_rfl
theorem te_36 : QP Try.prog 36 = some ⟨.slice 5, 1, 24, .slice none 0 0⟩ := by kernel_rfl
theorem te_37 : QP Try.prog 37 = some ⟨.struct [(0, 3), (1, 9), (2, 3), (3, 3), (4, 3)], 5, 48, .agg #[.int .i64 0, .string ByteArray.empty, .int .i64 0, .int .i64 0, .int .i64 0]⟩ := by kernel_rfl
theorem te_38 : QP Try.prog 38 = some ⟨.struct [(0, 3), (1, 9), (2, 3), (3, 3), (4, 3)], 5, 48, .agg #[.int .i64 0, .string ByteArray.empty, .int .i64 0, .int .i64 0, .int .i64 0]⟩ := by kernel_rfl
theorem te_39 : QP Try.prog 39 = some ⟨.struct [(0, 3), (1, 9), (2, 9), (3, 31), (4, 34), (8, 35), (9, 36), (10, 3), (11, 3), (12, 3), (13, 3), (14, 3), (15, 3), (16, 38), (21, 36)], 22, 264, .agg #[.int .i64 0, .string ByteArray.empty, .string ByteArray.empty, .slice none 0 0, .int .i64 0, .int .i64 0, .int .i64 0, .int .u64 0, .slice none 0 0, .slice none 0 0, .int .i64 0, .int .i64 0, .int .i64 0, .int .i64 0, .int .i64 0, .int .i64 0, .int .i64 0, .string ByteArray.empty, .int .i64 0, .int .i64 0, .int .i64 0, .slice none 0 0]⟩ := by kernel_rfl
theorem te_40 : QP Try.prog 40 = some ⟨.struct [(0, 3), (1, 9), (2, 9), (3, 31), (4, 34), (8, 35), (9, 36), (10, 3), (11, 3), (12, 3), (13, 3), (14, 3), (15, 3), (16, 38), (21, 36)], 22, 264, .agg #[.int .i64 0, .string ByteArray.empty, .string ByteArray.empty, .slice none 0 0, .int .i64 0, .int .i64 0, .int .i64 0, .int .u64 0, .slice none 0 0, .slice none 0 0, .int .i64 0, .int .i64 0, .int .i64 0, .int .i64 0, .int .i64 0, .int .i64 0, .int .i64 0, .string ByteArray.empty, .int .i64 0, .int .i64 0, .int .i64 0, .slice none 0 0]⟩ := by kernel_rfl
theorem te_41 : QP Try.prog 41 = some ⟨.slice 3, 1, 24, .slice none 0 0⟩ := by kernel_rfl
theorem te_42 : QP Try.prog 42 = some ⟨.struct [(0, 3), (1, 3), (2, 4)], 3, 24, .agg #[.int .i64 0, .int .i64 0, .bool false]⟩ := by kernel_rfl
theorem te_43 : QP Try.prog 43 = some ⟨.struct [(0, 3), (1, 3), (2, 4)], 3, 24, .agg #[.int .i64 0, .int .i64 0, .bool false]⟩ := by kernel_rfl
theorem te_44 : QP Try.prog 44 = some ⟨.struct [(0, 3), (1, 3), (2, 32), (3, 41), (4, 4)], 5, 56, .agg #[.int .i64 0, .int .i64 0, .int .u64 0, .slice none 0 0, .bool false]⟩ := by kernel_rfl
theorem te_45 : QP Try.prog 45 = some ⟨.struct [(0, 3), (1, 3), (2, 32), (3, 41), (4, 4)], 5, 56, .agg #[.int .i64 0, .int .i64 0, .int .u64 0, .slice none 0 0, .bool false]⟩ := by kernel_rfl
theorem te_46 : QP Try.prog 46 = some ⟨.struct [(0, 3), (1, 32), (2, 41)], 3, 40, .agg #[.int .i64 0, .int .u64 0, .slice none 0 0]⟩ := by kernel_rfl
theorem te_47 : QP Try.prog 47 = some ⟨.struct [(0, 3), (1, 32), (2, 41)], 3, 40, .agg #[.int .i64 0, .int .u64 0, .slice none 0 0]⟩ := by kernel_rfl
theorem te_48 : QP Try.prog 48 = some ⟨.slice 109, 1, 24, .slice none 0 0⟩ := by kernel_rfl
theorem te_49 : QP Try.prog 49 = some ⟨.struct [(0, 3), (1, 3), (2, 48), (3, 4)], 4, 48, .agg #[.int .i64 0, .int .i64 0, .slice none 0 0, .bool false]⟩ := by kernel_rfl
theorem te_50 : QP Try.prog 50 = some ⟨.struct [(0, 3), (1, 3), (2, 48), (3, 4)], 4, 48, .agg #[.int .i64 0, .int .i64 0, .slice none 0 0, .bool false]⟩ := by kernel_rfl
theorem te_51 : QP Try.prog 51 = some ⟨.struct [(0, 3), (1, 3), (2, 3), (3, 48), (4, 4)], 5, 56, .agg #[.int .i64 0, .int .i64 0, .int .i64 0, .slice none 0 0, .bool false]⟩ := by kernel_rfl
theorem te_52 : QP Try.prog 52 = some ⟨.struct [(0, 3), (1, 3), (2, 3), (3, 48), (4, 4)], 5, 56, .agg #[.int .i64 0, .int .i64 0, .int .i64 0, .slice none 0 0, .bool false]⟩ := by kernel_rfl
theorem te_53 : QP Try.prog 53 = some ⟨.slice 31, 1, 24, .slice none 0 0⟩ := by kernel_rfl
theorem te_54 : QP Try.prog 54 = some ⟨.struct [(0, 3), (1, 3), (2, 3), (3, 53), (4, 4)], 5, 56, .agg #[.int .i64 0, .int .i64 0, .int .i64 0, .slice none 0 0, .bool false]⟩ := by kernel_rfl
theorem te_55 : QP Try.prog 55 = some ⟨.struct [(0, 3), (1, 3), (2, 3), (3, 53), (4, 4)], 5, 56, .agg #[.int .i64 0, .int .i64 0, .int .i64 0, .slice none 0 0, .bool false]⟩ := by kernel_rfl
theorem te_56 : QP Try.prog 56 = some ⟨.struct [(0, 34), (4, 43), (7, 45), (12, 47), (15, 50), (19, 52), (24, 55)], 29, 312, .agg #[.int .i64 0, .int .i64 0, .int .i64 0, .int .u64 0, .int .i64 0, .int .i64 0, .bool false, .int .i64 0, .int .i64 0, .int .u64 0, .slice none 0 0, .bool false, .int .i64 0, .int .u64 0, .slice none 0 0, .int .i64 0, .int .i64 0, .slice none 0 0, .bool false, .int .i64 0, .int .i64 0, .int .i64 0, .slice none 0 0, .bool false, .int .i64 0, .int .i64 0, .int .i64 0, .slice none 0 0, .bool false]⟩ := by kernel_rfl
theorem te_57 : QP Try.prog 57 = some ⟨.struct [(0, 34), (4, 43), (7, 45), (12, 47), (15, 50), (19, 52), (24, 55)], 29, 312, .agg #[.int .i64 0, .int .i64 0, .int .i64 0, .int .u64 0, .int .i64 0, .int .i64 0, .bool false, .int .i64 0, .int .i64 0, .int .u64 0, .slice none 0 0, .bool false, .int .i64 0, .int .u64 0, .slice none 0 0, .int .i64 0, .int .i64 0, .slice none 0 0, .bool false, .int .i64 0, .int .i64 0, .int .i64 0, .slice none 0 0, .bool false, .int .i64 0, .int .i64 0, .int .i64 0, .slice none 0 0, .bool false]⟩ := by kernel_rfl
theorem te_58 : QP Try.prog 58 = some ⟨.struct [(0, 3), (1, 3)], 2, 16, .agg #[.int .i64 0, .int .i64 0]⟩ := by kernel_rfl
theorem te_59 : QP Try.prog 59 = some ⟨.struct [(0, 3), (1, 3)], 2, 16, .agg #[.int .i64 0, .int .i64 0]⟩ := by kernel_rfl
theorem te_60 : QP Try.prog 60 = some ⟨.struct [(0, 3), (1, 3), (2, 4), (3, 41), (4, 3), (5, 57), (34, 57), (63, 3), (64, 3), (65, 3), (66, 3), (67, 59), (69, 36), (70, 4)], 71, 760, .agg #[.int .i64 0, .int .i64 0, .bool false, .slice none 0 0, .int .i64 0, .int .i64 0, .int .i64 0, .int .i64 0, .int .u64 0, .int .i64 0, .int .i64 0, .bool false, .int .i64 0, .int .i64 0, .int .u64 0, .slice none 0 0, .bool false, .int .i64 0, .int .u64 0, .slice none 0 0, .int .i64 0, .int .i64 0, .slice none 0 0, .bool false, .int .i64 0, .int .i64 0, .int .i64 0, .slice none 0 0, .bool false, .int .i64 0, .int .i64 0, .int .i64 0, .slice none 0 0, .bool false, .int .i64 0, .int .i64 0, .int .i64 0, .int .u64 0, .int .i64 0, .int .i64 0, .bool false, .int .i64 0, .int .i64 0, .int .u64 0, .slice none 0 0, .bool false, .int .i64 0, .int .u64 0, .slice none 0 0, .int .i64 0, .int .i64 0, .slice none 0 0, .bool false, .int .i64 0, .int .i64 0, .int .i64 0, .slice none 0 0, .bool false, .int .i64 0, .int .i64 0, .int .i64 0, .slice none 0 0, .bool false, .int .i64 0, .int .i64 0, .int .i64 0, .int .i64 0, .int .i64 0, .int .i64 0, .slice none 0 0, .bool false]⟩ := by kernel_rfl
theorem te_61 : QP Try.prog 61 = some ⟨.struct [(0, 3), (1, 3), (2, 4), (3, 41), (4, 3), (5, 57), (34, 57), (63, 3), (64, 3), (65, 3), (66, 3), (67, 59), (69, 36), (70, 4)], 71, 760, .agg #[.int .i64 0, .int .i64 0, .bool false, .slice none 0 0, .int .i64 0, .int .i64 0, .int .i64 0, .int .i64 0, .int .u64 0, .int .i64 0, .int .i64 0, .bool false, .int .i64 0, .int .i64 0, .int .u64 0, .slice none 0 0, .bool false, .int .i64 0, .int .u64 0, .slice none 0 0, .int .i64 0, .int .i64 0, .slice none 0 0, .bool false, .int .i64 0, .int .i64 0, .int .i64 0, .slice none 0 0, .bool false, .int .i64 0, .int .i64 0, .int .i64 0, .slice none 0 0, .bool false, .int .i64 0, .int .i64 0, .int .i64 0, .int .u64 0, .int .i64 0, .int .i64 0, .bool false, .int .i64 0, .int .i64 0, .int .u64 0, .slice none 0 0, .bool false, .int .i64 0, .int .u64 0, .slice none 0 0, .int .i64 0, .int .i64 0, .slice none 0 0, .bool false, .int .i64 0, .int .i64 0, .int .i64 0, .slice none 0 0, .bool false, .int .i64 0, .int .i64 0, .int .i64 0, .slice none 0 0, .bool false, .int .i64 0, .int .i64 0, .int .i64 0, .int .i64 0, .int .i64 0, .int .i64 0, .slice none 0 0, .bool false]⟩ := by kernel_rfl
theorem te_62 : QP Try.prog 62 = some ⟨.struct [(0, 4), (1, 40), (23, 61), (94, 3), (95, 29), (96, 30)], 97, 1088, .agg #[.bool false, .int .i64 0, .string ByteArray.empty, .string ByteArray.empty, .slice none 0 0, .int .i64 0, .int .i64 0, .int .i64 0, .int .u64 0, .slice none 0 0, .slice none 0 0, .int .i64 0, .int .i64 0, .int .i64 0, .int .i64 0, .int .i64 0, .int .i64 0, .int .i64 0, .string ByteArray.empty, .int .i64 0, .int .i64 0, .int .i64 0, .slice none 0 0, .int .i64 0, .int .i64 0, .bool false, .slice none 0 0, .int .i64 0, .int .i64 0, .int .i64 0, .int .i64 0, .int .u64 0, .int .i64 0, .int .i64 0, .bool false, .int .i64 0, .int .i64 0, .int .u64 0, .slice none 0 0, .bool false, .int .i64 0, .int .u64 0, .slice none 0 0, .int .i64 0, .int .i64 0, .slice none 0 0, .bool false, .int .i64 0, .int .i64 0, .int .i64 0, .slice none 0 0, .bool false, .int .i64 0, .int .i64 0, .int .i64 0, .slice none 0 0, .bool false, .int .i64 0, .int .i64 0, .int .i64 0, .int .u64 0, .int .i64 0, .int .i64 0, .bool false, .int .i64 0, .int .i64 0, .int .u64 0, .slice none 0 0, .bool false, .int .i64 0, .int .u64 0, .slice none 0 0, .int .i64 0, .int .i64 0, .slice none 0 0, .bool false, .int .i64 0, .int .i64 0, .int .i64 0, .slice none 0 0, .bool false, .int .i64 0, .int .i64 0, .int .i64 0, .slice none 0 0, .bool false, .int .i64 0, .int .i64 0, .int .i64 0, .int .i64 0, .int .i64 0, .int .i64 0, .slice none 0 0, .bool false, .int .i64 0, .slice none 0 0, .slice none 0 0]⟩ := by kernel_rfl
theorem te_63 : QP Try.prog 63 = some ⟨.struct [(0, 4), (1, 40), (23, 61), (94, 3), (95, 29), (96, 30)], 97, 1088, .agg #[.bool false, .int .i64 0, .string ByteArray.empty, .string ByteArray.empty, .slice none 0 0, .int .i64 0, .int .i64 0, .int .i64 0, .int .u64 0, .slice none 0 0, .slice none 0 0, .int .i64 0, .int .i64 0, .int .i64 0, .int .i64 0, .int .i64 0, .int .i64 0, .int .i64 0, .string ByteArray.empty, .int .i64 0, .int .i64 0, .int .i64 0, .slice none 0 0, .int .i64 0, .int .i64 0, .bool false, .slice none 0 0, .int .i64 0, .int .i64 0, .int .i64 0, .int .i64 0, .int .u64 0, .int .i64 0, .int .i64 0, .bool false, .int .i64 0, .int .i64 0, .int .u64 0, .slice none 0 0, .bool false, .int .i64 0, .int .u64 0, .slice none 0 0, .int .i64 0, .int .i64 0, .slice none 0 0, .bool false, .int .i64 0, .int .i64 0, .int .i64 0, .slice none 0 0, .bool false, .int .i64 0, .int .i64 0, .int .i64 0, .slice none 0 0, .bool false, .int .i64 0, .int .i64 0, .int .i64 0, .int .u64 0, .int .i64 0, .int .i64 0, .bool false, .int .i64 0, .int .i64 0, .int .u64 0, .slice none 0 0, .bool false, .int .i64 0, .int .u64 0, .slice none 0 0, .int .i64 0, .int .i64 0, .slice none 0 0, .bool false, .int .i64 0, .int .i64 0, .int .i64 0, .slice none 0 0, .bool false, .int .i64 0, .int .i64 0, .int .i64 0, .slice none 0 0, .bool false, .int .i64 0, .int .i64 0, .int .i64 0, .int .i64 0, .int .i64 0, .int .i64 0, .slice none 0 0, .bool false, .int .i64 0, .slice none 0 0, .slice none 0 0]⟩ := by kernel_rfl
theorem te_71 : QP Try.prog 71 = some ⟨.struct [(0, 9), (1, 3)], 2, 24, .agg #[.string ByteArray.empty, .int .i64 0]⟩ := by kernel_rfl
theorem te_72 : QP Try.prog 72 = some ⟨.struct [(0, 9), (1, 3)], 2, 24, .agg #[.string ByteArray.empty, .int .i64 0]⟩ := by kernel_rfl
theorem te_74 : QP Try.prog 74 = some ⟨.struct [(0, 4), (1, 3), (2, 31)], 3, 40, .agg #[.bool false, .int .i64 0, .slice none 0 0]⟩ := by kernel_rfl
theorem te_75 : QP Try.prog 75 = some ⟨.struct [(0, 4), (1, 3), (2, 31)], 3, 40, .agg #[.bool false, .int .i64 0, .slice none 0 0]⟩ := by kernel_rfl
theorem te_76 : QP Try.prog 76 = some ⟨.struct [(0, 4), (1, 3), (2, 9), (3, 3)], 4, 40, .agg #[.bool false, .int .i64 0, .string ByteArray.empty, .int .i64 0]⟩ := by kernel_rfl
theorem te_77 : QP Try.prog 77 = some ⟨.struct [(0, 4), (1, 3), (2, 9), (3, 3)], 4, 40, .agg #[.bool false, .int .i64 0, .string ByteArray.empty, .int .i64 0]⟩ := by kernel_rfl
theorem te_80 : QP Try.prog 80 = some ⟨.ptr 63, 1, 8, .pointer none⟩ := by kernel_rfl
theorem te_88 : QP Try.prog 88 = some ⟨.array 14 4, 14, 14, .agg #[.bool false, .bool false, .bool false, .bool false, .bool false, .bool false, .bool false, .bool false, .bool false, .bool false, .bool false, .bool false, .bool false, .bool false]⟩ := by kernel_rfl
theorem D1 : QP Try.prog 108 = some ⟨.struct [(0, 9), (1, 3), (2, 3)], 3, 32, .agg #[.string ByteArray.empty, .int .i64 0, .int .i64 0]⟩ := by kernel_rfl
theorem D2 : QP Try.prog 109 = some ⟨.struct [(0, 9), (1, 3), (2, 3)], 3, 32, .agg #[.string ByteArray.empty, .int .i64 0, .int .i64 0]⟩ := by kernel_rfl
theorem D3 : QP Try.prog 117 = some ⟨.struct [(0, 17), (1, 17), (2, 17), (3, 9)], 4, 40, .agg #[.pointer none, .pointer none, .pointer none, .string ByteArray.empty]⟩ := by kernel_rfl
theorem D4 : QP Try.prog 118 = some ⟨.struct [(0, 17), (1, 17), (2, 17), (3, 9)], 4, 40, .agg #[.pointer none, .pointer none, .pointer none, .string ByteArray.empty]⟩ := by kernel_rfl
theorem D5 : QP Try.prog 119 = some ⟨.array 0 16, 0, 0, .agg #[]⟩ := by kernel_rfl
theorem D6 : QP Try.prog 120 = some ⟨.struct [(0, 119)], 0, 0, .agg #[]⟩ := by kernel_rfl
theorem D7 : QP Try.prog 121 = some ⟨.struct [(0, 119)], 0, 0, .agg #[]⟩ := by kernel_rfl
theorem D8 : QP Try.prog 123 = some ⟨.int .u32, 1, 4, .int .u32 0⟩ := by kernel_rfl
theorem D9 : QP Try.prog 124 = some ⟨.int .u8, 1, 1, .int .u8 0⟩ := by kernel_rfl
theorem Da : QP Try.prog 125 = some ⟨.int .u8, 1, 1, .int .u8 0⟩ := by kernel_rfl
theorem Db : QP Try.prog 127 = some ⟨.ptr 5, 1, 8, .pointer none⟩ := by kernel_rfl
theorem Dc : QP Try.prog 128 = some ⟨.int .i32, 1, 4, .int .i32 0⟩ := by kernel_rfl
theorem Dd : QP Try.prog 129 = some ⟨.int .i32, 1, 4, .int .i32 0⟩ := by kernel_rfl
theorem De : QP Try.prog 130 = some ⟨.struct [(0, 12), (1, 12), (2, 123), (3, 124), (4, 5), (5, 5), (6, 125), (7, 126), (8, 127), (9, 128), (10, 129)], 11, 48, .agg #[.int .u64 0, .int .u64 0, .int .u32 0, .int .u8 0, .int .u8 0, .int .u8 0, .int .u8 0, .nilFunc, .pointer none, .int .i32 0, .int .i32 0]⟩ := by kernel_rfl
theorem Df : QP Try.prog 131 = some ⟨.struct [(0, 12), (1, 12), (2, 123), (3, 124), (4, 5), (5, 5), (6, 125), (7, 126), (8, 127), (9, 128), (10, 129)], 11, 48, .agg #[.int .u64 0, .int .u64 0, .int .u32 0, .int .u8 0, .int .u8 0, .int .u8 0, .int .u8 0, .nilFunc, .pointer none, .int .i32 0, .int .i32 0]⟩ := by kernel_rfl
def tbl : List (Nat × TE) := [(2, ⟨.int .i64, 1, 8, .int .i64 0⟩),
  (3, ⟨.int .i64, 1, 8, .int .i64 0⟩),
  (4, ⟨.bool, 1, 1, .bool false⟩),
  (5, ⟨.int .u8, 1, 1, .int .u8 0⟩),
  (6, ⟨.int .u8, 1, 1, .int .u8 0⟩),
  (7, ⟨.struct [(0, 2), (1, 3), (2, 4), (3, 6)], 4, 24, .agg #[.int .i64 0, .int .i64 0, .bool false, .int .u8 0]⟩),
  (8, ⟨.struct [(0, 2), (1, 3), (2, 4), (3, 6)], 4, 24, .agg #[.int .i64 0, .int .i64 0, .bool false, .int .u8 0]⟩),
  (9, ⟨.string, 1, 16, .string ByteArray.empty⟩),
  (10, ⟨.string, 1, 16, .string ByteArray.empty⟩),
  (11, ⟨.string, 1, 16, .string ByteArray.empty⟩),
  (12, ⟨.int .u64, 1, 8, .int .u64 0⟩),
  (13, ⟨.struct [(0, 9), (1, 12)], 2, 24, .agg #[.string ByteArray.empty, .int .u64 0]⟩),
  (14, ⟨.struct [(0, 9), (1, 12)], 2, 24, .agg #[.string ByteArray.empty, .int .u64 0]⟩),
  (15, ⟨.ptr 118, 1, 8, .pointer none⟩),
  (16, ⟨.ptr 121, 1, 8, .pointer none⟩),
  (17, ⟨.ptr 131, 1, 8, .pointer none⟩),
  (18, ⟨.struct [(0, 17)], 1, 8, .agg #[.pointer none]⟩),
  (19, ⟨.struct [(0, 17)], 1, 8, .agg #[.pointer none]⟩),
  (21, ⟨.int .i32, 1, 4, .int .i32 0⟩),
  (22, ⟨.slice 63, 1, 24, .slice none 0 0⟩),
  (23, ⟨.int .i64, 1, 8, .int .i64 0⟩),
  (29, ⟨.slice 75, 1, 24, .slice none 0 0⟩),
  (30, ⟨.slice 77, 1, 24, .slice none 0 0⟩),
  (31, ⟨.slice 9, 1, 24, .slice none 0 0⟩),
  (32, ⟨.int .u64, 1, 8, .int .u64 0⟩),
  (33, ⟨.struct [(0, 3), (1, 3), (2, 3), (3, 32)], 4, 32, .agg #[.int .i64 0, .int .i64 0, .int .i64 0, .int .u64 0]⟩),
  (34, ⟨.struct [(0, 3), (1, 3), (2, 3), (3, 32)], 4, 32, .agg #[.int .i64 0, .int .i64 0, .int .i64 0, .int .u64 0]⟩),
  (35, ⟨.slice 72, 1, 24, .slice none 0 0⟩),
  (36, ⟨.slice 5, 1, 24, .slice none 0 0⟩),
  (37, ⟨.struct [(0, 3), (1, 9), (2, 3), (3, 3), (4, 3)], 5, 48, .agg #[.int .i64 0, .string ByteArray.empty, .int .i64 0, .int .i64 0, .int .i64 0]⟩),
  (38, ⟨.struct [(0, 3), (1, 9), (2, 3), (3, 3), (4, 3)], 5, 48, .agg #[.int .i64 0, .string ByteArray.empty, .int .i64 0, .int .i64 0, .int .i64 0]⟩),
  (39, ⟨.struct [(0, 3), (1, 9), (2, 9), (3, 31), (4, 34), (8, 35), (9, 36), (10, 3), (11, 3), (12, 3), (13, 3), (14, 3), (15, 3), (16, 38), (21, 36)], 22, 264, .agg #[.int .i64 0, .string ByteArray.empty, .string ByteArray.empty, .slice none 0 0, .int .i64 0, .int .i64 0, .int .i64 0, .int .u64 0, .slice none 0 0, .slice none 0 0, .int .i64 0, .int .i64 0, .int .i64 0, .int .i64 0, .int .i64 0, .int .i64 0, .int .i64 0, .string ByteArray.empty, .int .i64 0, .int .i64 0, .int .i64 0, .slice none 0 0]⟩),
  (40, ⟨.struct [(0, 3), (1, 9), (2, 9), (3, 31), (4, 34), (8, 35), (9, 36), (10, 3), (11, 3), (12, 3), (13, 3), (14, 3), (15, 3), (16, 38), (21, 36)], 22, 264, .agg #[.int .i64 0, .string ByteArray.empty, .string ByteArray.empty, .slice none 0 0, .int .i64 0, .int .i64 0, .int .i64 0, .int .u64 0, .slice none 0 0, .slice none 0 0, .int .i64 0, .int .i64 0, .int .i64 0, .int .i64 0, .int .i64 0, .int .i64 0, .int .i64 0, .string ByteArray.empty, .int .i64 0, .int .i64 0, .int .i64 0, .slice none 0 0]⟩),
  (41, ⟨.slice 3, 1, 24, .slice none 0 0⟩),
  (42, ⟨.struct [(0, 3), (1, 3), (2, 4)], 3, 24, .agg #[.int .i64 0, .int .i64 0, .bool false]⟩),
  (43, ⟨.struct [(0, 3), (1, 3), (2, 4)], 3, 24, .agg #[.int .i64 0, .int .i64 0, .bool false]⟩),
  (44, ⟨.struct [(0, 3), (1, 3), (2, 32), (3, 41), (4, 4)], 5, 56, .agg #[.int .i64 0, .int .i64 0, .int .u64 0, .slice none 0 0, .bool false]⟩),
  (45, ⟨.struct [(0, 3), (1, 3), (2, 32), (3, 41), (4, 4)], 5, 56, .agg #[.int .i64 0, .int .i64 0, .int .u64 0, .slice none 0 0, .bool false]⟩),
  (46, ⟨.struct [(0, 3), (1, 32), (2, 41)], 3, 40, .agg #[.int .i64 0, .int .u64 0, .slice none 0 0]⟩),
  (47, ⟨.struct [(0, 3), (1, 32), (2, 41)], 3, 40, .agg #[.int .i64 0, .int .u64 0, .slice none 0 0]⟩),
  (48, ⟨.slice 109, 1, 24, .slice none 0 0⟩),
  (49, ⟨.struct [(0, 3), (1, 3), (2, 48), (3, 4)], 4, 48, .agg #[.int .i64 0, .int .i64 0, .slice none 0 0, .bool false]⟩),
  (50, ⟨.struct [(0, 3), (1, 3), (2, 48), (3, 4)], 4, 48, .agg #[.int .i64 0, .int .i64 0, .slice none 0 0, .bool false]⟩),
  (51, ⟨.struct [(0, 3), (1, 3), (2, 3), (3, 48), (4, 4)], 5, 56, .agg #[.int .i64 0, .int .i64 0, .int .i64 0, .slice none 0 0, .bool false]⟩),
  (52, ⟨.struct [(0, 3), (1, 3), (2, 3), (3, 48), (4, 4)], 5, 56, .agg #[.int .i64 0, .int .i64 0, .int .i64 0, .slice none 0 0, .bool false]⟩),
  (53, ⟨.slice 31, 1, 24, .slice none 0 0⟩),
  (54, ⟨.struct [(0, 3), (1, 3), (2, 3), (3, 53), (4, 4)], 5, 56, .agg #[.int .i64 0, .int .i64 0, .int .i64 0, .slice none 0 0, .bool false]⟩),
  (55, ⟨.struct [(0, 3), (1, 3), (2, 3), (3, 53), (4, 4)], 5, 56, .agg #[.int .i64 0, .int .i64 0, .int .i64 0, .slice none 0 0, .bool false]⟩),
  (56, ⟨.struct [(0, 34), (4, 43), (7, 45), (12, 47), (15, 50), (19, 52), (24, 55)], 29, 312, .agg #[.int .i64 0, .int .i64 0, .int .i64 0, .int .u64 0, .int .i64 0, .int .i64 0, .bool false, .int .i64 0, .int .i64 0, .int .u64 0, .slice none 0 0, .bool false, .int .i64 0, .int .u64 0, .slice none 0 0, .int .i64 0, .int .i64 0, .slice none 0 0, .bool false, .int .i64 0, .int .i64 0, .int .i64 0, .slice none 0 0, .bool false, .int .i64 0, .int .i64 0, .int .i64 0, .slice none 0 0, .bool false]⟩),
  (57, ⟨.struct [(0, 34), (4, 43), (7, 45), (12, 47), (15, 50), (19, 52), (24, 55)], 29, 312, .agg #[.int .i64 0, .int .i64 0, .int .i64 0, .int .u64 0, .int .i64 0, .int .i64 0, .bool false, .int .i64 0, .int .i64 0, .int .u64 0, .slice none 0 0, .bool false, .int .i64 0, .int .u64 0, .slice none 0 0, .int .i64 0, .int .i64 0, .slice none 0 0, .bool false, .int .i64 0, .int .i64 0, .int .i64 0, .slice none 0 0, .bool false, .int .i64 0, .int .i64 0, .int .i64 0, .slice none 0 0, .bool false]⟩),
  (58, ⟨.struct [(0, 3), (1, 3)], 2, 16, .agg #[.int .i64 0, .int .i64 0]⟩),
  (59, ⟨.struct [(0, 3), (1, 3)], 2, 16, .agg #[.int .i64 0, .int .i64 0]⟩),
  (60, ⟨.struct [(0, 3), (1, 3), (2, 4), (3, 41), (4, 3), (5, 57), (34, 57), (63, 3), (64, 3), (65, 3), (66, 3), (67, 59), (69, 36), (70, 4)], 71, 760, .agg #[.int .i64 0, .int .i64 0, .bool false, .slice none 0 0, .int .i64 0, .int .i64 0, .int .i64 0, .int .i64 0, .int .u64 0, .int .i64 0, .int .i64 0, .bool false, .int .i64 0, .int .i64 0, .int .u64 0, .slice none 0 0, .bool false, .int .i64 0, .int .u64 0, .slice none 0 0, .int .i64 0, .int .i64 0, .slice none 0 0, .bool false, .int .i64 0, .int .i64 0, .int .i64 0, .slice none 0 0, .bool false, .int .i64 0, .int .i64 0, .int .i64 0, .slice none 0 0, .bool false, .int .i64 0, .int .i64 0, .int .i64 0, .int .u64 0, .int .i64 0, .int .i64 0, .bool false, .int .i64 0, .int .i64 0, .int .u64 0, .slice none 0 0, .bool false, .int .i64 0, .int .u64 0, .slice none 0 0, .int .i64 0, .int .i64 0, .slice none 0 0, .bool false, .int .i64 0, .int .i64 0, .int .i64 0, .slice none 0 0, .bool false, .int .i64 0, .int .i64 0, .int .i64 0, .slice none 0 0, .bool false, .int .i64 0, .int .i64 0, .int .i64 0, .int .i64 0, .int .i64 0, .int .i64 0, .slice none 0 0, .bool false]⟩),
  (61, ⟨.struct [(0, 3), (1, 3), (2, 4), (3, 41), (4, 3), (5, 57), (34, 57), (63, 3), (64, 3), (65, 3), (66, 3), (67, 59), (69, 36), (70, 4)], 71, 760, .agg #[.int .i64 0, .int .i64 0, .bool false, .slice none 0 0, .int .i64 0, .int .i64 0, .int .i64 0, .int .i64 0, .int .u64 0, .int .i64 0, .int .i64 0, .bool false, .int .i64 0, .int .i64 0, .int .u64 0, .slice none 0 0, .bool false, .int .i64 0, .int .u64 0, .slice none 0 0, .int .i64 0, .int .i64 0, .slice none 0 0, .bool false, .int .i64 0, .int .i64 0, .int .i64 0, .slice none 0 0, .bool false, .int .i64 0, .int .i64 0, .int .i64 0, .slice none 0 0, .bool false, .int .i64 0, .int .i64 0, .int .i64 0, .int .u64 0, .int .i64 0, .int .i64 0, .bool false, .int .i64 0, .int .i64 0, .int .u64 0, .slice none 0 0, .bool false, .int .i64 0, .int .u64 0, .slice none 0 0, .int .i64 0, .int .i64 0, .slice none 0 0, .bool false, .int .i64 0, .int .i64 0, .int .i64 0, .slice none 0 0, .bool false, .int .i64 0, .int .i64 0, .int .i64 0, .slice none 0 0, .bool false, .int .i64 0, .int .i64 0, .int .i64 0, .int .i64 0, .int .i64 0, .int .i64 0, .slice none 0 0, .bool false]⟩),
  (62, ⟨.struct [(0, 4), (1, 40), (23, 61), (94, 3), (95, 29), (96, 30)], 97, 1088, .agg #[.bool false, .int .i64 0, .string ByteArray.empty, .string ByteArray.empty, .slice none 0 0, .int .i64 0, .int .i64 0, .int .i64 0, .int .u64 0, .slice none 0 0, .slice none 0 0, .int .i64 0, .int .i64 0, .int .i64 0, .int .i64 0, .int .i64 0, .int .i64 0, .int .i64 0, .string ByteArray.empty, .int .i64 0, .int .i64 0, .int .i64 0, .slice none 0 0, .int .i64 0, .int .i64 0, .bool false, .slice none 0 0, .int .i64 0, .int .i64 0, .int .i64 0, .int .i64 0, .int .u64 0, .int .i64 0, .int .i64 0, .bool false, .int .i64 0, .int .i64 0, .int .u64 0, .slice none 0 0, .bool false, .int .i64 0, .int .u64 0, .slice none 0 0, .int .i64 0, .int .i64 0, .slice none 0 0, .bool false, .int .i64 0, .int .i64 0, .int .i64 0, .slice none 0 0, .bool false, .int .i64 0, .int .i64 0, .int .i64 0, .slice none 0 0, .bool false, .int .i64 0, .int .i64 0, .int .i64 0, .int .u64 0, .int .i64 0, .int .i64 0, .bool false, .int .i64 0, .int .i64 0, .int .u64 0, .slice none 0 0, .bool false, .int .i64 0, .int .u64 0, .slice none 0 0, .int .i64 0, .int .i64 0, .slice none 0 0, .bool false, .int .i64 0, .int .i64 0, .int .i64 0, .slice none 0 0, .bool false, .int .i64 0, .int .i64 0, .int .i64 0, .slice none 0 0, .bool false, .int .i64 0, .int .i64 0, .int .i64 0, .int .i64 0, .int .i64 0, .int .i64 0, .slice none 0 0, .bool false, .int .i64 0, .slice none 0 0, .slice none 0 0]⟩),
  (63, ⟨.struct [(0, 4), (1, 40), (23, 61), (94, 3), (95, 29), (96, 30)], 97, 1088, .agg #[.bool false, .int .i64 0, .string ByteArray.empty, .string ByteArray.empty, .slice none 0 0, .int .i64 0, .int .i64 0, .int .i64 0, .int .u64 0, .slice none 0 0, .slice none 0 0, .int .i64 0, .int .i64 0, .int .i64 0, .int .i64 0, .int .i64 0, .int .i64 0, .int .i64 0, .string ByteArray.empty, .int .i64 0, .int .i64 0, .int .i64 0, .slice none 0 0, .int .i64 0, .int .i64 0, .bool false, .slice none 0 0, .int .i64 0, .int .i64 0, .int .i64 0, .int .i64 0, .int .u64 0, .int .i64 0, .int .i64 0, .bool false, .int .i64 0, .int .i64 0, .int .u64 0, .slice none 0 0, .bool false, .int .i64 0, .int .u64 0, .slice none 0 0, .int .i64 0, .int .i64 0, .slice none 0 0, .bool false, .int .i64 0, .int .i64 0, .int .i64 0, .slice none 0 0, .bool false, .int .i64 0, .int .i64 0, .int .i64 0, .slice none 0 0, .bool false, .int .i64 0, .int .i64 0, .int .i64 0, .int .u64 0, .int .i64 0, .int .i64 0, .bool false, .int .i64 0, .int .i64 0, .int .u64 0, .slice none 0 0, .bool false, .int .i64 0, .int .u64 0, .slice none 0 0, .int .i64 0, .int .i64 0, .slice none 0 0, .bool false, .int .i64 0, .int .i64 0, .int .i64 0, .slice none 0 0, .bool false, .int .i64 0, .int .i64 0, .int .i64 0, .slice none 0 0, .bool false, .int .i64 0, .int .i64 0, .int .i64 0, .int .i64 0, .int .i64 0, .int .i64 0, .slice none 0 0, .bool false, .int .i64 0, .slice none 0 0, .slice none 0 0]⟩),
  (71, ⟨.struct [(0, 9), (1, 3)], 2, 24, .agg #[.string ByteArray.empty, .int .i64 0]⟩),
  (72, ⟨.struct [(0, 9), (1, 3)], 2, 24, .agg #[.string ByteArray.empty, .int .i64 0]⟩),
  (74, ⟨.struct [(0, 4), (1, 3), (2, 31)], 3, 40, .agg #[.bool false, .int .i64 0, .slice none 0 0]⟩),
  (75, ⟨.struct [(0, 4), (1, 3), (2, 31)], 3, 40, .agg #[.bool false, .int .i64 0, .slice none 0 0]⟩),
  (76, ⟨.struct [(0, 4), (1, 3), (2, 9), (3, 3)], 4, 40, .agg #[.bool false, .int .i64 0, .string ByteArray.empty, .int .i64 0]⟩),
  (77, ⟨.struct [(0, 4), (1, 3), (2, 9), (3, 3)], 4, 40, .agg #[.bool false, .int .i64 0, .string ByteArray.empty, .int .i64 0]⟩),
  (80, ⟨.ptr 63, 1, 8, .pointer none⟩),
  (88, ⟨.array 14 4, 14, 14, .agg #[.bool false, .bool false, .bool false, .bool false, .bool false, .bool false, .bool false, .bool false, .bool false, .bool false, .bool false, .bool false, .bool false, .bool false]⟩),
  (108, ⟨.struct [(0, 9), (1, 3), (2, 3)], 3, 32, .agg #[.string ByteArray.empty, .int .i64 0, .int .i64 0]⟩),
  (109, ⟨.struct [(0, 9), (1, 3), (2, 3)], 3, 32, .agg #[.string ByteArray.empty, .int .i64 0, .int .i64 0]⟩),
  (117, ⟨.struct [(0, 17), (1, 17), (2, 17), (3, 9)], 4, 40, .agg #[.pointer none, .pointer none, .pointer none, .string ByteArray.empty]⟩),
  (118, ⟨.struct [(0, 17), (1, 17), (2, 17), (3, 9)], 4, 40, .agg #[.pointer none, .pointer none, .pointer none, .string ByteArray.empty]⟩),
  (119, ⟨.array 0 16, 0, 0, .agg #[]⟩),
  (120, ⟨.struct [(0, 119)], 0, 0, .agg #[]⟩),
  (121, ⟨.struct [(0, 119)], 0, 0, .agg #[]⟩),
  (123, ⟨.int .u32, 1, 4, .int .u32 0⟩),
  (124, ⟨.int .u8, 1, 1, .int .u8 0⟩),
  (125, ⟨.int .u8, 1, 1, .int .u8 0⟩),
  (127, ⟨.ptr 5, 1, 8, .pointer none⟩),
  (128, ⟨.int .i32, 1, 4, .int .i32 0⟩),
  (129, ⟨.int .i32, 1, 4, .int .i32 0⟩),
  (130, ⟨.struct [(0, 12), (1, 12), (2, 123), (3, 124), (4, 5), (5, 5), (6, 125), (7, 126), (8, 127), (9, 128), (10, 129)], 11, 48, .agg #[.int .u64 0, .int .u64 0, .int .u32 0, .int .u8 0, .int .u8 0, .int .u8 0, .int .u8 0, .nilFunc, .pointer none, .int .i32 0, .int .i32 0]⟩),
  (131, ⟨.struct [(0, 12), (1, 12), (2, 123), (3, 124), (4, 5), (5, 5), (6, 125), (7, 126), (8, 127), (9, 128), (10, 129)], 11, 48, .agg #[.int .u64 0, .int .u64 0, .int .u32 0, .int .u8 0, .int .u8 0, .int .u8 0, .int .u8 0, .nilFunc, .pointer none, .int .i32 0, .int .i32 0]⟩)]
theorem Cc : ∀ y ∈ tbl, QP Try.prog y.1 = some y.2 :=
  (List.forall_mem_cons.2 ⟨te_2, (List.forall_mem_cons.2 ⟨te_3, (List.forall_mem_cons.2 ⟨te_4, (List.forall_mem_cons.2 ⟨te_5, (List.forall_mem_cons.2 ⟨te_6, (List.forall_mem_cons.2 ⟨te_7, (List.forall_mem_cons.2 ⟨te_8, (List.forall_mem_cons.2 ⟨te_9, (List.forall_mem_cons.2 ⟨te_10, (List.forall_mem_cons.2 ⟨te_11, (List.forall_mem_cons.2 ⟨te_12, (List.forall_mem_cons.2 ⟨te_13, (List.forall_mem_cons.2 ⟨te_14, (List.forall_mem_cons.2 ⟨te_15, (List.forall_mem_cons.2 ⟨te_16, (List.forall_mem_cons.2 ⟨te_17, (List.forall_mem_cons.2 ⟨te_18, (List.forall_mem_cons.2 ⟨te_19, (List.forall_mem_cons.2 ⟨te_21, (List.forall_mem_cons.2 ⟨te_22, (List.forall_mem_cons.2 ⟨te_23, (List.forall_mem_cons.2 ⟨te_29, (List.forall_mem_cons.2 ⟨te_30, (List.forall_mem_cons.2 ⟨te_31, (List.forall_mem_cons.2 ⟨te_32, (List.forall_mem_cons.2 ⟨te_33, (List.forall_mem_cons.2 ⟨te_34, (List.forall_mem_cons.2 ⟨te_35, (List.forall_mem_cons.2 ⟨te_36, (List.forall_mem_cons.2 ⟨te_37, (List.forall_mem_cons.2 ⟨te_38, (List.forall_mem_cons.2 ⟨te_39, (List.forall_mem_cons.2 ⟨te_40, (List.forall_mem_cons.2 ⟨te_41, (List.forall_mem_cons.2 ⟨te_42, (List.forall_mem_cons.2 ⟨te_43, (List.forall_mem_cons.2 ⟨te_44, (List.forall_mem_cons.2 ⟨te_45, (List.forall_mem_cons.2 ⟨te_46, (List.forall_mem_cons.2 ⟨te_47, (List.forall_mem_cons.2 ⟨te_48, (List.forall_mem_cons.2 ⟨te_49, (List.forall_mem_cons.2 ⟨te_50, (List.forall_mem_cons.2 ⟨te_51, (List.forall_mem_cons.2 ⟨te_52, (List.forall_mem_cons.2 ⟨te_53, (List.forall_mem_cons.2 ⟨te_54, (List.forall_mem_cons.2 ⟨te_55, (List.forall_mem_cons.2 ⟨te_56, (List.forall_mem_cons.2 ⟨te_57, (List.forall_mem_cons.2 ⟨te_58, (List.forall_mem_cons.2 ⟨te_59, (List.forall_mem_cons.2 ⟨te_60, (List.forall_mem_cons.2 ⟨te_61, (List.forall_mem_cons.2 ⟨te_62, (List.forall_mem_cons.2 ⟨te_63, (List.forall_mem_cons.2 ⟨te_71, (List.forall_mem_cons.2 ⟨te_72, (List.forall_mem_cons.2 ⟨te_74, (List.forall_mem_cons.2 ⟨te_75, (List.forall_mem_cons.2 ⟨te_76, (List.forall_mem_cons.2 ⟨te_77, (List.forall_mem_cons.2 ⟨te_80, (List.forall_mem_cons.2 ⟨te_88, (List.forall_mem_cons.2 ⟨D1, (List.forall_mem_cons.2 ⟨D2, (List.forall_mem_cons.2 ⟨D3, (List.forall_mem_cons.2 ⟨D4, (List.forall_mem_cons.2 ⟨D5, (List.forall_mem_cons.2 ⟨D6, (List.forall_mem_cons.2 ⟨D7, (List.forall_mem_cons.2 ⟨D8, (List.forall_mem_cons.2 ⟨D9, (List.forall_mem_cons.2 ⟨Da, (List.forall_mem_cons.2 ⟨Db, (List.forall_mem_cons.2 ⟨Dc, (List.forall_mem_cons.2 ⟨Dd, (List.forall_mem_cons.2 ⟨De, (List.forall_mem_cons.2 ⟨Df, (by simp)⟩)⟩)⟩)⟩)⟩)⟩)⟩)⟩)⟩)⟩)⟩)⟩)⟩)⟩)⟩)⟩)⟩)⟩)⟩)⟩)⟩)⟩)⟩)⟩)⟩)⟩)⟩)⟩)⟩)⟩)⟩)⟩)⟩)⟩)⟩)⟩)⟩)⟩)⟩)⟩)⟩)⟩)⟩)⟩)⟩)⟩)⟩)⟩)⟩)⟩)⟩)⟩)⟩)⟩)⟩)⟩)⟩)⟩)⟩)⟩)⟩)⟩)⟩)⟩)⟩)⟩)⟩)⟩)⟩)⟩)⟩)⟩)⟩)⟩)⟩)⟩)⟩)⟩)⟩)
def tb : Tb Try.prog := ⟨tbl, tb_of Cc⟩
theorem mixed : Try.prog.follows .mixedOrders = true := by kernel_rfl
section
variable {E : En} {N : Nat} {P : Program} {T : Tb P} {ops : Array Oper} {o : Oper} {st : St} {d : Nat} {ty : Nat} {pos : String} {af : Array Edge} {gd : Option (Nat × Bool)} {cx : Cx} {a : Act} {w w' : World} {v : Value}
theorem Un {Q : Exit → St → Prop} {id d1 d2 k t t' ty1 ty2 e el : Nat} {pos1 pos2 : String} {af1 af2 : Array Edge} {fr : List (Nat × TV)} {H : List (QG × Option Bk)} {rows : List (List PV)} {tt : TE}
    (h1 : (⟨fr, H⟩ : St).g k = .c (.p (.l e rows))) (ht : Zt T.ty t = some tt) (hk : tt.kd = .slice el) (hd1 : Nat.blt d1 N = true) (hd2 : Nat.blt d2 N = true)
    (hT : rows = [] → Q .normal ⟨(d2, .c (.p (.v (.bool true)))) :: (d1, .c (.p (.l e rows))) :: fr, H⟩)
    (hF : Q .normal ⟨(d2, .c (.p (.v (.bool false)))) :: (d1, .c (.p (.l e rows))) :: fr, H⟩) :
    AW E N P (.region id #[⟨some d1, .move (.tmp k), ty1, pos1, af1, none⟩, ⟨some d2, .binOp .eql t (.tmp d1) (.const (.slice none 0 0)) t', ty2, pos2, af2, none⟩] false) Q ⟨fr, H⟩ := by
  intro cx a w hr
  have hd1 := Nat.le_of_ble_eq_true hd1
  have hd2 := Nat.le_of_ble_eq_true hd2
  have r0 := hr.fr k
  rw [h1] at r0
  refine wp_region ?_
  show wpOps P _ _ [0, 1] a w
  rw [wpOps_cons]
  unfold wpOp
  simp only [List.getElem?_toArray, List.getElem?_cons_zero]
  have hr1 : Kb E N cx ⟨(d1, .c (.p (.l e rows))) :: fr, H⟩ (a.put (some d1) (a.eval (.tmp k))) w :=
    hr.put (o := ⟨some d1, .move (.tmp k), ty1, pos1, af1, none⟩) (fun d h => by cases h; exact hd1) r0
  have step2 : wpOps P #[⟨some d1, .move (.tmp k), ty1, pos1, af1, none⟩, ⟨some d2, .binOp .eql t (.tmp d1) (.const (.slice none 0 0)) t', ty2, pos2, af2, none⟩] (fun e a' w' => ∃ st' cx', Q e st' ∧ Kb E N cx' st' a' w') [1] (a.put (some d1) (a.eval (.tmp k))) w := by
    rw [wpOps_cons]
    unfold wpOp
    simp only [List.getElem?_toArray, List.getElem?_cons_succ, List.getElem?_cons_zero]
    have r1 : RT cx w (⟨(d1, .c (.p (.l e rows))) :: fr, H⟩ : St).h (.c (.p (.l e rows))) ((a.put (some d1) (a.eval (.tmp k))).tmps.getD d1 undef) := by
      have h := hr1.fr d1
      have hg : (⟨(d1, .c (.p (.l e rows))) :: fr, H⟩ : St).g d1 = .c (.p (.l e rows)) := by simp [St.g, Zt]
      rwa [hg] at h
    generalize a.put (some d1) (a.eval (.tmp k)) = a1 at hr1 r1
    have r2 : RP w cx.A (.l e rows) (a1.eval (.tmp d1)) := r1.2
    have hw : Region.wanted (⟨some d2, .binOp .eql t (.tmp d1) (.const (.slice none 0 0)) t', ty2, pos2, af2, none⟩ : Oper) (yielded #[⟨some d1, .move (.tmp k), ty1, pos1, af1, none⟩, ⟨some d2, .binOp .eql t (.tmp d1) (.const (.slice none 0 0)) t', ty2, pos2, af2, none⟩] a1.tmps) = true := rfl
    rw [if_pos hw]
    revert r2
    generalize hv : a1.eval (.tmp d1) = v
    intro r2
    have hrun : ∀ x n c, v = .slice x n c → (execOp a1.eval ⟨some d2, .binOp .eql t (.tmp d1) (.const (.slice none 0 0)) t', ty2, pos2, af2, none⟩).run P w = .ok (.value (.bool x.isNone)) w := by
      intro x n c e1
      have hb := Lib.run_eql_slice_nil w t el x n c 0 0 (ZH ht hk)
      have hg : (eqGuard .eql t (.tmp d1) (.const (.slice none 0 0)) (.slice x n c) (.slice none 0 0)).run P w = .ok () w := Jy (fun cs => by simp) (by simp) w
      simp only [execOp, hv, e1, Sem.run_bind]
      rw [show a1.eval (.const (.slice none 0 0)) = .slice none 0 0 from rfl, hg]
      simp only [Result.andThen_ok, hb, Sem.run_pure]
    refine .inl ?_
    cases r2 with
    | l _ _ x cap c q1 q2 q3 q4 q5 =>
      refine Jx (v := .bool x.isNone) (w' := w) (hrun x _ _ rfl) ?_
      have hput : ∀ b : Bool, Kb E N cx ⟨(d2, .c (.p (.v (.bool b)))) :: (d1, .c (.p (.l e rows))) :: fr, H⟩ (a1.put (some d2) (.bool b)) w := fun b =>
        hr1.put (o := ⟨some d2, .binOp .eql t (.tmp d1) (.const (.slice none 0 0)) t', ty2, pos2, af2, none⟩) (fun d h => by cases h; exact hd2) ⟨.inr rfl, .v _ rfl⟩
      cases x with
      | none =>
        have h0 : rows = [] := by
          rcases q4 with h | ⟨g, off, h, _⟩
          · exact h
          · cases h
        exact ⟨_, cx, hT h0, hput true⟩
      | some x => exact ⟨_, cx, hF, hput false⟩
  have hw : Region.wanted (⟨some d1, .move (.tmp k), ty1, pos1, af1, none⟩ : Oper) (yielded #[⟨some d1, .move (.tmp k), ty1, pos1, af1, none⟩, ⟨some d2, .binOp .eql t (.tmp d1) (.const (.slice none 0 0)) t', ty2, pos2, af2, none⟩] a.tmps) = true := rfl
  rw [if_pos hw]
  refine .inl (Jx (v := a.eval (.tmp k)) (w' := w) ?_ step2)
  simp only [execOp, Sem.run_bind, Sem.run_pure]
end
theorem Z {α : Sort _} {a : α} : a = a := rfl
section
variable {P : Program} {T : Tb P} {fn : Func} {st : St} {s1 s2 s3 : Nat} {x1 x2 x3 : PV} {c1 : CV} {y1 : RV} {cs : List CV} {xs : List RV} {os : List (Option QG)} {bs : List QG} {b1 : QG} {e1 m1 : Nat} {ro : List (List PV)}
theorem K8 (h : fn.results.toList = [.tmp s1]) (a : st.g s1 = .c (.p x1)) : UK T fn [.c (.p x1)] .ret st := ⟨.inr rfl, _, _, _, h ▸ .cons (.p a) .nil, .cons (.c (.p _)) .nil, rfl, rfl⟩
theorem BP (h : fn.results.toList = [.tmp s1]) (a : st.g s1 = .c (.sl b1 0 m1)) (hb : st.h b1 = some (.row e1 ro true)) (hn : ro.length = m1) : UK T fn [.c (.own e1 ro)] .ret st := ⟨.inr rfl, _, _, _, h ▸ .cons (.s a) .nil, .cons (.c (.own hb hn)) .nil, rfl, rfl⟩
theorem fq3 (h : fn.results.toList = [.tmp s1, .tmp s2]) (a : st.g s1 = .c (.p x1)) (b : st.g s2 = .c (.p x2)) : UK T fn [.c (.p x1), .c (.p x2)] .ret st := ⟨.inr rfl, _, _, _, h ▸ .cons (.p a) (.cons (.p b) .nil), .cons (.c (.p _)) (.cons (.c (.p _)) .nil), rfl, rfl⟩
theorem fq4 (h : fn.results.toList = [.tmp s1, .tmp s2, .tmp s3]) (a : st.g s1 = .c (.p x1)) (b : st.g s2 = .c (.p x2)) (c : st.g s3 = .c (.p x3)) : UK T fn [.c (.p x1), .c (.p x2), .c (.p x3)] .ret st := ⟨.inr rfl, _, _, _, h ▸ .cons (.p a) (.cons (.p b) (.cons (.p c) .nil)), .cons (.c (.p _)) (.cons (.c (.p _)) (.cons (.c (.p _)) .nil)), rfl, rfl⟩
theorem fq5 (h : fn.results.toList = [.tmp s1, .tmp s2]) (a : st.g s1 = .c (.sl b1 0 m1)) (b : st.g s2 = .c (.p x2)) (hb : st.h b1 = some (.row e1 ro true)) (hn : ro.length = m1) : UK T fn [.c (.own e1 ro), .c (.p x2)] .ret st := ⟨.inr rfl, _, _, _, h ▸ .cons (.s a) (.cons (.p b) .nil), .cons (.c (.own hb hn)) (.cons (.c (.p _)) .nil), rfl, rfl⟩
theorem Dg (h : fn.results.toList = [.tmp s1, .tmp s2]) (a : st.g s1 = .c (.p (.v (.slice none 0 0)))) (b : st.g s2 = .c (.p x2)) (he : Nat.ble 1 e1 = true) : UK T fn [.c (.own e1 []), .c (.p x2)] .ret st := ⟨.inr rfl, _, _, _, h ▸ .cons (.p a) (.cons (.p b) .nil), .cons (.c (.nilo _ (Nat.le_of_ble_eq_true he))) (.cons (.c (.p _)) .nil), rfl, rfl⟩
theorem AG.c {c : CV} {cs cs' : List CV} (h : AG st cs cs') : AG st (c :: cs) (c :: cs') := .cons (.k _) h
theorem WK.c {x : PV} {cs : List CV} {xs : List PV} (h : WK st cs xs) : WK st (.p x :: cs) (x :: xs) := .cons (.k _) h
theorem Zz (h : VH st cs xs os bs) : VH st (.p x1 :: cs) (.p x1 :: xs) (none :: os) bs := .cons (.p _) h
theorem XD.pp {xp : List PV} (h : XD st cs xp bs) : XD st (.p x1 :: cs) (x1 :: xp) bs := .cons (.p _) h
theorem VH.pp (h : VH st cs xs os bs) : VH st (.p x1 :: cs) (.p x1 :: xs) (none :: os) bs := .cons (.p _) h
theorem fqn (h : VH st cs xs os bs) : VH st (.p (.v (.slice none 0 0)) :: cs) (.p (.l e1 []) :: xs) (none :: os) bs := .cons (.nil _) h
theorem fqo (he : Nat.ble 1 e1 = true) (h : VH st cs xs os bs) : VH st (.p (.v (.slice none 0 0)) :: cs) (.own e1 [] :: xs) (none :: os) bs := .cons (.nilo _ (Nat.le_of_ble_eq_true he)) h
end
theorem K9 {E : En} {N : Nat} : type_of% (@Un E N Try.prog tb) := @Un E N Try.prog tb
theorem Zi {α : Type} {f : α → List PV} {L L' : List α} {E : En} {N : Nat} : type_of% (@Uj α f L L' E N Try.prog tb) := @Uj α f L L' E N Try.prog tb
theorem Ka {E : En} {N : Nat} : type_of% (@Uk E N Try.prog tb) := @Uk E N Try.prog tb
theorem JV {E : En} {N : Nat} : type_of% (@Ym E N Try.prog tb) := @Ym E N Try.prog tb
theorem Vn {E : En} {N : Nat} : type_of% (@Br E N Try.prog tb) := @Br E N Try.prog tb
theorem Qq {α : Type} {f : α → List PV} {L : List α} {E : En} {N : Nat} : type_of% (@Ad α f L E N Try.prog tb) := @Ad α f L E N Try.prog tb
theorem ZS {α : Type} {f : α → List PV} {L : List α} {E : En} {N : Nat} : type_of% (@Uh α f L E N Try.prog tb) := @Uh α f L E N Try.prog tb
theorem VS {E : En} {N : Nat} : type_of% (@Yk E N Try.prog tb) := @Yk E N Try.prog tb
theorem Qw {α : Type} {f : α → List PV} {L : List α} {E : En} {N : Nat} : type_of% (@Ae α f L E N Try.prog tb) := @Ae α f L E N Try.prog tb
theorem JB {α : Type} {f : α → List PV} {L : List α} {E : En} {N : Nat} : type_of% (@Ui α f L E N Try.prog tb) := @Ui α f L E N Try.prog tb
theorem X6 {E : En} {N : Nat} : type_of% (@Bt E N Try.prog tb) := @Bt E N Try.prog tb
theorem Y4 {E : En} {N : Nat} : type_of% (@Bs E N Try.prog tb) := @Bs E N Try.prog tb
theorem Jc {α : Type} {f : α → List PV} {L : List α} {E : En} {N : Nat} : type_of% (@Yl α f L E N Try.prog tb) := @Yl α f L E N Try.prog tb
theorem ZO {E : En} {N : Nat} : type_of% (@XG E N Try.prog tb) := @XG E N Try.prog tb
theorem Kh {E : En} {N : Nat} : type_of% (@YJ E N Try.prog tb) := @YJ E N Try.prog tb
theorem Kc {E : En} {N : Nat} : type_of% (@Wg E N Try.prog tb) := @Wg E N Try.prog tb
theorem ZJ {E : En} {N : Nat} : type_of% (@Yj E N Try.prog tb) := @Yj E N Try.prog tb
theorem Yp {E : En} {N : Nat} : type_of% (@XE E N Try.prog tb) := @XE E N Try.prog tb
theorem QF {E : En} {N : Nat} : type_of% (@YG E N Try.prog tb) := @YG E N Try.prog tb
theorem Q1 {E : En} {N : Nat} : type_of% (@YF E N Try.prog tb) := @YF E N Try.prog tb
theorem Kp {E : En} {N : Nat} : type_of% (@Yg E N Try.prog tb) := @Yg E N Try.prog tb
theorem Q2 {E : En} {N : Nat} : type_of% (@Xz E N Try.prog tb) := @Xz E N Try.prog tb
theorem Qo {E : En} {N : Nat} : type_of% (@Yf E N Try.prog tb) := @Yf E N Try.prog tb
theorem KR {E : En} {N : Nat} : type_of% (@XA E N Try.prog tb) := @XA E N Try.prog tb
theorem Qi {E : En} {N : Nat} : type_of% (@Xi E N Try.prog tb) := @Xi E N Try.prog tb
theorem QQ {E : En} {N : Nat} : type_of% (@XB E N Try.prog tb) := @XB E N Try.prog tb
theorem Y5 {E : En} {N : Nat} : type_of% (@Xj E N Try.prog tb) := @Xj E N Try.prog tb
theorem Zq {E : En} {N : Nat} : type_of% (@Uf E N Try.prog tb) := @Uf E N Try.prog tb
theorem Za {E : En} {N : Nat} : type_of% (@Ue E N Try.prog tb) := @Ue E N Try.prog tb
theorem KZ {α : Type} {f : α → List PV} {L : List α} {E : En} {N : Nat} : type_of% (@Bq α f L E N Try.prog tb) := @Bq α f L E N Try.prog tb
theorem Vw {α : Type} {f : α → List PV} {L : List α} {E : En} {N : Nat} : type_of% (@Af α f L E N Try.prog tb) := @Af α f L E N Try.prog tb
set_option maxRecDepth 100000
set_option maxHeartbeats 4000000
def JW (a0 : Int) (Q : ((List Q4) × Int) → Prop) : Prop :=
 ((((bif decide (a0 < 1) then true else decide (a0 > 64))) = true → Q (([] : (List Q4)), 5)) ∧ (((bif decide (a0 < 1) then true else decide (a0 > 64))) = false → jn (fun (p2 : (List Q4)) => Q (p2, 0)) (fun (J2 : (List Q4) → Prop) => lp (fun (X3 : (List Q4) × Int → Prop) (s3 : (List Q4) × Int) => (((decide (s3.2 < a0)) = true → ((0 : Int) ≤ 4 ∧ (4 : Int) * ((40 : Nat) : Int) ≤ 140737488355328) ∧ ((0 : Int) ≤ 4 ∧ (4 : Int) * ((40 : Nat) : Int) ≤ 140737488355328) ∧ ((s3.1.length + ([(Q4.mk false (Qs.mk 0 ByteArray.empty ByteArray.empty ([] : (List ByteArray)) (Qe.mk 0 0 0 0) ([] : (List Qt)) ([] : (List Int)) 0 0 0 0 0 0 (QI.mk 0 ByteArray.empty 0 0 0) ([] : (List Int))) (Qn.mk 0 0 false ([] : (List Int)) 0 (Qd.mk (Qe.mk 0 0 0 0) (QA.mk 0 0 false) (Qb.mk 0 0 0 ([] : (List Int)) false) (Qh.mk 0 0 ([] : (List Int))) (Qu.mk 0 0 ([] : (List Q5)) false) (Qc.mk 0 0 0 ([] : (List Q5)) false) (Qk.mk 0 0 0 ([] : (List (List ByteArray))) false)) (Qd.mk (Qe.mk 0 0 0 0) (QA.mk 0 0 false) (Qb.mk 0 0 0 ([] : (List Int)) false) (Qh.mk 0 0 ([] : (List Int))) (Qu.mk 0 0 ([] : (List Q5)) false) (Qc.mk 0 0 0 ([] : (List Q5)) false) (Qk.mk 0 0 0 ([] : (List (List ByteArray))) false)) 0 0 0 0 (QS.mk 0 0) ([] : (List Int)) false) 0 (List.replicate (Int.toNat 4) (Qf.mk false 0 ([] : (List ByteArray)))) (List.replicate (Int.toNat 4) (Qr.mk false 0 ByteArray.empty 0)))]).length) * 1088 ≤ 140737488355328) ∧ X3 ((s3.1 ++ ([(Q4.mk false (Qs.mk 0 ByteArray.empty ByteArray.empty ([] : (List ByteArray)) (Qe.mk 0 0 0 0) ([] : (List Qt)) ([] : (List Int)) 0 0 0 0 0 0 (QI.mk 0 ByteArray.empty 0 0 0) ([] : (List Int))) (Qn.mk 0 0 false ([] : (List Int)) 0 (Qd.mk (Qe.mk 0 0 0 0) (QA.mk 0 0 false) (Qb.mk 0 0 0 ([] : (List Int)) false) (Qh.mk 0 0 ([] : (List Int))) (Qu.mk 0 0 ([] : (List Q5)) false) (Qc.mk 0 0 0 ([] : (List Q5)) false) (Qk.mk 0 0 0 ([] : (List (List ByteArray))) false)) (Qd.mk (Qe.mk 0 0 0 0) (QA.mk 0 0 false) (Qb.mk 0 0 0 ([] : (List Int)) false) (Qh.mk 0 0 ([] : (List Int))) (Qu.mk 0 0 ([] : (List Q5)) false) (Qc.mk 0 0 0 ([] : (List Q5)) false) (Qk.mk 0 0 0 ([] : (List (List ByteArray))) false)) 0 0 0 0 (QS.mk 0 0) ([] : (List Int)) false) 0 (List.replicate (Int.toNat 4) (Qf.mk false 0 ([] : (List ByteArray)))) (List.replicate (Int.toNat 4) (Qr.mk false 0 ByteArray.empty 0)))])), (IntKind.i64.wrap (s3.2 + 1)))) ∧ ((decide (s3.2 < a0)) = false → J2 s3.1))) (([] : (List Q4)), 0))))
def Zr (a0 : Int) (r : (List Q4) × Int) : Prop := JW a0 fun x => r = x
theorem JX (a0 : Int) (r : (List Q4) × Int) (h : Zr a0 r) : Qz Try.prog 4 [.c (.v (.int .i64 a0))] [.c (.own 97 (List.map Qj r.1)), .c (.p (.v (.int .i64 r.2)))] [] := by
  refine Qx tb Try.func4 Z (by kernel_rfl) Z Z (Nat.le_of_ble_eq_true Z) Z ?_;intro E;unfold Zr JW at h;refine ZN (fun Q hQ => ?_);refine tk fun L hL => QD Z Z <| QD Z Z <| rt (hL _ ?_);refine sk fun L1 hL1 => tk fun L hL => mv Z <| u0 (Q9 (c := decide (a0 < 1)) Z Z Z Z Z) <| mv Z <| Q3 Z Z Q7 (fun hg => Qa Z Z) <| Q3 Z Z Q7 (fun hg => Q9 (c := decide (a0 > 64)) (Q8 hg) Z Z Z Z) <| u0 (Qp (v := .bool true) (w := .bool (decide (a0 > 64))) Z Z Q7 Z QB Z Z Z) <| rt (hL _ ?_);refine ZZ Z h (fun h => ?_) fun h => ?_
  · refine tk fun L hL => QD Z Z <| QD Z Z <| rt (hL _ ?_);obtain rfl := h;exact Qm (hQ _ _ (Dg Z Z Z Z))
  · refine Qv (hL1 _ ?_);refine ZI (st' := ⟨[(0, .c (.p (.v (.int .i64 a0))))], []⟩) (Z9.nm [0] [] Z Z) ?_;refine tk fun L hL => QD Z Z <| rt (hL _ ?_);refine Km (fun (p2 : (List Q4)) => (⟨[(4, .c (.sl (4, 1000) 0 (List.map Qj p2).length))], [((4, 1000), some (.row 97 (List.map Qj p2) true))]⟩ : St)) h (fun p2 h => ?_) (fun J2 L2 hL2 h => ?_)
    · refine tk fun L hL => mv Z <| QD Z Z <| QD Z Z <| rt (hL _ ?_);obtain rfl := h;exact Qm (hQ _ _ (fq5 Z Z Z Z Z))
    · refine tk fun L hL => mv Z <| u0 (Qa Z Z) <| rt (hL _ ?_);refine QE ?_;refine KY (fun (s3 : (List Q4) × Int) => (⟨[(4, .c (.sl (4, 1000) 0 (List.map Qj s3.1).length)), (11, .c (.p (.v (.int .i64 a0)))), (12, .c (.p (.v (.int .i64 s3.2))))], [((4, 1000), some (.row 97 (List.map Qj s3.1) true))]⟩ : St)) h ((Z9.blk (4, 1050) 97 Z Z Z).trans ((Z9.slot 4 Z (.nilo (b := (4, 1050)) Z)).trans (Z9.nm [4, 11, 12] [((4, 1050), (4, 1000))] Z (by kernel_rfl)))) (fun X3 L3 hL3 s3 h => ?_);refine tk fun L hL => u0 (Q9 (c := decide (s3.2 < a0)) Z Z Z Z Z) <| rt (hL _ ?_);refine sk fun L4 hL4 => ?_;refine ZZ Z h (fun h => ?_) fun h => ?_
      · refine Qv (hL4 _ ?_);refine sk fun L5 hL5 => QE <| dl mixed (fun L hL => ?_);refine mv Z ?_;obtain ⟨hm6, h⟩ := h;refine u1 (X6 (f := QC) (z := (Qf.mk false 0 ([] : (List ByteArray)))) hm6 Z Z Z Z Z Z Z Z Z (.c (.c (.cons (.nil _) .nil))) Z Z) ?_;obtain ⟨hm7, h⟩ := h;refine u1 (X6 (f := QU) (z := (Qr.mk false 0 ByteArray.empty 0)) hm7 Z Z Z Z Z Z Z Z Z (.c (.c (.c (.c .nil)))) Z Z) <| u0 (ZJ Z Z Z Z Z Z Z) <| ul (Z1 (b := (16, 0)) Z Z (Z1 (b := (15, 0)) Z Z (JV (rows := List.map Qj [(Q4.mk false (Qs.mk 0 ByteArray.empty ByteArray.empty ([] : (List ByteArray)) (Qe.mk 0 0 0 0) ([] : (List Qt)) ([] : (List Int)) 0 0 0 0 0 0 (QI.mk 0 ByteArray.empty 0 0 0) ([] : (List Int))) (Qn.mk 0 0 false ([] : (List Int)) 0 (Qd.mk (Qe.mk 0 0 0 0) (QA.mk 0 0 false) (Qb.mk 0 0 0 ([] : (List Int)) false) (Qh.mk 0 0 ([] : (List Int))) (Qu.mk 0 0 ([] : (List Q5)) false) (Qc.mk 0 0 0 ([] : (List Q5)) false) (Qk.mk 0 0 0 ([] : (List (List ByteArray))) false)) (Qd.mk (Qe.mk 0 0 0 0) (QA.mk 0 0 false) (Qb.mk 0 0 0 ([] : (List Int)) false) (Qh.mk 0 0 ([] : (List Int))) (Qu.mk 0 0 ([] : (List Q5)) false) (Qc.mk 0 0 0 ([] : (List Q5)) false) (Qk.mk 0 0 0 ([] : (List (List ByteArray))) false)) 0 0 0 0 (QS.mk 0 0) ([] : (List Int)) false) 0 (List.replicate (Int.toNat 4) (Qf.mk false 0 ([] : (List ByteArray)))) (List.replicate (Int.toNat 4) (Qr.mk false 0 ByteArray.empty 0)))]) Z Z Z Z Z Z Z Z Z (.c (.c (.c (.c (.cons (.nil _) (.c (.c (.c (.c (.cons (.nil _) (.cons (.nil _) (.c (.c (.c (.c (.c (.c (.c (.c (.c (.c (.c (.cons (.nil _) (.c (.c (.c (.cons (.nil _) (.c (.c (.c (.c (.c (.c (.c (.c (.c (.c (.c (.cons (.nil _) (.c (.c (.c (.cons (.nil _) (.c (.c (.cons (.nil _) (.c (.c (.c (.c (.cons (.nil _) (.c (.c (.c (.c (.cons (.nil _) (.c (.c (.c (.c (.c (.c (.c (.c (.c (.c (.c (.cons (.nil _) (.c (.c (.c (.cons (.nil _) (.c (.c (.cons (.nil _) (.c (.c (.c (.c (.cons (.nil _) (.c (.c (.c (.c (.cons (.nil _) (.c (.c (.c (.c (.c (.c (.c (.cons (.nil _) (.c (.c (.cons (.fr Z (QO Z)) (.cons (.fr Z (QO Z)) .nil))))))))))))))))))))))))))))))))))))))))))))))))))))))))))))))))))))))))))))))))))))))))))))))))) Z Z Z))) ?_
        obtain ⟨hm8, h⟩ := h;refine ul (Zi (f := Qj) (L := s3.1) (L' := [(Q4.mk false (Qs.mk 0 ByteArray.empty ByteArray.empty ([] : (List ByteArray)) (Qe.mk 0 0 0 0) ([] : (List Qt)) ([] : (List Int)) 0 0 0 0 0 0 (QI.mk 0 ByteArray.empty 0 0 0) ([] : (List Int))) (Qn.mk 0 0 false ([] : (List Int)) 0 (Qd.mk (Qe.mk 0 0 0 0) (QA.mk 0 0 false) (Qb.mk 0 0 0 ([] : (List Int)) false) (Qh.mk 0 0 ([] : (List Int))) (Qu.mk 0 0 ([] : (List Q5)) false) (Qc.mk 0 0 0 ([] : (List Q5)) false) (Qk.mk 0 0 0 ([] : (List (List ByteArray))) false)) (Qd.mk (Qe.mk 0 0 0 0) (QA.mk 0 0 false) (Qb.mk 0 0 0 ([] : (List Int)) false) (Qh.mk 0 0 ([] : (List Int))) (Qu.mk 0 0 ([] : (List Q5)) false) (Qc.mk 0 0 0 ([] : (List Q5)) false) (Qk.mk 0 0 0 ([] : (List (List ByteArray))) false)) 0 0 0 0 (QS.mk 0 0) ([] : (List Int)) false) 0 (List.replicate (Int.toNat 4) (Qf.mk false 0 ([] : (List ByteArray)))) (List.replicate (Int.toNat 4) (Qr.mk false 0 ByteArray.empty 0)))]) hm8 Z Z Z Z Z Z Z Z Z Z Z (Vw KQ Z Z Z Z Z Z)) <| QD Z Z <| rd (hL _ (hL5 _ ?_))
        refine tl fun L hL => u0 (Zu Z Z Z Z Z) <| mv Z ?_;refine rt (hL _ (hL3 _ _ h (Z9.nm [4, 11, 12] [((19, 0), (4, 1000))] Z (by kernel_rfl))))
      · refine Zv (hL2 _ _ h (Z9.nm [4] [((4, 1000), (4, 1000))] Z (by kernel_rfl)))
def Ky (a0 : Int) (Q : ((List Q4) × Int) → Prop) : Prop :=
 ((((bif decide (a0 < 1) then true else decide (a0 > 64))) = true → Q (([] : (List Q4)), 5)) ∧ (((bif decide (a0 < 1) then true else decide (a0 > 64))) = false → jn (fun (p2 : (List Q4)) => Q (p2, 0)) (fun (J2 : (List Q4) → Prop) => lp (fun (X3 : (List Q4) × Int → Prop) (s3 : (List Q4) × Int) => (((decide (s3.2 < a0)) = true → ((0 : Int) ≤ 4 ∧ (4 : Int) * ((40 : Nat) : Int) ≤ 140737488355328) ∧ ((0 : Int) ≤ 4 ∧ (4 : Int) * ((40 : Nat) : Int) ≤ 140737488355328) ∧ ((s3.1.length + ([(Q4.mk false (Qs.mk 0 ByteArray.empty ByteArray.empty ([] : (List ByteArray)) (Qe.mk 0 0 0 0) ([] : (List Qt)) ([] : (List Int)) 0 0 0 0 0 0 (QI.mk 0 ByteArray.empty 0 0 0) ([] : (List Int))) (Qn.mk 0 0 false ([] : (List Int)) 0 (Qd.mk (Qe.mk 0 0 0 0) (QA.mk 0 0 false) (Qb.mk 0 0 0 ([] : (List Int)) false) (Qh.mk 0 0 ([] : (List Int))) (Qu.mk 0 0 ([] : (List Q5)) false) (Qc.mk 0 0 0 ([] : (List Q5)) false) (Qk.mk 0 0 0 ([] : (List (List ByteArray))) false)) (Qd.mk (Qe.mk 0 0 0 0) (QA.mk 0 0 false) (Qb.mk 0 0 0 ([] : (List Int)) false) (Qh.mk 0 0 ([] : (List Int))) (Qu.mk 0 0 ([] : (List Q5)) false) (Qc.mk 0 0 0 ([] : (List Q5)) false) (Qk.mk 0 0 0 ([] : (List (List ByteArray))) false)) 0 0 0 0 (QS.mk 0 0) ([] : (List Int)) false) 0 (List.replicate (Int.toNat 4) (Qf.mk false 0 ([] : (List ByteArray)))) (List.replicate (Int.toNat 4) (Qr.mk false 0 ByteArray.empty 0)))]).length) * 1088 ≤ 140737488355328) ∧ X3 ((s3.1 ++ ([(Q4.mk false (Qs.mk 0 ByteArray.empty ByteArray.empty ([] : (List ByteArray)) (Qe.mk 0 0 0 0) ([] : (List Qt)) ([] : (List Int)) 0 0 0 0 0 0 (QI.mk 0 ByteArray.empty 0 0 0) ([] : (List Int))) (Qn.mk 0 0 false ([] : (List Int)) 0 (Qd.mk (Qe.mk 0 0 0 0) (QA.mk 0 0 false) (Qb.mk 0 0 0 ([] : (List Int)) false) (Qh.mk 0 0 ([] : (List Int))) (Qu.mk 0 0 ([] : (List Q5)) false) (Qc.mk 0 0 0 ([] : (List Q5)) false) (Qk.mk 0 0 0 ([] : (List (List ByteArray))) false)) (Qd.mk (Qe.mk 0 0 0 0) (QA.mk 0 0 false) (Qb.mk 0 0 0 ([] : (List Int)) false) (Qh.mk 0 0 ([] : (List Int))) (Qu.mk 0 0 ([] : (List Q5)) false) (Qc.mk 0 0 0 ([] : (List Q5)) false) (Qk.mk 0 0 0 ([] : (List (List ByteArray))) false)) 0 0 0 0 (QS.mk 0 0) ([] : (List Int)) false) 0 (List.replicate (Int.toNat 4) (Qf.mk false 0 ([] : (List ByteArray)))) (List.replicate (Int.toNat 4) (Qr.mk false 0 ByteArray.empty 0)))])), (IntKind.i64.wrap (s3.2 + 1)))) ∧ ((decide (s3.2 < a0)) = false → J2 s3.1))) (([] : (List Q4)), 0))))
def Zf (a0 : Int) (r : (List Q4) × Int) : Prop := Ky a0 fun x => r = x
theorem JI (a0 : Int) (r : (List Q4) × Int) (h : Zf a0 r) : Qz Try.prog 5 [.c (.v (.int .i64 a0))] [.c (.own 97 (List.map Qj r.1)), .c (.p (.v (.int .i64 r.2)))] [] := by
  refine Qx tb Try.func5 Z (by kernel_rfl) Z Z (Nat.le_of_ble_eq_true Z) Z ?_;intro E;unfold Zf Ky at h;refine ZN (fun Q hQ => ?_);refine tk fun L hL => QD Z Z <| QD Z Z <| rt (hL _ ?_);refine sk fun L1 hL1 => tk fun L hL => mv Z <| u0 (Q9 (c := decide (a0 < 1)) Z Z Z Z Z) <| mv Z <| Q3 Z Z Q7 (fun hg => Qa Z Z) <| Q3 Z Z Q7 (fun hg => Q9 (c := decide (a0 > 64)) (Q8 hg) Z Z Z Z) <| u0 (Qp (v := .bool true) (w := .bool (decide (a0 > 64))) Z Z Q7 Z QB Z Z Z) <| rt (hL _ ?_);refine ZZ Z h (fun h => ?_) fun h => ?_
  · refine tk fun L hL => QD Z Z <| QD Z Z <| rt (hL _ ?_);obtain rfl := h;exact Qm (hQ _ _ (Dg Z Z Z Z))
  · refine Qv (hL1 _ ?_);refine ZI (st' := ⟨[(0, .c (.p (.v (.int .i64 a0))))], []⟩) (Z9.nm [0] [] Z Z) ?_;refine tk fun L hL => QD Z Z <| rt (hL _ ?_);refine Km (fun (p2 : (List Q4)) => (⟨[(4, .c (.sl (4, 1000) 0 (List.map Qj p2).length))], [((4, 1000), some (.row 97 (List.map Qj p2) true))]⟩ : St)) h (fun p2 h => ?_) (fun J2 L2 hL2 h => ?_)
    · refine tk fun L hL => mv Z <| QD Z Z <| QD Z Z <| rt (hL _ ?_);obtain rfl := h;exact Qm (hQ _ _ (fq5 Z Z Z Z Z))
    · refine tk fun L hL => QD Z Z <| rt (hL _ ?_);refine QE ?_;refine KY (fun (s3 : (List Q4) × Int) => (⟨[(0, .c (.p (.v (.int .i64 a0)))), (4, .c (.sl (4, 1000) 0 (List.map Qj s3.1).length)), (5, .c (.p (.v (.int .i64 s3.2))))], [((4, 1000), some (.row 97 (List.map Qj s3.1) true))]⟩ : St)) h ((Z9.blk (4, 1050) 97 Z Z Z).trans ((Z9.slot 4 Z (.nilo (b := (4, 1050)) Z)).trans (Z9.nm [0, 4, 5] [((4, 1050), (4, 1000))] Z (by kernel_rfl)))) (fun X3 L3 hL3 s3 h => ?_);refine sk fun L4 hL4 => tk fun L hL => mv Z <| mv Z <| u0 (Q9 (c := decide (s3.2 < a0)) Z Z Z Z Z) <| rt (hL _ ?_);refine ZZ Z h (fun h => ?_) fun h => ?_
      · refine Qv (hL4 _ ?_);refine sk fun L5 hL5 => QE <| dl mixed (fun L hL => ?_);refine mv Z ?_;obtain ⟨hm6, h⟩ := h;refine u1 (X6 (f := QC) (z := (Qf.mk false 0 ([] : (List ByteArray)))) hm6 Z Z Z Z Z Z Z Z Z (.c (.c (.cons (.nil _) .nil))) Z Z) ?_;obtain ⟨hm7, h⟩ := h;refine u1 (X6 (f := QU) (z := (Qr.mk false 0 ByteArray.empty 0)) hm7 Z Z Z Z Z Z Z Z Z (.c (.c (.c (.c .nil)))) Z Z) <| u0 (ZJ Z Z Z Z Z Z Z) <| ul (Z1 (b := (19, 0)) Z Z (Z1 (b := (18, 0)) Z Z (JV (rows := List.map Qj [(Q4.mk false (Qs.mk 0 ByteArray.empty ByteArray.empty ([] : (List ByteArray)) (Qe.mk 0 0 0 0) ([] : (List Qt)) ([] : (List Int)) 0 0 0 0 0 0 (QI.mk 0 ByteArray.empty 0 0 0) ([] : (List Int))) (Qn.mk 0 0 false ([] : (List Int)) 0 (Qd.mk (Qe.mk 0 0 0 0) (QA.mk 0 0 false) (Qb.mk 0 0 0 ([] : (List Int)) false) (Qh.mk 0 0 ([] : (List Int))) (Qu.mk 0 0 ([] : (List Q5)) false) (Qc.mk 0 0 0 ([] : (List Q5)) false) (Qk.mk 0 0 0 ([] : (List (List ByteArray))) false)) (Qd.mk (Qe.mk 0 0 0 0) (QA.mk 0 0 false) (Qb.mk 0 0 0 ([] : (List Int)) false) (Qh.mk 0 0 ([] : (List Int))) (Qu.mk 0 0 ([] : (List Q5)) false) (Qc.mk 0 0 0 ([] : (List Q5)) false) (Qk.mk 0 0 0 ([] : (List (List ByteArray))) false)) 0 0 0 0 (QS.mk 0 0) ([] : (List Int)) false) 0 (List.replicate (Int.toNat 4) (Qf.mk false 0 ([] : (List ByteArray)))) (List.replicate (Int.toNat 4) (Qr.mk false 0 ByteArray.empty 0)))]) Z Z Z Z Z Z Z Z Z (.c (.c (.c (.c (.cons (.nil _) (.c (.c (.c (.c (.cons (.nil _) (.cons (.nil _) (.c (.c (.c (.c (.c (.c (.c (.c (.c (.c (.c (.cons (.nil _) (.c (.c (.c (.cons (.nil _) (.c (.c (.c (.c (.c (.c (.c (.c (.c (.c (.c (.cons (.nil _) (.c (.c (.c (.cons (.nil _) (.c (.c (.cons (.nil _) (.c (.c (.c (.c (.cons (.nil _) (.c (.c (.c (.c (.cons (.nil _) (.c (.c (.c (.c (.c (.c (.c (.c (.c (.c (.c (.cons (.nil _) (.c (.c (.c (.cons (.nil _) (.c (.c (.cons (.nil _) (.c (.c (.c (.c (.cons (.nil _) (.c (.c (.c (.c (.cons (.nil _) (.c (.c (.c (.c (.c (.c (.c (.cons (.nil _) (.c (.c (.cons (.fr Z (QO Z)) (.cons (.fr Z (QO Z)) .nil))))))))))))))))))))))))))))))))))))))))))))))))))))))))))))))))))))))))))))))))))))))))))))))))) Z Z Z))) ?_
        obtain ⟨hm8, h⟩ := h;refine ul (Zi (f := Qj) (L := s3.1) (L' := [(Q4.mk false (Qs.mk 0 ByteArray.empty ByteArray.empty ([] : (List ByteArray)) (Qe.mk 0 0 0 0) ([] : (List Qt)) ([] : (List Int)) 0 0 0 0 0 0 (QI.mk 0 ByteArray.empty 0 0 0) ([] : (List Int))) (Qn.mk 0 0 false ([] : (List Int)) 0 (Qd.mk (Qe.mk 0 0 0 0) (QA.mk 0 0 false) (Qb.mk 0 0 0 ([] : (List Int)) false) (Qh.mk 0 0 ([] : (List Int))) (Qu.mk 0 0 ([] : (List Q5)) false) (Qc.mk 0 0 0 ([] : (List Q5)) false) (Qk.mk 0 0 0 ([] : (List (List ByteArray))) false)) (Qd.mk (Qe.mk 0 0 0 0) (QA.mk 0 0 false) (Qb.mk 0 0 0 ([] : (List Int)) false) (Qh.mk 0 0 ([] : (List Int))) (Qu.mk 0 0 ([] : (List Q5)) false) (Qc.mk 0 0 0 ([] : (List Q5)) false) (Qk.mk 0 0 0 ([] : (List (List ByteArray))) false)) 0 0 0 0 (QS.mk 0 0) ([] : (List Int)) false) 0 (List.replicate (Int.toNat 4) (Qf.mk false 0 ([] : (List ByteArray)))) (List.replicate (Int.toNat 4) (Qr.mk false 0 ByteArray.empty 0)))]) hm8 Z Z Z Z Z Z Z Z Z Z Z (Vw KQ Z Z Z Z Z Z)) <| QD Z Z <| rd (hL _ (hL5 _ ?_))
        refine tl fun L hL => mv Z <| u0 (Zu Z Z Z Z Z) <| QD Z Z ?_;refine rt (hL _ (hL3 _ _ h (Z9.nm [0, 4, 5] [((22, 0), (4, 1000))] Z (by kernel_rfl))))
      · refine Zv (hL2 _ _ h (Z9.nm [4] [((4, 1000), (4, 1000))] Z (by kernel_rfl)))
def Vx (a0 : Qs) (a1 : Qs) (Q : Bool → Prop) : Prop :=
 ((((bif (bif (bif (bif (bif (bif (bif (bif (bif (bif (bif (bif (bif (bif (a0.fo != a1.fo) then true else (!(a0.fb2.toList == a1.fb2.toList))) then true else (!(a0.ff.toList == a1.ff.toList))) then true else (!((a0.fb.fo == a1.fb.fo) && ((a0.fb.fi == a1.fb.fi) && ((a0.fb.fv == a1.fb.fv) && ((a0.fb.fu == a1.fb.fu) && true)))))) then true else (!((strOfNums a0.fb3).toList == (strOfNums a1.fb3).toList))) then true else (a0.fa0 != a1.fa0)) then true else (a0.fa4 != a1.fa4)) then true else (a0.f7 != a1.f7)) then true else (a0.fb1 != a1.fb1)) then true else (a0.f8 != a1.f8)) then true else (a0.fx != a1.fx)) then true else (!((a0.fq.fo == a1.fq.fo) && ((a0.fq.fb4.toList == a1.fq.fb4.toList) && ((a0.fq.fx == a1.fq.fx) && ((a0.fq.fc3 == a1.fq.fc3) && ((a0.fq.fb8 == a1.fq.fb8) && true))))))) then true else (!((strOfNums a0.fb0).toList == (strOfNums a1.fb0).toList))) then true else (((a0.f9.length : Int)) != ((a1.f9.length : Int)))) then true else (((a0.fy.length : Int)) != ((a1.fy.length : Int))))) = true → Q false) ∧ (((bif (bif (bif (bif (bif (bif (bif (bif (bif (bif (bif (bif (bif (bif (a0.fo != a1.fo) then true else (!(a0.fb2.toList == a1.fb2.toList))) then true else (!(a0.ff.toList == a1.ff.toList))) then true else (!((a0.fb.fo == a1.fb.fo) && ((a0.fb.fi == a1.fb.fi) && ((a0.fb.fv == a1.fb.fv) && ((a0.fb.fu == a1.fb.fu) && true)))))) then true else (!((strOfNums a0.fb3).toList == (strOfNums a1.fb3).toList))) then true else (a0.fa0 != a1.fa0)) then true else (a0.fa4 != a1.fa4)) then true else (a0.f7 != a1.f7)) then true else (a0.fb1 != a1.fb1)) then true else (a0.f8 != a1.f8)) then true else (a0.fx != a1.fx)) then true else (!((a0.fq.fo == a1.fq.fo) && ((a0.fq.fb4.toList == a1.fq.fb4.toList) && ((a0.fq.fx == a1.fq.fx) && ((a0.fq.fc3 == a1.fq.fc3) && ((a0.fq.fb8 == a1.fq.fb8) && true))))))) then true else (!((strOfNums a0.fb0).toList == (strOfNums a1.fb0).toList))) then true else (((a0.f9.length : Int)) != ((a1.f9.length : Int)))) then true else (((a0.fy.length : Int)) != ((a1.fy.length : Int))))) = false → jn (fun (p2 : Unit) => jn (fun (p8 : Unit) => Q true) (fun (J8 : Unit → Prop) => lp (fun (X9 : Int → Prop) (s9 : Int) => (((decide (s9 < ((a0.fy.length : Int)))) = true → ∃ v12, ix a0.fy s9 v12 ∧ ∃ v13, ix a1.fy s9 v13 ∧ ((((!((v12.fb4.toList == v13.fb4.toList) && ((v12.fb7 == v13.fb7) && true)))) = true → Q false) ∧ (((!((v12.fb4.toList == v13.fb4.toList) && ((v12.fb7 == v13.fb7) && true)))) = false → X9 ((IntKind.i64.wrap (s9 + 1)))))) ∧ ((decide (s9 < ((a0.fy.length : Int)))) = false → J8 (())))) 0)) (fun (J2 : Unit → Prop) => lp (fun (X3 : Int → Prop) (s3 : Int) => (((decide (s3 < ((a0.f9.length : Int)))) = true → ∃ v6, ix a0.f9 s3 v6 ∧ ∃ v7, ix a1.f9 s3 v7 ∧ ((((!(v6.toList == v7.toList))) = true → Q false) ∧ (((!(v6.toList == v7.toList))) = false → X3 ((IntKind.i64.wrap (s3 + 1)))))) ∧ ((decide (s3 < ((a0.f9.length : Int)))) = false → J2 (())))) 0)))
def Jd (a0 : Qs) (a1 : Qs) (r : Bool) : Prop := Vx a0 a1 fun x => r = x
theorem WL (a0 : Qs) (a1 : Qs) (r : Bool) (h : Jd a0 a1 r) : Qz Try.prog 8 [.agg (Zp a0), .agg (Zp a1)] [.c (.p (.v (.bool r)))] [] := by
  refine Qx tb Try.func8 Z (by kernel_rfl) Z Z (Nat.le_of_ble_eq_true Z) Z ?_;intro E;unfold Jd Vx at h;refine ZN (fun Q hQ => ?_);refine tk fun L hL => u1 (QR Z Z) <| u1 (QR Z Z) <| QD Z Z <| rt (hL _ ?_);refine sk fun L1 hL1 => tk fun L hL => u0 (Q1 Z Z Z Z Z Z Z Z Z) <| u0 (Q2 Z Z Z Z Z Z) <| u0 (Q1 Z Z Z Z Z Z Z Z Z) <| u0 (Q2 Z Z Z Z Z Z) <| u0 (Q9 (c := (a0.fo != a1.fo)) Z Z Z Z Z) <| mv Z <| Q3 Z Z Q7 (fun hg => Q1 Z Z Z Z Z Z Z Z Z) <| Q3 Z Z Q7 (fun hg => Q2 (Q8 hg) Z Z Z Z Z) <| Q3 Z Z Q7 (fun hg => Q1 Z Z Z Z Z Z Z Z Z) <| Q3 Z Z Q7 (fun hg => Q2 (Q8 hg) Z Z Z Z Z) <| Q3 Z Z Q7 (fun hg => JP (c := (!(a0.fb2.toList == a1.fb2.toList))) (Q8 hg) (Q8 hg) Z Z Z) <| u0 (Qp (v := .bool true) (w := .bool ((!(a0.fb2.toList == a1.fb2.toList)))) Z Z Q7 Z QB Z Z Z) <| mv Z <| Q3 Z Z Q7 (fun hg => Q1 Z Z Z Z Z Z Z Z Z) <| Q3 Z Z Q7 (fun hg => Q2 (Q8 hg) Z Z Z Z Z) <| Q3 Z Z Q7 (fun hg => Q1 Z Z Z Z Z Z Z Z Z) <| Q3 Z Z Q7 (fun hg => Q2 (Q8 hg) Z Z Z Z Z) <| Q3 Z Z Q7 (fun hg => JP (c := (!(a0.ff.toList == a1.ff.toList))) (Q8 hg) (Q8 hg) Z Z Z) <| u0 (Qp (v := .bool true) (w := .bool ((!(a0.ff.toList == a1.ff.toList)))) Z Z Q7 Z QB Z Z Z) <| mv Z <| Q3 Z Z Q7 (fun hg => Q1 Z Z Z Z Z Z Z Z Z) <| Q3 Z Z Q7 (fun hg => Qi (Q8 hg) Z Z Z Z Z Z) <| Q3 Z Z Q7 (fun hg => Q1 Z Z Z Z Z Z Z Z Z) <| Q3 Z Z Q7 (fun hg => Qi (Q8 hg) Z Z Z Z Z Z) ?_
  refine Q3 Z Z Q7 (fun hg => YL (us := [.int .i64 a0.fb.fo, .int .i64 a0.fb.fi, .int .i64 a0.fb.fv, .int .u64 a0.fb.fu]) (vs := [.int .i64 a1.fb.fo, .int .i64 a1.fb.fi, .int .i64 a1.fb.fv, .int .u64 a1.fb.fu]) (c := (!((a0.fb.fo == a1.fb.fo) && ((a0.fb.fi == a1.fb.fi) && ((a0.fb.fv == a1.fb.fv) && ((a0.fb.fu == a1.fb.fu) && true)))))) (Q8 hg) (Q8 hg) (by kernel_rfl) Z Z Z Z Z Z) ?_;refine u0 (Qp (v := .bool true) (w := .bool ((!((a0.fb.fo == a1.fb.fo) && ((a0.fb.fi == a1.fb.fi) && ((a0.fb.fv == a1.fb.fv) && ((a0.fb.fu == a1.fb.fu) && true))))))) Z Z Q7 Z QB Z Z Z) <| mv Z <| Q3 Z Z Q7 (fun hg => Q1 Z Z Z Z Z Z Z Z Z) <| Q3 Z Z Q7 (fun hg => Q2 (Q8 hg) Z Z Z Z Z) <| Q3 Z Z Q7 (fun hg => Kh (Q8 hg) Z Z Z Z Z Z Z) <| Q3 Z Z Q7 (fun hg => Q1 Z Z Z Z Z Z Z Z Z) <| Q3 Z Z Q7 (fun hg => Q2 (Q8 hg) Z Z Z Z Z) <| Q3 Z Z Q7 (fun hg => Kh (Q8 hg) Z Z Z Z Z Z Z) <| Q3 Z Z Q7 (fun hg => JP (c := (!((strOfNums a0.fb3).toList == (strOfNums a1.fb3).toList))) (Q8 hg) (Q8 hg) Z Z Z) <| u0 (Qp (v := .bool true) (w := .bool ((!((strOfNums a0.fb3).toList == (strOfNums a1.fb3).toList)))) Z Z Q7 Z QB Z Z Z) <| mv Z <| Q3 Z Z Q7 (fun hg => Q1 Z Z Z Z Z Z Z Z Z) <| Q3 Z Z Q7 (fun hg => Q2 (Q8 hg) Z Z Z Z Z) <| Q3 Z Z Q7 (fun hg => Q1 Z Z Z Z Z Z Z Z Z) <| Q3 Z Z Q7 (fun hg => Q2 (Q8 hg) Z Z Z Z Z) <| Q3 Z Z Q7 (fun hg => Q9 (c := (a0.fa0 != a1.fa0)) (Q8 hg) (Q8 hg) Z Z Z) <| u0 (Qp (v := .bool true) (w := .bool ((a0.fa0 != a1.fa0))) Z Z Q7 Z QB Z Z Z) <| mv Z <| Q3 Z Z Q7 (fun hg => Q1 Z Z Z Z Z Z Z Z Z) ?_
  refine Q3 Z Z Q7 (fun hg => Q2 (Q8 hg) Z Z Z Z Z) <| Q3 Z Z Q7 (fun hg => Q1 Z Z Z Z Z Z Z Z Z) <| Q3 Z Z Q7 (fun hg => Q2 (Q8 hg) Z Z Z Z Z) <| Q3 Z Z Q7 (fun hg => Q9 (c := (a0.fa4 != a1.fa4)) (Q8 hg) (Q8 hg) Z Z Z) <| u0 (Qp (v := .bool true) (w := .bool ((a0.fa4 != a1.fa4))) Z Z Q7 Z QB Z Z Z) <| mv Z <| Q3 Z Z Q7 (fun hg => Q1 Z Z Z Z Z Z Z Z Z) <| Q3 Z Z Q7 (fun hg => Q2 (Q8 hg) Z Z Z Z Z) <| Q3 Z Z Q7 (fun hg => Q1 Z Z Z Z Z Z Z Z Z) <| Q3 Z Z Q7 (fun hg => Q2 (Q8 hg) Z Z Z Z Z) <| Q3 Z Z Q7 (fun hg => Q9 (c := (a0.f7 != a1.f7)) (Q8 hg) (Q8 hg) Z Z Z) <| u0 (Qp (v := .bool true) (w := .bool ((a0.f7 != a1.f7))) Z Z Q7 Z QB Z Z Z) <| mv Z <| Q3 Z Z Q7 (fun hg => Q1 Z Z Z Z Z Z Z Z Z) <| Q3 Z Z Q7 (fun hg => Q2 (Q8 hg) Z Z Z Z Z) <| Q3 Z Z Q7 (fun hg => Q1 Z Z Z Z Z Z Z Z Z) <| Q3 Z Z Q7 (fun hg => Q2 (Q8 hg) Z Z Z Z Z) <| Q3 Z Z Q7 (fun hg => Q9 (c := (a0.fb1 != a1.fb1)) (Q8 hg) (Q8 hg) Z Z Z) <| u0 (Qp (v := .bool true) (w := .bool ((a0.fb1 != a1.fb1))) Z Z Q7 Z QB Z Z Z) <| mv Z <| Q3 Z Z Q7 (fun hg => Q1 Z Z Z Z Z Z Z Z Z) <| Q3 Z Z Q7 (fun hg => Q2 (Q8 hg) Z Z Z Z Z) <| Q3 Z Z Q7 (fun hg => Q1 Z Z Z Z Z Z Z Z Z) ?_
  refine Q3 Z Z Q7 (fun hg => Q2 (Q8 hg) Z Z Z Z Z) <| Q3 Z Z Q7 (fun hg => Q9 (c := (a0.f8 != a1.f8)) (Q8 hg) (Q8 hg) Z Z Z) <| u0 (Qp (v := .bool true) (w := .bool ((a0.f8 != a1.f8))) Z Z Q7 Z QB Z Z Z) <| mv Z <| Q3 Z Z Q7 (fun hg => Q1 Z Z Z Z Z Z Z Z Z) <| Q3 Z Z Q7 (fun hg => Q2 (Q8 hg) Z Z Z Z Z) <| Q3 Z Z Q7 (fun hg => Q1 Z Z Z Z Z Z Z Z Z) <| Q3 Z Z Q7 (fun hg => Q2 (Q8 hg) Z Z Z Z Z) <| Q3 Z Z Q7 (fun hg => Q9 (c := (a0.fx != a1.fx)) (Q8 hg) (Q8 hg) Z Z Z) <| u0 (Qp (v := .bool true) (w := .bool ((a0.fx != a1.fx))) Z Z Q7 Z QB Z Z Z) <| mv Z <| Q3 Z Z Q7 (fun hg => Q1 Z Z Z Z Z Z Z Z Z) <| Q3 Z Z Q7 (fun hg => Qi (Q8 hg) Z Z Z Z Z Z) <| Q3 Z Z Q7 (fun hg => Q1 Z Z Z Z Z Z Z Z Z) <| Q3 Z Z Q7 (fun hg => Qi (Q8 hg) Z Z Z Z Z Z) ?_;refine Q3 Z Z Q7 (fun hg => YL (us := [.int .i64 a0.fq.fo, .string a0.fq.fb4, .int .i64 a0.fq.fx, .int .i64 a0.fq.fc3, .int .i64 a0.fq.fb8]) (vs := [.int .i64 a1.fq.fo, .string a1.fq.fb4, .int .i64 a1.fq.fx, .int .i64 a1.fq.fc3, .int .i64 a1.fq.fb8]) (c := (!((a0.fq.fo == a1.fq.fo) && ((a0.fq.fb4.toList == a1.fq.fb4.toList) && ((a0.fq.fx == a1.fq.fx) && ((a0.fq.fc3 == a1.fq.fc3) && ((a0.fq.fb8 == a1.fq.fb8) && true))))))) (Q8 hg) (Q8 hg) (by kernel_rfl) Z Z Z Z Z Z) ?_
  refine u0 (Qp (v := .bool true) (w := .bool ((!((a0.fq.fo == a1.fq.fo) && ((a0.fq.fb4.toList == a1.fq.fb4.toList) && ((a0.fq.fx == a1.fq.fx) && ((a0.fq.fc3 == a1.fq.fc3) && ((a0.fq.fb8 == a1.fq.fb8) && true)))))))) Z Z Q7 Z QB Z Z Z) <| mv Z <| Q3 Z Z Q7 (fun hg => Q1 Z Z Z Z Z Z Z Z Z) <| Q3 Z Z Q7 (fun hg => Q2 (Q8 hg) Z Z Z Z Z) <| Q3 Z Z Q7 (fun hg => Kh (Q8 hg) Z Z Z Z Z Z Z) <| Q3 Z Z Q7 (fun hg => Q1 Z Z Z Z Z Z Z Z Z) <| Q3 Z Z Q7 (fun hg => Q2 (Q8 hg) Z Z Z Z Z) <| Q3 Z Z Q7 (fun hg => Kh (Q8 hg) Z Z Z Z Z Z Z) <| Q3 Z Z Q7 (fun hg => JP (c := (!((strOfNums a0.fb0).toList == (strOfNums a1.fb0).toList))) (Q8 hg) (Q8 hg) Z Z Z) <| u0 (Qp (v := .bool true) (w := .bool ((!((strOfNums a0.fb0).toList == (strOfNums a1.fb0).toList)))) Z Z Q7 Z QB Z Z Z) <| mv Z <| Q3 Z Z Q7 (fun hg => Q1 Z Z Z Z Z Z Z Z Z) <| Q3 Z Z Q7 (fun hg => Q2 (Q8 hg) Z Z Z Z Z) <| Q3 Z Z Q7 (fun hg => Qw (Q8 hg) Z Z Z) <| Q3 Z Z Q7 (fun hg => Q1 Z Z Z Z Z Z Z Z Z) <| Q3 Z Z Q7 (fun hg => Q2 (Q8 hg) Z Z Z Z Z) <| Q3 Z Z Q7 (fun hg => Qw (Q8 hg) Z Z Z) <| Q3 Z Z Q7 (fun hg => Q9 (c := (((a0.f9.length : Int)) != ((a1.f9.length : Int)))) (Q8 hg) (Q8 hg) Z Z Z) ?_
  refine u0 (Qp (v := .bool true) (w := .bool ((((a0.f9.length : Int)) != ((a1.f9.length : Int))))) Z Z Q7 Z QB Z Z Z) <| mv Z <| Q3 Z Z Q7 (fun hg => Q1 Z Z Z Z Z Z Z Z Z) <| Q3 Z Z Q7 (fun hg => Q2 (Q8 hg) Z Z Z Z Z) <| Q3 Z Z Q7 (fun hg => Qw (Q8 hg) Z Z Z) <| Q3 Z Z Q7 (fun hg => Q1 Z Z Z Z Z Z Z Z Z) <| Q3 Z Z Q7 (fun hg => Q2 (Q8 hg) Z Z Z Z Z) <| Q3 Z Z Q7 (fun hg => Qw (Q8 hg) Z Z Z) <| Q3 Z Z Q7 (fun hg => Q9 (c := (((a0.fy.length : Int)) != ((a1.fy.length : Int)))) (Q8 hg) (Q8 hg) Z Z Z) <| u0 (Qp (v := .bool true) (w := .bool ((((a0.fy.length : Int)) != ((a1.fy.length : Int))))) Z Z Q7 Z QB Z Z Z) <| rt (hL _ ?_);refine ZI (st' := ⟨[(2, .c (.ptr (2, 0) 0 0)), (3, .c (.ptr (3, 0) 0 0)), (117, .c (.p (.v (.bool ((bif (bif (bif (bif (bif (bif (bif (bif (bif (bif (bif (bif (bif (bif (a0.fo != a1.fo) then true else (!(a0.fb2.toList == a1.fb2.toList))) then true else (!(a0.ff.toList == a1.ff.toList))) then true else (!((a0.fb.fo == a1.fb.fo) && ((a0.fb.fi == a1.fb.fi) && ((a0.fb.fv == a1.fb.fv) && ((a0.fb.fu == a1.fb.fu) && true)))))) then true else (!((strOfNums a0.fb3).toList == (strOfNums a1.fb3).toList))) then true else (a0.fa0 != a1.fa0)) then true else (a0.fa4 != a1.fa4)) then true else (a0.f7 != a1.f7)) then true else (a0.fb1 != a1.fb1)) then true else (a0.f8 != a1.f8)) then true else (a0.fx != a1.fx)) then true else (!((a0.fq.fo == a1.fq.fo) && ((a0.fq.fb4.toList == a1.fq.fb4.toList) && ((a0.fq.fx == a1.fq.fx) && ((a0.fq.fc3 == a1.fq.fc3) && ((a0.fq.fb8 == a1.fq.fb8) && true))))))) then true else (!((strOfNums a0.fb0).toList == (strOfNums a1.fb0).toList))) then true else (((a0.f9.length : Int)) != ((a1.f9.length : Int)))) then true else (((a0.fy.length : Int)) != ((a1.fy.length : Int)))))))))], [((2, 0), some (.box (List.map CV.p (Zp a0)))), ((3, 0), some (.box (List.map CV.p (Zp a1))))]⟩) (Z9.nm [2, 3, 117] [((2, 0), (2, 0)), ((3, 0), (3, 0))] Z Z) ?_
  refine ZZ Z h (fun h => ?_) fun h => ?_
  · refine tk fun L hL => QD Z Z <| rt (hL _ ?_);obtain rfl := h;exact Qm (hQ _ _ (K8 Z Z))
  · refine Qv (hL1 _ ?_);refine Km (fun (p2 : Unit) => (⟨[(2, .c (.ptr (2, 0) 0 0)), (3, .c (.ptr (3, 0) 0 0))], [((2, 0), some (.box (List.map CV.p (Zp a0)))), ((3, 0), some (.box (List.map CV.p (Zp a1))))]⟩ : St)) h (fun p2 h => ?_) (fun J2 L2 hL2 h => ?_)
    · refine Km (fun (p8 : Unit) => (⟨[], []⟩ : St)) h (fun p8 h => ?_) (fun J8 L8 hL8 h => ?_)
      · refine tk fun L hL => QD Z Z <| rt (hL _ ?_);obtain rfl := h;exact Qm (hQ _ _ (K8 Z Z))
      · refine tk fun L hL => QD Z Z <| rt (hL _ ?_);refine QE ?_;refine KY (fun (s9 : Int) => (⟨[(2, .c (.ptr (2, 0) 0 0)), (3, .c (.ptr (3, 0) 0 0)), (6, .c (.p (.v (.int .i64 s9))))], [((2, 0), some (.box (List.map CV.p (Zp a0)))), ((3, 0), some (.box (List.map CV.p (Zp a1))))]⟩ : St)) h (Z9.nm [2, 3, 6] [((2, 0), (2, 0)), ((3, 0), (3, 0))] Z (by kernel_rfl)) (fun X9 L9 hL9 s9 h => ?_);refine sk fun L10 hL10 => tk fun L hL => mv Z <| u0 (Q1 Z Z Z Z Z Z Z Z Z) <| u0 (Q2 Z Z Z Z Z Z) <| u0 (Qw Z Z Z Z) <| u0 (Q9 (c := decide (s9 < ((a0.fy.length : Int)))) Z Z Z Z Z) <| rt (hL _ ?_);refine ZZ Z h (fun h => ?_) fun h => ?_
        · refine Qv (hL10 _ ?_);refine sk fun L11 hL11 => QE <| dk mixed (fun L hL => ?_);refine u0 (Q1 Z Z Z Z Z Z Z Z Z) <| u0 (Q2 Z Z Z Z Z Z) <| mv Z ?_;obtain ⟨v12, hv12, h⟩ := h;refine u0 (Qq hv12 Z Z Z Z Z Z Z Z) <| u0 (QQ Z Z Z Z Z Z Z) <| u0 (Q1 Z Z Z Z Z Z Z Z Z) <| u0 (Q2 Z Z Z Z Z Z) <| mv Z ?_;obtain ⟨v13, hv13, h⟩ := h;refine u0 (Qq hv13 Z Z Z Z Z Z Z Z) <| u0 (QQ Z Z Z Z Z Z Z) ?_;refine u0 (YL (us := [.string v12.fb4, .int .i64 v12.fb7]) (vs := [.string v13.fb4, .int .i64 v13.fb7]) (c := (!((v12.fb4.toList == v13.fb4.toList) && ((v12.fb7 == v13.fb7) && true)))) Z Z (by kernel_rfl) Z Z Z Z Z Z) ?_;refine rd (hL _ ?_);refine ZZ Z h (fun h => ?_) fun h => ?_
          · refine tk fun L hL => QD Z Z <| rt (hL _ ?_);obtain rfl := h;exact Qm (hQ _ _ (K8 Z Z))
          · refine Qv (hL11 _ ?_);refine tl fun L hL => mv Z <| u0 (Zu Z Z Z Z Z) <| QD Z Z ?_;refine rt (hL _ (hL9 _ _ h (Z9.nm [2, 3, 6] [((2, 0), (2, 0)), ((3, 0), (3, 0))] Z (by kernel_rfl))))
        · refine Zv (hL8 _ _ h (Z9.nm [] [] Z (by kernel_rfl)))
    · refine tk fun L hL => QD Z Z <| rt (hL _ ?_);refine QE ?_;refine KY (fun (s3 : Int) => (⟨[(2, .c (.ptr (2, 0) 0 0)), (3, .c (.ptr (3, 0) 0 0)), (5, .c (.p (.v (.int .i64 s3))))], [((2, 0), some (.box (List.map CV.p (Zp a0)))), ((3, 0), some (.box (List.map CV.p (Zp a1))))]⟩ : St)) h (Z9.nm [2, 3, 5] [((2, 0), (2, 0)), ((3, 0), (3, 0))] Z (by kernel_rfl)) (fun X3 L3 hL3 s3 h => ?_);refine sk fun L4 hL4 => tk fun L hL => mv Z <| u0 (Q1 Z Z Z Z Z Z Z Z Z) <| u0 (Q2 Z Z Z Z Z Z) <| u0 (Qw Z Z Z Z) <| u0 (Q9 (c := decide (s3 < ((a0.f9.length : Int)))) Z Z Z Z Z) <| rt (hL _ ?_);refine ZZ Z h (fun h => ?_) fun h => ?_
      · refine Qv (hL4 _ ?_);refine sk fun L5 hL5 => QE <| dk mixed (fun L hL => ?_);refine u0 (Q1 Z Z Z Z Z Z Z Z Z) <| u0 (Q2 Z Z Z Z Z Z) <| mv Z ?_;obtain ⟨v6, hv6, h⟩ := h;refine u0 (Qq hv6 Z Z Z Z Z Z Z Z) <| u0 (Qo Z Z Z Z Z) <| u0 (Q1 Z Z Z Z Z Z Z Z Z) <| u0 (Q2 Z Z Z Z Z Z) <| mv Z ?_;obtain ⟨v7, hv7, h⟩ := h;refine u0 (Qq hv7 Z Z Z Z Z Z Z Z) <| u0 (Qo Z Z Z Z Z) <| u0 (JP (c := (!(v6.toList == v7.toList))) Z Z Z Z Z) <| rd (hL _ ?_);refine ZZ Z h (fun h => ?_) fun h => ?_
        · refine tk fun L hL => QD Z Z <| rt (hL _ ?_);obtain rfl := h;exact Qm (hQ _ _ (K8 Z Z))
        · refine Qv (hL5 _ ?_);refine tl fun L hL => mv Z <| u0 (Zu Z Z Z Z Z) <| QD Z Z ?_;refine rt (hL _ (hL3 _ _ h (Z9.nm [2, 3, 5] [((2, 0), (2, 0)), ((3, 0), (3, 0))] Z (by kernel_rfl))))
      · refine Zv (hL2 _ _ h (Z9.nm [2, 3] [((2, 0), (2, 0)), ((3, 0), (3, 0))] Z (by kernel_rfl)))
def JF (a0 : (List Int)) (a1 : (List Int)) (Q : Bool → Prop) : Prop :=
 ((((((a0.length : Int)) != ((a1.length : Int)))) = true → Q false) ∧ (((((a0.length : Int)) != ((a1.length : Int)))) = false → jn (fun (p2 : Unit) => Q true) (fun (J2 : Unit → Prop) => lp (fun (X3 : Int → Prop) (s3 : Int) => (((decide (s3 < ((a0.length : Int)))) = true → ∃ v6, ix a0 s3 v6 ∧ ∃ v7, ix a1 s3 v7 ∧ ((((v6 != v7)) = true → Q false) ∧ (((v6 != v7)) = false → X3 ((IntKind.i64.wrap (s3 + 1)))))) ∧ ((decide (s3 < ((a0.length : Int)))) = false → J2 (())))) 0)))
def ZP (a0 : (List Int)) (a1 : (List Int)) (r : Bool) : Prop := JF a0 a1 fun x => r = x
theorem VE (a0 : (List Int)) (a1 : (List Int)) (r : Bool) (h : ZP a0 a1 r) : Qz Try.prog 33 [.c (.l 1 (List.map (eI .i64) a0)), .c (.l 1 (List.map (eI .i64) a1))] [.c (.p (.v (.bool r)))] [] := by
  refine Qx tb Try.func33 Z (by kernel_rfl) Z Z (Nat.le_of_ble_eq_true Z) Z ?_;intro E;unfold ZP JF at h;refine ZN (fun Q hQ => ?_);refine tk fun L hL => QD Z Z <| rt (hL _ ?_);refine sk fun L1 hL1 => tk fun L hL => mv Z <| u0 (Qw Z Z Z Z) <| mv Z <| u0 (Qw Z Z Z Z) <| u0 (Q9 (c := (((a0.length : Int)) != ((a1.length : Int)))) Z Z Z Z Z) <| rt (hL _ ?_);refine ZZ Z h (fun h => ?_) fun h => ?_
  · refine tk fun L hL => QD Z Z <| rt (hL _ ?_);obtain rfl := h;exact Qm (hQ _ _ (K8 Z Z))
  · refine Qv (hL1 _ ?_);refine Km (fun (p2 : Unit) => (⟨[], []⟩ : St)) h (fun p2 h => ?_) (fun J2 L2 hL2 h => ?_)
    · refine tk fun L hL => QD Z Z <| rt (hL _ ?_);obtain rfl := h;exact Qm (hQ _ _ (K8 Z Z))
    · refine tk fun L hL => QD Z Z <| rt (hL _ ?_);refine QE ?_;refine KY (fun (s3 : Int) => (⟨[(0, .c (.p (.l 1 (List.map (eI .i64) a0)))), (1, .c (.p (.l 1 (List.map (eI .i64) a1)))), (5, .c (.p (.v (.int .i64 s3))))], []⟩ : St)) h (Z9.nm [0, 1, 5] [] Z (by kernel_rfl)) (fun X3 L3 hL3 s3 h => ?_);refine sk fun L4 hL4 => tk fun L hL => mv Z <| mv Z <| u0 (Qw Z Z Z Z) <| u0 (Q9 (c := decide (s3 < ((a0.length : Int)))) Z Z Z Z Z) <| rt (hL _ ?_);refine ZZ Z h (fun h => ?_) fun h => ?_
      · refine Qv (hL4 _ ?_);refine sk fun L5 hL5 => QE <| dk mixed (fun L hL => ?_);refine mv Z <| mv Z ?_;obtain ⟨v6, hv6, h⟩ := h;refine u0 (Qq hv6 Z Z Z Z Z Z Z Z) <| u0 (Qo Z Z Z Z Z) <| mv Z <| mv Z ?_;obtain ⟨v7, hv7, h⟩ := h;refine u0 (Qq hv7 Z Z Z Z Z Z Z Z) <| u0 (Qo Z Z Z Z Z) <| u0 (Q9 (c := (v6 != v7)) Z Z Z Z Z) <| rd (hL _ ?_);refine ZZ Z h (fun h => ?_) fun h => ?_
        · refine tk fun L hL => QD Z Z <| rt (hL _ ?_);obtain rfl := h;exact Qm (hQ _ _ (K8 Z Z))
        · refine Qv (hL5 _ ?_);refine tl fun L hL => mv Z <| u0 (Zu Z Z Z Z Z) <| QD Z Z ?_;refine rt (hL _ (hL3 _ _ h (Z9.nm [0, 1, 5] [] Z (by kernel_rfl))))
      · refine Zv (hL2 _ _ h (Z9.nm [] [] Z (by kernel_rfl)))
def JJ (a0 : Qb) (a1 : Qb) (Q : Bool → Prop) : Prop :=
 ∃ (v1 : Bool), (((bif (bif (bif (a0.fv == a1.fv) then (a0.fi == a1.fi) else false) then (a0.fu == a1.fu) else false) then (a0.fa == a1.fa) else false)) = true → ZP a0.fc1 a1.fc1 v1) ∧ Q (((bif (bif (bif (bif (a0.fv == a1.fv) then (a0.fi == a1.fi) else false) then (a0.fu == a1.fu) else false) then (a0.fa == a1.fa) else false) then v1 else false)))
def Kz (a0 : Qb) (a1 : Qb) (r : Bool) : Prop := JJ a0 a1 fun x => r = x
theorem Xa (a0 : Qb) (a1 : Qb) (r : Bool) (h : Kz a0 a1 r) : Qz Try.prog 19 [.agg (VQ a0), .agg (VQ a1)] [.c (.p (.v (.bool r)))] [] := by
  refine Qx tb Try.func19 Z (by kernel_rfl) Z Z (Nat.le_of_ble_eq_true Z) Z ?_;intro E;unfold Kz JJ at h;refine ZN (fun Q hQ => ?_);refine tk fun L hL => u1 (QR Z Z) <| u1 (QR Z Z) <| QD Z Z <| rt (hL _ ?_);refine tk fun L hL => u0 (Q1 Z Z Z Z Z Z Z Z Z) <| u0 (Q2 Z Z Z Z Z Z) <| u0 (Q1 Z Z Z Z Z Z Z Z Z) <| u0 (Q2 Z Z Z Z Z Z) <| u0 (Q9 (c := (a0.fv == a1.fv)) Z Z Z Z Z) <| mv Z <| Q3 Z Z Q6 (fun hg => Q1 Z Z Z Z Z Z Z Z Z) <| Q3 Z Z Q6 (fun hg => Q2 (Q8 hg) Z Z Z Z Z) <| Q3 Z Z Q6 (fun hg => Q1 Z Z Z Z Z Z Z Z Z) <| Q3 Z Z Q6 (fun hg => Q2 (Q8 hg) Z Z Z Z Z) <| Q3 Z Z Q6 (fun hg => Q9 (c := (a0.fi == a1.fi)) (Q8 hg) (Q8 hg) Z Z Z) <| u0 (Qg (v := .bool ((a0.fi == a1.fi))) (w := .bool false) Z Z Q6 Z QB Z Z Z) <| mv Z <| Q3 Z Z Q6 (fun hg => Q1 Z Z Z Z Z Z Z Z Z) <| Q3 Z Z Q6 (fun hg => Q2 (Q8 hg) Z Z Z Z Z) <| Q3 Z Z Q6 (fun hg => Q1 Z Z Z Z Z Z Z Z Z) <| Q3 Z Z Q6 (fun hg => Q2 (Q8 hg) Z Z Z Z Z) <| Q3 Z Z Q6 (fun hg => Q9 (c := (a0.fu == a1.fu)) (Q8 hg) (Q8 hg) Z Z Z) <| u0 (Qg (v := .bool ((a0.fu == a1.fu))) (w := .bool false) Z Z Q6 Z QB Z Z Z) <| mv Z <| Q3 Z Z Q6 (fun hg => Q1 Z Z Z Z Z Z Z Z Z) <| Q3 Z Z Q6 (fun hg => Q2 (Q8 hg) Z Z Z Z Z) <| Q3 Z Z Q6 (fun hg => Q1 Z Z Z Z Z Z Z Z Z) <| Q3 Z Z Q6 (fun hg => Q2 (Q8 hg) Z Z Z Z Z) <| Q3 Z Z Q6 (fun hg => Vn (Q8 hg) (Q8 hg) Z Z Z Z) <| u0 (Qg (v := .bool ((a0.fa == a1.fa))) (w := .bool false) Z Z Q6 Z QB Z Z Z) ?_
  refine mv Z <| Q3 Z Z Q6 (fun hg => Q1 Z Z Z Z Z Z Z Z Z) <| Q3 Z Z Q6 (fun hg => Q2 (Q8 hg) Z Z Z Z Z) <| Q3 Z Z Q6 (fun hg => Q1 Z Z Z Z Z Z Z Z Z) <| Q3 Z Z Q6 (fun hg => Q2 (Q8 hg) Z Z Z Z Z) ?_;obtain ⟨v1, hv1, h⟩ := h;refine Q3 Z Z Q6 (fun hg => Qy (VE _ _ _ (hv1 hg)) Z Z (.cons (Zh hg (.c (.p _))) (.cons (Zh hg (.c (.p _))) .nil)) Z Z Z) <| u0 (Qg (v := .bool v1) (w := .bool false) Z Z Q6 Z QB Z Z Z) <| QD Z Z <| rt (hL _ ?_);obtain rfl := h;exact Qm (hQ _ _ (K8 Z Z))
def V8 (a0 : Qh) (a1 : Qh) (Q : Bool → Prop) : Prop :=
 ∃ (v1 : Bool), (((bif (a0.f4 == a1.f4) then (a0.fu == a1.fu) else false)) = true → ZP a0.fa3 a1.fa3 v1) ∧ Q (((bif (bif (a0.f4 == a1.f4) then (a0.fu == a1.fu) else false) then v1 else false)))
def Je (a0 : Qh) (a1 : Qh) (r : Bool) : Prop := V8 a0 a1 fun x => r = x
theorem XJ (a0 : Qh) (a1 : Qh) (r : Bool) (h : Je a0 a1 r) : Qz Try.prog 20 [.agg (XI a0), .agg (XI a1)] [.c (.p (.v (.bool r)))] [] := by
  refine Qx tb Try.func20 Z (by kernel_rfl) Z Z (Nat.le_of_ble_eq_true Z) Z ?_;intro E;unfold Je V8 at h;refine ZN (fun Q hQ => ?_);refine tk fun L hL => u1 (QR Z Z) <| u1 (QR Z Z) <| QD Z Z <| rt (hL _ ?_);refine tk fun L hL => u0 (Q1 Z Z Z Z Z Z Z Z Z) <| u0 (Q2 Z Z Z Z Z Z) <| u0 (Q1 Z Z Z Z Z Z Z Z Z) <| u0 (Q2 Z Z Z Z Z Z) <| u0 (Q9 (c := (a0.f4 == a1.f4)) Z Z Z Z Z) <| mv Z <| Q3 Z Z Q6 (fun hg => Q1 Z Z Z Z Z Z Z Z Z) <| Q3 Z Z Q6 (fun hg => Q2 (Q8 hg) Z Z Z Z Z) <| Q3 Z Z Q6 (fun hg => Q1 Z Z Z Z Z Z Z Z Z) <| Q3 Z Z Q6 (fun hg => Q2 (Q8 hg) Z Z Z Z Z) <| Q3 Z Z Q6 (fun hg => Q9 (c := (a0.fu == a1.fu)) (Q8 hg) (Q8 hg) Z Z Z) <| u0 (Qg (v := .bool ((a0.fu == a1.fu))) (w := .bool false) Z Z Q6 Z QB Z Z Z) <| mv Z <| Q3 Z Z Q6 (fun hg => Q1 Z Z Z Z Z Z Z Z Z) <| Q3 Z Z Q6 (fun hg => Q2 (Q8 hg) Z Z Z Z Z) <| Q3 Z Z Q6 (fun hg => Q1 Z Z Z Z Z Z Z Z Z) <| Q3 Z Z Q6 (fun hg => Q2 (Q8 hg) Z Z Z Z Z) ?_
  obtain ⟨v1, hv1, h⟩ := h;refine Q3 Z Z Q6 (fun hg => Qy (VE _ _ _ (hv1 hg)) Z Z (.cons (Zh hg (.c (.p _))) (.cons (Zh hg (.c (.p _))) .nil)) Z Z Z) <| u0 (Qg (v := .bool v1) (w := .bool false) Z Z Q6 Z QB Z Z Z) <| QD Z Z <| rt (hL _ ?_);obtain rfl := h;exact Qm (hQ _ _ (K8 Z Z))
def KU (a0 : (List Q5)) (a1 : (List Q5)) (Q : Bool → Prop) : Prop :=
 ((((((a0.length : Int)) != ((a1.length : Int)))) = true → Q false) ∧ (((((a0.length : Int)) != ((a1.length : Int)))) = false → jn (fun (p2 : Unit) => Q true) (fun (J2 : Unit → Prop) => lp (fun (X3 : Int → Prop) (s3 : Int) => (((decide (s3 < ((a0.length : Int)))) = true → ∃ v6, ix a0 s3 v6 ∧ ∃ v7, ix a1 s3 v7 ∧ ((((!((v6.fb4.toList == v7.fb4.toList) && ((v6.fx == v7.fx) && ((v6.fc8 == v7.fc8) && true))))) = true → Q false) ∧ (((!((v6.fb4.toList == v7.fb4.toList) && ((v6.fx == v7.fx) && ((v6.fc8 == v7.fc8) && true))))) = false → X3 ((IntKind.i64.wrap (s3 + 1)))))) ∧ ((decide (s3 < ((a0.length : Int)))) = false → J2 (())))) 0)))
def Zm (a0 : (List Q5)) (a1 : (List Q5)) (r : Bool) : Prop := KU a0 a1 fun x => r = x
theorem JY (a0 : (List Q5)) (a1 : (List Q5)) (r : Bool) (h : Zm a0 a1 r) : Qz Try.prog 34 [.c (.l 3 (List.map Ql a0)), .c (.l 3 (List.map Ql a1))] [.c (.p (.v (.bool r)))] [] := by
  refine Qx tb Try.func34 Z (by kernel_rfl) Z Z (Nat.le_of_ble_eq_true Z) Z ?_;intro E;unfold Zm KU at h;refine ZN (fun Q hQ => ?_);refine tk fun L hL => QD Z Z <| rt (hL _ ?_);refine sk fun L1 hL1 => tk fun L hL => mv Z <| u0 (Qw Z Z Z Z) <| mv Z <| u0 (Qw Z Z Z Z) <| u0 (Q9 (c := (((a0.length : Int)) != ((a1.length : Int)))) Z Z Z Z Z) <| rt (hL _ ?_);refine ZZ Z h (fun h => ?_) fun h => ?_
  · refine tk fun L hL => QD Z Z <| rt (hL _ ?_);obtain rfl := h;exact Qm (hQ _ _ (K8 Z Z))
  · refine Qv (hL1 _ ?_);refine Km (fun (p2 : Unit) => (⟨[], []⟩ : St)) h (fun p2 h => ?_) (fun J2 L2 hL2 h => ?_)
    · refine tk fun L hL => QD Z Z <| rt (hL _ ?_);obtain rfl := h;exact Qm (hQ _ _ (K8 Z Z))
    · refine tk fun L hL => QD Z Z <| rt (hL _ ?_);refine QE ?_;refine KY (fun (s3 : Int) => (⟨[(0, .c (.p (.l 3 (List.map Ql a0)))), (1, .c (.p (.l 3 (List.map Ql a1)))), (5, .c (.p (.v (.int .i64 s3))))], []⟩ : St)) h (Z9.nm [0, 1, 5] [] Z (by kernel_rfl)) (fun X3 L3 hL3 s3 h => ?_);refine sk fun L4 hL4 => tk fun L hL => mv Z <| mv Z <| u0 (Qw Z Z Z Z) <| u0 (Q9 (c := decide (s3 < ((a0.length : Int)))) Z Z Z Z Z) <| rt (hL _ ?_);refine ZZ Z h (fun h => ?_) fun h => ?_
      · refine Qv (hL4 _ ?_);refine sk fun L5 hL5 => QE <| dk mixed (fun L hL => ?_);refine mv Z <| mv Z ?_;obtain ⟨v6, hv6, h⟩ := h;refine u0 (Qq hv6 Z Z Z Z Z Z Z Z) <| u0 (QQ Z Z Z Z Z Z Z) <| mv Z <| mv Z ?_;obtain ⟨v7, hv7, h⟩ := h;refine u0 (Qq hv7 Z Z Z Z Z Z Z Z) <| u0 (QQ Z Z Z Z Z Z Z) ?_;refine u0 (YL (us := [.string v6.fb4, .int .i64 v6.fx, .int .i64 v6.fc8]) (vs := [.string v7.fb4, .int .i64 v7.fx, .int .i64 v7.fc8]) (c := (!((v6.fb4.toList == v7.fb4.toList) && ((v6.fx == v7.fx) && ((v6.fc8 == v7.fc8) && true))))) Z Z (by kernel_rfl) Z Z Z Z Z Z) ?_;refine rd (hL _ ?_);refine ZZ Z h (fun h => ?_) fun h => ?_
        · refine tk fun L hL => QD Z Z <| rt (hL _ ?_);obtain rfl := h;exact Qm (hQ _ _ (K8 Z Z))
        · refine Qv (hL5 _ ?_);refine tl fun L hL => mv Z <| u0 (Zu Z Z Z Z Z) <| QD Z Z ?_;refine rt (hL _ (hL3 _ _ h (Z9.nm [0, 1, 5] [] Z (by kernel_rfl))))
      · refine Zv (hL2 _ _ h (Z9.nm [] [] Z (by kernel_rfl)))
def VT (a0 : Qu) (a1 : Qu) (Q : Bool → Prop) : Prop :=
 ∃ (v1 : Bool), (((bif (bif (a0.fi == a1.fi) then (a0.fk == a1.fk) else false) then (a0.fa == a1.fa) else false)) = true → Zm a0.f6 a1.f6 v1) ∧ Q (((bif (bif (bif (a0.fi == a1.fi) then (a0.fk == a1.fk) else false) then (a0.fa == a1.fa) else false) then v1 else false)))
def JZ (a0 : Qu) (a1 : Qu) (r : Bool) : Prop := VT a0 a1 fun x => r = x
theorem YP (a0 : Qu) (a1 : Qu) (r : Bool) (h : JZ a0 a1 r) : Qz Try.prog 21 [.agg (Wo a0), .agg (Wo a1)] [.c (.p (.v (.bool r)))] [] := by
  refine Qx tb Try.func21 Z (by kernel_rfl) Z Z (Nat.le_of_ble_eq_true Z) Z ?_;intro E;unfold JZ VT at h;refine ZN (fun Q hQ => ?_);refine tk fun L hL => u1 (QR Z Z) <| u1 (QR Z Z) <| QD Z Z <| rt (hL _ ?_);refine tk fun L hL => u0 (Q1 Z Z Z Z Z Z Z Z Z) <| u0 (Q2 Z Z Z Z Z Z) <| u0 (Q1 Z Z Z Z Z Z Z Z Z) <| u0 (Q2 Z Z Z Z Z Z) <| u0 (Q9 (c := (a0.fi == a1.fi)) Z Z Z Z Z) <| mv Z <| Q3 Z Z Q6 (fun hg => Q1 Z Z Z Z Z Z Z Z Z) <| Q3 Z Z Q6 (fun hg => Q2 (Q8 hg) Z Z Z Z Z) <| Q3 Z Z Q6 (fun hg => Q1 Z Z Z Z Z Z Z Z Z) <| Q3 Z Z Q6 (fun hg => Q2 (Q8 hg) Z Z Z Z Z) <| Q3 Z Z Q6 (fun hg => Q9 (c := (a0.fk == a1.fk)) (Q8 hg) (Q8 hg) Z Z Z) <| u0 (Qg (v := .bool ((a0.fk == a1.fk))) (w := .bool false) Z Z Q6 Z QB Z Z Z) <| mv Z <| Q3 Z Z Q6 (fun hg => Q1 Z Z Z Z Z Z Z Z Z) <| Q3 Z Z Q6 (fun hg => Q2 (Q8 hg) Z Z Z Z Z) <| Q3 Z Z Q6 (fun hg => Q1 Z Z Z Z Z Z Z Z Z) <| Q3 Z Z Q6 (fun hg => Q2 (Q8 hg) Z Z Z Z Z) <| Q3 Z Z Q6 (fun hg => Vn (Q8 hg) (Q8 hg) Z Z Z Z) <| u0 (Qg (v := .bool ((a0.fa == a1.fa))) (w := .bool false) Z Z Q6 Z QB Z Z Z) <| mv Z <| Q3 Z Z Q6 (fun hg => Q1 Z Z Z Z Z Z Z Z Z) <| Q3 Z Z Q6 (fun hg => Q2 (Q8 hg) Z Z Z Z Z) <| Q3 Z Z Q6 (fun hg => Q1 Z Z Z Z Z Z Z Z Z) <| Q3 Z Z Q6 (fun hg => Q2 (Q8 hg) Z Z Z Z Z) ?_
  obtain ⟨v1, hv1, h⟩ := h;refine Q3 Z Z Q6 (fun hg => Qy (JY _ _ _ (hv1 hg)) Z Z (.cons (Zh hg (.c (.p _))) (.cons (Zh hg (.c (.p _))) .nil)) Z Z Z) <| u0 (Qg (v := .bool v1) (w := .bool false) Z Z Q6 Z QB Z Z Z) <| QD Z Z <| rt (hL _ ?_);obtain rfl := h;exact Qm (hQ _ _ (K8 Z Z))
def JK (a0 : Qc) (a1 : Qc) (Q : Bool → Prop) : Prop :=
 ∃ (v1 : Bool), (((bif (bif (bif (a0.fi == a1.fi) then (a0.fk == a1.fk) else false) then (a0.fb5 == a1.fb5) else false) then (a0.fa == a1.fa) else false)) = true → Zm a0.f6 a1.f6 v1) ∧ Q (((bif (bif (bif (bif (a0.fi == a1.fi) then (a0.fk == a1.fk) else false) then (a0.fb5 == a1.fb5) else false) then (a0.fa == a1.fa) else false) then v1 else false)))
def KA (a0 : Qc) (a1 : Qc) (r : Bool) : Prop := JK a0 a1 fun x => r = x
theorem Xb (a0 : Qc) (a1 : Qc) (r : Bool) (h : KA a0 a1 r) : Qz Try.prog 22 [.agg (VR a0), .agg (VR a1)] [.c (.p (.v (.bool r)))] [] := by
  refine Qx tb Try.func22 Z (by kernel_rfl) Z Z (Nat.le_of_ble_eq_true Z) Z ?_;intro E;unfold KA JK at h;refine ZN (fun Q hQ => ?_);refine tk fun L hL => u1 (QR Z Z) <| u1 (QR Z Z) <| QD Z Z <| rt (hL _ ?_);refine tk fun L hL => u0 (Q1 Z Z Z Z Z Z Z Z Z) <| u0 (Q2 Z Z Z Z Z Z) <| u0 (Q1 Z Z Z Z Z Z Z Z Z) <| u0 (Q2 Z Z Z Z Z Z) <| u0 (Q9 (c := (a0.fi == a1.fi)) Z Z Z Z Z) <| mv Z <| Q3 Z Z Q6 (fun hg => Q1 Z Z Z Z Z Z Z Z Z) <| Q3 Z Z Q6 (fun hg => Q2 (Q8 hg) Z Z Z Z Z) <| Q3 Z Z Q6 (fun hg => Q1 Z Z Z Z Z Z Z Z Z) <| Q3 Z Z Q6 (fun hg => Q2 (Q8 hg) Z Z Z Z Z) <| Q3 Z Z Q6 (fun hg => Q9 (c := (a0.fk == a1.fk)) (Q8 hg) (Q8 hg) Z Z Z) <| u0 (Qg (v := .bool ((a0.fk == a1.fk))) (w := .bool false) Z Z Q6 Z QB Z Z Z) <| mv Z <| Q3 Z Z Q6 (fun hg => Q1 Z Z Z Z Z Z Z Z Z) <| Q3 Z Z Q6 (fun hg => Q2 (Q8 hg) Z Z Z Z Z) <| Q3 Z Z Q6 (fun hg => Q1 Z Z Z Z Z Z Z Z Z) <| Q3 Z Z Q6 (fun hg => Q2 (Q8 hg) Z Z Z Z Z) <| Q3 Z Z Q6 (fun hg => Q9 (c := (a0.fb5 == a1.fb5)) (Q8 hg) (Q8 hg) Z Z Z) <| u0 (Qg (v := .bool ((a0.fb5 == a1.fb5))) (w := .bool false) Z Z Q6 Z QB Z Z Z) <| mv Z <| Q3 Z Z Q6 (fun hg => Q1 Z Z Z Z Z Z Z Z Z) <| Q3 Z Z Q6 (fun hg => Q2 (Q8 hg) Z Z Z Z Z) <| Q3 Z Z Q6 (fun hg => Q1 Z Z Z Z Z Z Z Z Z) <| Q3 Z Z Q6 (fun hg => Q2 (Q8 hg) Z Z Z Z Z) <| Q3 Z Z Q6 (fun hg => Vn (Q8 hg) (Q8 hg) Z Z Z Z) ?_
  refine u0 (Qg (v := .bool ((a0.fa == a1.fa))) (w := .bool false) Z Z Q6 Z QB Z Z Z) <| mv Z <| Q3 Z Z Q6 (fun hg => Q1 Z Z Z Z Z Z Z Z Z) <| Q3 Z Z Q6 (fun hg => Q2 (Q8 hg) Z Z Z Z Z) <| Q3 Z Z Q6 (fun hg => Q1 Z Z Z Z Z Z Z Z Z) <| Q3 Z Z Q6 (fun hg => Q2 (Q8 hg) Z Z Z Z Z) ?_;obtain ⟨v1, hv1, h⟩ := h;refine Q3 Z Z Q6 (fun hg => Qy (JY _ _ _ (hv1 hg)) Z Z (.cons (Zh hg (.c (.p _))) (.cons (Zh hg (.c (.p _))) .nil)) Z Z Z) <| u0 (Qg (v := .bool v1) (w := .bool false) Z Z Q6 Z QB Z Z Z) <| QD Z Z <| rt (hL _ ?_);obtain rfl := h;exact Qm (hQ _ _ (K8 Z Z))
def Jq (a0 : Qk) (a1 : Qk) (Q : Bool → Prop) : Prop :=
 ((((bif (bif (bif (bif (a0.fi != a1.fi) then true else (a0.fk != a1.fk)) then true else (a0.fa7 != a1.fa7)) then true else (!(a0.fa == a1.fa))) then true else (((a0.f5.length : Int)) != ((a1.f5.length : Int))))) = true → Q false) ∧ (((bif (bif (bif (bif (a0.fi != a1.fi) then true else (a0.fk != a1.fk)) then true else (a0.fa7 != a1.fa7)) then true else (!(a0.fa == a1.fa))) then true else (((a0.f5.length : Int)) != ((a1.f5.length : Int))))) = false → jn (fun (p2 : Unit) => Q true) (fun (J2 : Unit → Prop) => lp (fun (X3 : Int → Prop) (s3 : Int) => (((decide (s3 < ((a0.f5.length : Int)))) = true → jn (fun (p5 : Unit) => X3 ((IntKind.i64.wrap (s3 + 1)))) (fun (J5 : Unit → Prop) => ∃ v7, ix a0.f5 s3 v7 ∧ ∃ v8, ix a1.f5 s3 v8 ∧ ((((((v7.length : Int)) != ((v8.length : Int)))) = true → Q false) ∧ (((((v7.length : Int)) != ((v8.length : Int)))) = false → lp (fun (X9 : Int → Prop) (s9 : Int) => ∃ v11, ix a0.f5 s3 v11 ∧ (((decide (s9 < ((v11.length : Int)))) = true → ∃ v13, ix a0.f5 s3 v13 ∧ ∃ v14, ix v13 s9 v14 ∧ ∃ v15, ix a1.f5 s3 v15 ∧ ∃ v16, ix v15 s9 v16 ∧ ((((!(v14.toList == v16.toList))) = true → Q false) ∧ (((!(v14.toList == v16.toList))) = false → X9 ((IntKind.i64.wrap (s9 + 1)))))) ∧ ((decide (s9 < ((v11.length : Int)))) = false → J5 (())))) 0)))) ∧ ((decide (s3 < ((a0.f5.length : Int)))) = false → J2 (())))) 0)))
def K1 (a0 : Qk) (a1 : Qk) (r : Bool) : Prop := Jq a0 a1 fun x => r = x
theorem Y6 (a0 : Qk) (a1 : Qk) (r : Bool) (h : K1 a0 a1 r) : Qz Try.prog 23 [.agg (ZF a0), .agg (ZF a1)] [.c (.p (.v (.bool r)))] [] := by
  refine Qx tb Try.func23 Z (by kernel_rfl) Z Z (Nat.le_of_ble_eq_true Z) Z ?_;intro E;unfold K1 Jq at h;refine ZN (fun Q hQ => ?_);refine tk fun L hL => u1 (QR Z Z) <| u1 (QR Z Z) <| QD Z Z <| rt (hL _ ?_);refine sk fun L1 hL1 => tk fun L hL => u0 (Q1 Z Z Z Z Z Z Z Z Z) <| u0 (Q2 Z Z Z Z Z Z) <| u0 (Q1 Z Z Z Z Z Z Z Z Z) <| u0 (Q2 Z Z Z Z Z Z) <| u0 (Q9 (c := (a0.fi != a1.fi)) Z Z Z Z Z) <| mv Z <| Q3 Z Z Q7 (fun hg => Q1 Z Z Z Z Z Z Z Z Z) <| Q3 Z Z Q7 (fun hg => Q2 (Q8 hg) Z Z Z Z Z) <| Q3 Z Z Q7 (fun hg => Q1 Z Z Z Z Z Z Z Z Z) <| Q3 Z Z Q7 (fun hg => Q2 (Q8 hg) Z Z Z Z Z) <| Q3 Z Z Q7 (fun hg => Q9 (c := (a0.fk != a1.fk)) (Q8 hg) (Q8 hg) Z Z Z) <| u0 (Qp (v := .bool true) (w := .bool ((a0.fk != a1.fk))) Z Z Q7 Z QB Z Z Z) <| mv Z <| Q3 Z Z Q7 (fun hg => Q1 Z Z Z Z Z Z Z Z Z) <| Q3 Z Z Q7 (fun hg => Q2 (Q8 hg) Z Z Z Z Z) <| Q3 Z Z Q7 (fun hg => Q1 Z Z Z Z Z Z Z Z Z) <| Q3 Z Z Q7 (fun hg => Q2 (Q8 hg) Z Z Z Z Z) <| Q3 Z Z Q7 (fun hg => Q9 (c := (a0.fa7 != a1.fa7)) (Q8 hg) (Q8 hg) Z Z Z) <| u0 (Qp (v := .bool true) (w := .bool ((a0.fa7 != a1.fa7))) Z Z Q7 Z QB Z Z Z) <| mv Z <| Q3 Z Z Q7 (fun hg => Q1 Z Z Z Z Z Z Z Z Z) <| Q3 Z Z Q7 (fun hg => Q2 (Q8 hg) Z Z Z Z Z) <| Q3 Z Z Q7 (fun hg => Q1 Z Z Z Z Z Z Z Z Z) <| Q3 Z Z Q7 (fun hg => Q2 (Q8 hg) Z Z Z Z Z) <| Q3 Z Z Q7 (fun hg => Y4 (Q8 hg) (Q8 hg) Z Z Z Z) ?_
  refine u0 (Qp (v := .bool true) (w := .bool ((!(a0.fa == a1.fa)))) Z Z Q7 Z QB Z Z Z) <| mv Z <| Q3 Z Z Q7 (fun hg => Q1 Z Z Z Z Z Z Z Z Z) <| Q3 Z Z Q7 (fun hg => Q2 (Q8 hg) Z Z Z Z Z) <| Q3 Z Z Q7 (fun hg => Qw (Q8 hg) Z Z Z) <| Q3 Z Z Q7 (fun hg => Q1 Z Z Z Z Z Z Z Z Z) <| Q3 Z Z Q7 (fun hg => Q2 (Q8 hg) Z Z Z Z Z) <| Q3 Z Z Q7 (fun hg => Qw (Q8 hg) Z Z Z) <| Q3 Z Z Q7 (fun hg => Q9 (c := (((a0.f5.length : Int)) != ((a1.f5.length : Int)))) (Q8 hg) (Q8 hg) Z Z Z) <| u0 (Qp (v := .bool true) (w := .bool ((((a0.f5.length : Int)) != ((a1.f5.length : Int))))) Z Z Q7 Z QB Z Z Z) <| rt (hL _ ?_);refine ZZ Z h (fun h => ?_) fun h => ?_
  · refine tk fun L hL => QD Z Z <| rt (hL _ ?_);obtain rfl := h;exact Qm (hQ _ _ (K8 Z Z))
  · refine Qv (hL1 _ ?_);refine ZI (st' := ⟨[(2, .c (.ptr (2, 0) 0 0)), (3, .c (.ptr (3, 0) 0 0))], [((2, 0), some (.box (List.map CV.p (ZF a0)))), ((3, 0), some (.box (List.map CV.p (ZF a1))))]⟩) (Z9.nm [2, 3] [((2, 0), (2, 0)), ((3, 0), (3, 0))] Z Z) ?_;refine Km (fun (p2 : Unit) => (⟨[], []⟩ : St)) h (fun p2 h => ?_) (fun J2 L2 hL2 h => ?_)
    · refine tk fun L hL => QD Z Z <| rt (hL _ ?_);obtain rfl := h;exact Qm (hQ _ _ (K8 Z Z))
    · refine tk fun L hL => QD Z Z <| rt (hL _ ?_);refine QE ?_;refine KY (fun (s3 : Int) => (⟨[(2, .c (.ptr (2, 0) 0 0)), (3, .c (.ptr (3, 0) 0 0)), (5, .c (.p (.v (.int .i64 s3))))], [((2, 0), some (.box (List.map CV.p (ZF a0)))), ((3, 0), some (.box (List.map CV.p (ZF a1))))]⟩ : St)) h (Z9.nm [2, 3, 5] [((2, 0), (2, 0)), ((3, 0), (3, 0))] Z (by kernel_rfl)) (fun X3 L3 hL3 s3 h => ?_);refine sk fun L4 hL4 => tk fun L hL => mv Z <| u0 (Q1 Z Z Z Z Z Z Z Z Z) <| u0 (Q2 Z Z Z Z Z Z) <| u0 (Qw Z Z Z Z) <| u0 (Q9 (c := decide (s3 < ((a0.f5.length : Int)))) Z Z Z Z Z) <| rt (hL _ ?_);refine ZZ Z h (fun h => ?_) fun h => ?_
      · refine Qv (hL4 _ ?_);refine Km (fun (p5 : Unit) => (⟨[(2, .c (.ptr (2, 0) 0 0)), (3, .c (.ptr (3, 0) 0 0)), (5, .c (.p (.v (.int .i64 s3))))], [((2, 0), some (.box (List.map CV.p (ZF a0)))), ((3, 0), some (.box (List.map CV.p (ZF a1))))]⟩ : St)) h (fun p5 h => ?_) (fun J5 L5 hL5 h => ?_)
        · refine tl fun L hL => mv Z <| u0 (Zu Z Z Z Z Z) <| QD Z Z ?_;refine rt (hL _ (hL3 _ _ h (Z9.nm [2, 3, 5] [((2, 0), (2, 0)), ((3, 0), (3, 0))] Z (by kernel_rfl))))
        · refine QE <| sk fun L6 hL6 => dk mixed (fun L hL => ?_);refine u0 (Q1 Z Z Z Z Z Z Z Z Z) <| u0 (Q2 Z Z Z Z Z Z) <| mv Z ?_;obtain ⟨v7, hv7, h⟩ := h;refine u0 (Qq hv7 Z Z Z Z Z Z Z Z) <| u0 (Qo Z Z Z Z Z) <| u0 (Qw Z Z Z Z) <| u0 (Q1 Z Z Z Z Z Z Z Z Z) <| u0 (Q2 Z Z Z Z Z Z) <| mv Z ?_;obtain ⟨v8, hv8, h⟩ := h;refine u0 (Qq hv8 Z Z Z Z Z Z Z Z) <| u0 (Qo Z Z Z Z Z) <| u0 (Qw Z Z Z Z) <| u0 (Q9 (c := (((v7.length : Int)) != ((v8.length : Int)))) Z Z Z Z Z) <| rd (hL _ ?_);refine ZZ Z h (fun h => ?_) fun h => ?_
          · refine tk fun L hL => QD Z Z <| rt (hL _ ?_);obtain rfl := h;exact Qm (hQ _ _ (K8 Z Z))
          · refine Qv (hL6 _ ?_);refine tk fun L hL => QD Z Z <| rt (hL _ ?_);refine QE ?_;refine KY (fun (s9 : Int) => (⟨[(2, .c (.ptr (2, 0) 0 0)), (3, .c (.ptr (3, 0) 0 0)), (5, .c (.p (.v (.int .i64 s3)))), (6, .c (.p (.v (.int .i64 s9))))], [((2, 0), some (.box (List.map CV.p (ZF a0)))), ((3, 0), some (.box (List.map CV.p (ZF a1))))]⟩ : St)) h (Z9.nm [2, 3, 5, 6] [((2, 0), (2, 0)), ((3, 0), (3, 0))] Z (by kernel_rfl)) (fun X9 L9 hL9 s9 h => ?_);refine sk fun L10 hL10 => tk fun L hL => mv Z <| u0 (Q1 Z Z Z Z Z Z Z Z Z) <| u0 (Q2 Z Z Z Z Z Z) <| mv Z ?_;obtain ⟨v11, hv11, h⟩ := h;refine u0 (Qq hv11 Z Z Z Z Z Z Z Z) <| u0 (Qo Z Z Z Z Z) <| u0 (Qw Z Z Z Z) <| u0 (Q9 (c := decide (s9 < ((v11.length : Int)))) Z Z Z Z Z) <| rt (hL _ ?_);refine ZZ Z h (fun h => ?_) fun h => ?_
            · refine Qv (hL10 _ ?_);refine sk fun L12 hL12 => QE <| dk mixed (fun L hL => ?_);refine u0 (Q1 Z Z Z Z Z Z Z Z Z) <| u0 (Q2 Z Z Z Z Z Z) <| mv Z ?_;obtain ⟨v13, hv13, h⟩ := h;refine u0 (Qq hv13 Z Z Z Z Z Z Z Z) <| u0 (Qo Z Z Z Z Z) <| mv Z ?_;obtain ⟨v14, hv14, h⟩ := h;refine u0 (Qq hv14 Z Z Z Z Z Z Z Z) <| u0 (Qo Z Z Z Z Z) <| u0 (Q1 Z Z Z Z Z Z Z Z Z) <| u0 (Q2 Z Z Z Z Z Z) <| mv Z ?_;obtain ⟨v15, hv15, h⟩ := h;refine u0 (Qq hv15 Z Z Z Z Z Z Z Z) <| u0 (Qo Z Z Z Z Z) <| mv Z ?_;obtain ⟨v16, hv16, h⟩ := h;refine u0 (Qq hv16 Z Z Z Z Z Z Z Z) <| u0 (Qo Z Z Z Z Z) <| u0 (JP (c := (!(v14.toList == v16.toList))) Z Z Z Z Z) <| rd (hL _ ?_);refine ZZ Z h (fun h => ?_) fun h => ?_
              · refine tk fun L hL => QD Z Z <| rt (hL _ ?_);obtain rfl := h;exact Qm (hQ _ _ (K8 Z Z))
              · refine Qv (hL12 _ ?_);refine tl fun L hL => mv Z <| u0 (Zu Z Z Z Z Z) <| QD Z Z ?_;refine rt (hL _ (hL9 _ _ h (Z9.nm [2, 3, 5, 6] [((2, 0), (2, 0)), ((3, 0), (3, 0))] Z (by kernel_rfl))))
            · refine Zv (hL5 _ _ h (Z9.nm [2, 3, 5] [((2, 0), (2, 0)), ((3, 0), (3, 0))] Z (by kernel_rfl)))
      · refine Zv (hL2 _ _ h (Z9.nm [] [] Z (by kernel_rfl)))
def Vy (a0 : Qd) (a1 : Qd) (Q : Bool → Prop) : Prop :=
 ∃ (v1 : Bool), (((bif ((a0.fb.fo == a1.fb.fo) && ((a0.fb.fi == a1.fb.fi) && ((a0.fb.fv == a1.fb.fv) && ((a0.fb.fu == a1.fb.fu) && true)))) then ((a0.fp.fk == a1.fp.fk) && ((a0.fp.fy == a1.fp.fy) && ((a0.fp.fa == a1.fp.fa) && true))) else false)) = true → Kz a0.fg a1.fg v1) ∧ ∃ (v2 : Bool), (((bif (bif ((a0.fb.fo == a1.fb.fo) && ((a0.fb.fi == a1.fb.fi) && ((a0.fb.fv == a1.fb.fv) && ((a0.fb.fu == a1.fb.fu) && true)))) then ((a0.fp.fk == a1.fp.fk) && ((a0.fp.fy == a1.fp.fy) && ((a0.fp.fa == a1.fp.fa) && true))) else false) then v1 else false)) = true → Je a0.fw a1.fw v2) ∧ ∃ (v3 : Bool), (((bif (bif (bif ((a0.fb.fo == a1.fb.fo) && ((a0.fb.fi == a1.fb.fi) && ((a0.fb.fv == a1.fb.fv) && ((a0.fb.fu == a1.fb.fu) && true)))) then ((a0.fp.fk == a1.fp.fk) && ((a0.fp.fy == a1.fp.fy) && ((a0.fp.fa == a1.fp.fa) && true))) else false) then v1 else false) then v2 else false)) = true → JZ a0.fa2 a1.fa2 v3) ∧ ∃ (v4 : Bool), (((bif (bif (bif (bif ((a0.fb.fo == a1.fb.fo) && ((a0.fb.fi == a1.fb.fi) && ((a0.fb.fv == a1.fb.fv) && ((a0.fb.fu == a1.fb.fu) && true)))) then ((a0.fp.fk == a1.fp.fk) && ((a0.fp.fy == a1.fp.fy) && ((a0.fp.fa == a1.fp.fa) && true))) else false) then v1 else false) then v2 else false) then v3 else false)) = true → KA a0.fh a1.fh v4) ∧ ∃ (v5 : Bool), (((bif (bif (bif (bif (bif ((a0.fb.fo == a1.fb.fo) && ((a0.fb.fi == a1.fb.fi) && ((a0.fb.fv == a1.fb.fv) && ((a0.fb.fu == a1.fb.fu) && true)))) then ((a0.fp.fk == a1.fp.fk) && ((a0.fp.fy == a1.fp.fy) && ((a0.fp.fa == a1.fp.fa) && true))) else false) then v1 else false) then v2 else false) then v3 else false) then v4 else false)) = true → K1 a0.fm a1.fm v5) ∧ Q (((bif (bif (bif (bif (bif (bif ((a0.fb.fo == a1.fb.fo) && ((a0.fb.fi == a1.fb.fi) && ((a0.fb.fv == a1.fb.fv) && ((a0.fb.fu == a1.fb.fu) && true)))) then ((a0.fp.fk == a1.fp.fk) && ((a0.fp.fy == a1.fp.fy) && ((a0.fp.fa == a1.fp.fa) && true))) else false) then v1 else false) then v2 else false) then v3 else false) then v4 else false) then v5 else false)))
def Kw (a0 : Qd) (a1 : Qd) (r : Bool) : Prop := Vy a0 a1 fun x => r = x
theorem XK (a0 : Qd) (a1 : Qd) (r : Bool) (h : Kw a0 a1 r) : Qz Try.prog 15 [.agg (Vv a0), .agg (Vv a1)] [.c (.p (.v (.bool r)))] [] := by
  refine Qx tb Try.func15 Z (by kernel_rfl) Z Z (Nat.le_of_ble_eq_true Z) Z ?_;intro E;unfold Kw Vy at h;refine ZN (fun Q hQ => ?_);refine tk fun L hL => u1 (QR Z Z) <| u1 (QR Z Z) <| QD Z Z <| rt (hL _ ?_);refine tk fun L hL => u0 (Q1 Z Z Z Z Z Z Z Z Z) <| u0 (Qi Z Z Z Z Z Z Z) <| u0 (Q1 Z Z Z Z Z Z Z Z Z) <| u0 (Qi Z Z Z Z Z Z Z) ?_;refine u0 (UQ (us := [.int .i64 a0.fb.fo, .int .i64 a0.fb.fi, .int .i64 a0.fb.fv, .int .u64 a0.fb.fu]) (vs := [.int .i64 a1.fb.fo, .int .i64 a1.fb.fi, .int .i64 a1.fb.fv, .int .u64 a1.fb.fu]) (c := ((a0.fb.fo == a1.fb.fo) && ((a0.fb.fi == a1.fb.fi) && ((a0.fb.fv == a1.fb.fv) && ((a0.fb.fu == a1.fb.fu) && true))))) Z Z (by kernel_rfl) Z Z Z Z Z Z) ?_;refine mv Z <| Q3 Z Z Q6 (fun hg => Q1 Z Z Z Z Z Z Z Z Z) <| Q3 Z Z Q6 (fun hg => Qi (Q8 hg) Z Z Z Z Z Z) <| Q3 Z Z Q6 (fun hg => Q1 Z Z Z Z Z Z Z Z Z) <| Q3 Z Z Q6 (fun hg => Qi (Q8 hg) Z Z Z Z Z Z) ?_;refine Q3 Z Z Q6 (fun hg => UQ (us := [.int .i64 a0.fp.fk, .int .i64 a0.fp.fy, .bool a0.fp.fa]) (vs := [.int .i64 a1.fp.fk, .int .i64 a1.fp.fy, .bool a1.fp.fa]) (c := ((a0.fp.fk == a1.fp.fk) && ((a0.fp.fy == a1.fp.fy) && ((a0.fp.fa == a1.fp.fa) && true)))) (Q8 hg) (Q8 hg) (by kernel_rfl) Z Z Z Z Z Z) ?_
  refine u0 (Qg (v := .bool (((a0.fp.fk == a1.fp.fk) && ((a0.fp.fy == a1.fp.fy) && ((a0.fp.fa == a1.fp.fa) && true))))) (w := .bool false) Z Z Q6 Z QB Z Z Z) <| mv Z <| Q3 Z Z Q6 (fun hg => Q1 Z Z Z Z Z Z Z Z Z) <| Q3 Z Z Q6 (fun hg => Qi (Q8 hg) Z Z Z Z Z Z) <| Q3 Z Z Q6 (fun hg => Q1 Z Z Z Z Z Z Z Z Z) <| Q3 Z Z Q6 (fun hg => Qi (Q8 hg) Z Z Z Z Z Z) ?_;obtain ⟨v1, hv1, h⟩ := h;refine Q3 Z Z Q6 (fun hg => Qy (Xa _ _ _ (hv1 hg)) Z Z (.cons (Zh hg (.agg (.pp (.pp (.pp (.pp (.pp .nil))))))) (.cons (Zh hg (.agg (.pp (.pp (.pp (.pp (.pp .nil))))))) .nil)) Z Z Z) <| u0 (Qg (v := .bool v1) (w := .bool false) Z Z Q6 Z QB Z Z Z) <| mv Z <| Q3 Z Z Q6 (fun hg => Q1 Z Z Z Z Z Z Z Z Z) <| Q3 Z Z Q6 (fun hg => Qi (Q8 hg) Z Z Z Z Z Z) <| Q3 Z Z Q6 (fun hg => Q1 Z Z Z Z Z Z Z Z Z) <| Q3 Z Z Q6 (fun hg => Qi (Q8 hg) Z Z Z Z Z Z) ?_;obtain ⟨v2, hv2, h⟩ := h;refine Q3 Z Z Q6 (fun hg => Qy (XJ _ _ _ (hv2 hg)) Z Z (.cons (Zh hg (.agg (.pp (.pp (.pp .nil))))) (.cons (Zh hg (.agg (.pp (.pp (.pp .nil))))) .nil)) Z Z Z) <| u0 (Qg (v := .bool v2) (w := .bool false) Z Z Q6 Z QB Z Z Z) <| mv Z <| Q3 Z Z Q6 (fun hg => Q1 Z Z Z Z Z Z Z Z Z) <| Q3 Z Z Q6 (fun hg => Qi (Q8 hg) Z Z Z Z Z Z) <| Q3 Z Z Q6 (fun hg => Q1 Z Z Z Z Z Z Z Z Z) <| Q3 Z Z Q6 (fun hg => Qi (Q8 hg) Z Z Z Z Z Z) ?_
  obtain ⟨v3, hv3, h⟩ := h;refine Q3 Z Z Q6 (fun hg => Qy (YP _ _ _ (hv3 hg)) Z Z (.cons (Zh hg (.agg (.pp (.pp (.pp (.pp .nil)))))) (.cons (Zh hg (.agg (.pp (.pp (.pp (.pp .nil)))))) .nil)) Z Z Z) <| u0 (Qg (v := .bool v3) (w := .bool false) Z Z Q6 Z QB Z Z Z) <| mv Z <| Q3 Z Z Q6 (fun hg => Q1 Z Z Z Z Z Z Z Z Z) <| Q3 Z Z Q6 (fun hg => Qi (Q8 hg) Z Z Z Z Z Z) <| Q3 Z Z Q6 (fun hg => Q1 Z Z Z Z Z Z Z Z Z) <| Q3 Z Z Q6 (fun hg => Qi (Q8 hg) Z Z Z Z Z Z) ?_;obtain ⟨v4, hv4, h⟩ := h;refine Q3 Z Z Q6 (fun hg => Qy (Xb _ _ _ (hv4 hg)) Z Z (.cons (Zh hg (.agg (.pp (.pp (.pp (.pp (.pp .nil))))))) (.cons (Zh hg (.agg (.pp (.pp (.pp (.pp (.pp .nil))))))) .nil)) Z Z Z) <| u0 (Qg (v := .bool v4) (w := .bool false) Z Z Q6 Z QB Z Z Z) <| mv Z <| Q3 Z Z Q6 (fun hg => Q1 Z Z Z Z Z Z Z Z Z) <| Q3 Z Z Q6 (fun hg => Qi (Q8 hg) Z Z Z Z Z Z) <| Q3 Z Z Q6 (fun hg => Q1 Z Z Z Z Z Z Z Z Z) <| Q3 Z Z Q6 (fun hg => Qi (Q8 hg) Z Z Z Z Z Z) ?_;obtain ⟨v5, hv5, h⟩ := h
  refine Q3 Z Z Q6 (fun hg => Qy (Y6 _ _ _ (hv5 hg)) Z Z (.cons (Zh hg (.agg (.pp (.pp (.pp (.pp (.pp .nil))))))) (.cons (Zh hg (.agg (.pp (.pp (.pp (.pp (.pp .nil))))))) .nil)) Z Z Z) <| u0 (Qg (v := .bool v5) (w := .bool false) Z Z Q6 Z QB Z Z Z) <| QD Z Z <| rt (hL _ ?_);refine ZI (st' := ⟨[(4, .c (.p (.v (.bool ((bif (bif (bif (bif (bif (bif ((a0.fb.fo == a1.fb.fo) && ((a0.fb.fi == a1.fb.fi) && ((a0.fb.fv == a1.fb.fv) && ((a0.fb.fu == a1.fb.fu) && true)))) then ((a0.fp.fk == a1.fp.fk) && ((a0.fp.fy == a1.fp.fy) && ((a0.fp.fa == a1.fp.fa) && true))) else false) then v1 else false) then v2 else false) then v3 else false) then v4 else false) then v5 else false))))))], []⟩) (Z9.nm [4] [] Z Z) ?_;obtain rfl := h;exact Qm (hQ _ _ (K8 Z Z))
def KB (a0 : Qn) (a1 : Qn) (Q : Bool → Prop) : Prop :=
 ((((((a0.fa8.length : Int)) != ((a1.fa8.length : Int)))) = true → Q false) ∧ (((((a0.fa8.length : Int)) != ((a1.fa8.length : Int)))) = false → jn (fun (p2 : Unit) => ∃ (v8 : Bool), (((bif (bif (bif (a0.fc2 == a1.fc2) then (a0.fc4 == a1.fc4) else false) then (a0.fb6 == a1.fb6) else false) then (a0.fa1 == a1.fa1) else false)) = true → Kw a0.fc a1.fc v8) ∧ ∃ (v9 : Bool), (((bif (bif (bif (bif (a0.fc2 == a1.fc2) then (a0.fc4 == a1.fc4) else false) then (a0.fb6 == a1.fb6) else false) then (a0.fa1 == a1.fa1) else false) then v8 else false)) = true → Kw a0.ff a1.ff v9) ∧ Q (((bif (bif (bif (bif (bif (bif (bif (bif (bif (bif (bif (bif (a0.fc2 == a1.fc2) then (a0.fc4 == a1.fc4) else false) then (a0.fb6 == a1.fb6) else false) then (a0.fa1 == a1.fa1) else false) then v8 else false) then v9 else false) then (a0.fc5 == a1.fc5) else false) then (a0.fc6 == a1.fc6) else false) then (a0.f7 == a1.f7) else false) then (a0.f8 == a1.f8) else false) then ((a0.fAt.fa1 == a1.fAt.fa1) && ((a0.fAt.fc7 == a1.fAt.fc7) && true)) else false) then ((strOfNums a0.fb0).toList == (strOfNums a1.fb0).toList) else false) then (a0.fc0 == a1.fc0) else false)))) (fun (J2 : Unit → Prop) => lp (fun (X3 : Int → Prop) (s3 : Int) => (((decide (s3 < ((a0.fa8.length : Int)))) = true → ∃ v6, ix a0.fa8 s3 v6 ∧ ∃ v7, ix a1.fa8 s3 v7 ∧ ((((v6 != v7)) = true → Q false) ∧ (((v6 != v7)) = false → X3 ((IntKind.i64.wrap (s3 + 1)))))) ∧ ((decide (s3 < ((a0.fa8.length : Int)))) = false → J2 (())))) 0)))
def ZA (a0 : Qn) (a1 : Qn) (r : Bool) : Prop := KB a0 a1 fun x => r = x
theorem Xc (a0 : Qn) (a1 : Qn) (r : Bool) (h : ZA a0 a1 r) : Qz Try.prog 9 [.agg (ZW a0), .agg (ZW a1)] [.c (.p (.v (.bool r)))] [] := by
  refine Qx tb Try.func9 Z (by kernel_rfl) Z Z (Nat.le_of_ble_eq_true Z) Z ?_;intro E;unfold ZA KB at h;refine ZN (fun Q hQ => ?_);refine tk fun L hL => u1 (QR Z Z) <| u1 (QR Z Z) <| QD Z Z <| rt (hL _ ?_);refine sk fun L1 hL1 => tk fun L hL => u0 (Q1 Z Z Z Z Z Z Z Z Z) <| u0 (Q2 Z Z Z Z Z Z) <| u0 (Qw Z Z Z Z) <| u0 (Q1 Z Z Z Z Z Z Z Z Z) <| u0 (Q2 Z Z Z Z Z Z) <| u0 (Qw Z Z Z Z) <| u0 (Q9 (c := (((a0.fa8.length : Int)) != ((a1.fa8.length : Int)))) Z Z Z Z Z) <| rt (hL _ ?_);refine ZZ Z h (fun h => ?_) fun h => ?_
  · refine tk fun L hL => QD Z Z <| rt (hL _ ?_);obtain rfl := h;exact Qm (hQ _ _ (K8 Z Z))
  · refine Qv (hL1 _ ?_);refine Km (fun (p2 : Unit) => (⟨[(2, .c (.ptr (2, 0) 0 0)), (3, .c (.ptr (3, 0) 0 0))], [((2, 0), some (.box (List.map CV.p (ZW a0)))), ((3, 0), some (.box (List.map CV.p (ZW a1))))]⟩ : St)) h (fun p2 h => ?_) (fun J2 L2 hL2 h => ?_)
    · refine tk fun L hL => u0 (Q1 Z Z Z Z Z Z Z Z Z) <| u0 (Q2 Z Z Z Z Z Z) <| u0 (Q1 Z Z Z Z Z Z Z Z Z) <| u0 (Q2 Z Z Z Z Z Z) <| u0 (Q9 (c := (a0.fc2 == a1.fc2)) Z Z Z Z Z) <| mv Z <| Q3 Z Z Q6 (fun hg => Q1 Z Z Z Z Z Z Z Z Z) <| Q3 Z Z Q6 (fun hg => Q2 (Q8 hg) Z Z Z Z Z) <| Q3 Z Z Q6 (fun hg => Q1 Z Z Z Z Z Z Z Z Z) <| Q3 Z Z Q6 (fun hg => Q2 (Q8 hg) Z Z Z Z Z) <| Q3 Z Z Q6 (fun hg => Q9 (c := (a0.fc4 == a1.fc4)) (Q8 hg) (Q8 hg) Z Z Z) <| u0 (Qg (v := .bool ((a0.fc4 == a1.fc4))) (w := .bool false) Z Z Q6 Z QB Z Z Z) <| mv Z <| Q3 Z Z Q6 (fun hg => Q1 Z Z Z Z Z Z Z Z Z) <| Q3 Z Z Q6 (fun hg => Q2 (Q8 hg) Z Z Z Z Z) <| Q3 Z Z Q6 (fun hg => Q1 Z Z Z Z Z Z Z Z Z) <| Q3 Z Z Q6 (fun hg => Q2 (Q8 hg) Z Z Z Z Z) <| Q3 Z Z Q6 (fun hg => Vn (Q8 hg) (Q8 hg) Z Z Z Z) <| u0 (Qg (v := .bool ((a0.fb6 == a1.fb6))) (w := .bool false) Z Z Q6 Z QB Z Z Z) <| mv Z <| Q3 Z Z Q6 (fun hg => Q1 Z Z Z Z Z Z Z Z Z) <| Q3 Z Z Q6 (fun hg => Q2 (Q8 hg) Z Z Z Z Z) <| Q3 Z Z Q6 (fun hg => Q1 Z Z Z Z Z Z Z Z Z) <| Q3 Z Z Q6 (fun hg => Q2 (Q8 hg) Z Z Z Z Z) <| Q3 Z Z Q6 (fun hg => Q9 (c := (a0.fa1 == a1.fa1)) (Q8 hg) (Q8 hg) Z Z Z) ?_
      refine u0 (Qg (v := .bool ((a0.fa1 == a1.fa1))) (w := .bool false) Z Z Q6 Z QB Z Z Z) <| mv Z <| Q3 Z Z Q6 (fun hg => Q1 Z Z Z Z Z Z Z Z Z) <| Q3 Z Z Q6 (fun hg => Qi (Q8 hg) Z Z Z Z Z Z) <| Q3 Z Z Q6 (fun hg => Q1 Z Z Z Z Z Z Z Z Z) <| Q3 Z Z Q6 (fun hg => Qi (Q8 hg) Z Z Z Z Z Z) ?_;obtain ⟨v8, hv8, h⟩ := h;refine Q3 Z Z Q6 (fun hg => Qy (XK _ _ _ (hv8 hg)) Z Z (.cons (Zh hg (.agg (.pp (.pp (.pp (.pp (.pp (.pp (.pp (.pp (.pp (.pp (.pp (.pp (.pp (.pp (.pp (.pp (.pp (.pp (.pp (.pp (.pp (.pp (.pp (.pp (.pp (.pp (.pp (.pp (.pp .nil))))))))))))))))))))))))))))))) (.cons (Zh hg (.agg (.pp (.pp (.pp (.pp (.pp (.pp (.pp (.pp (.pp (.pp (.pp (.pp (.pp (.pp (.pp (.pp (.pp (.pp (.pp (.pp (.pp (.pp (.pp (.pp (.pp (.pp (.pp (.pp (.pp .nil))))))))))))))))))))))))))))))) .nil)) Z Z Z) <| u0 (Qg (v := .bool v8) (w := .bool false) Z Z Q6 Z QB Z Z Z) <| mv Z <| Q3 Z Z Q6 (fun hg => Q1 Z Z Z Z Z Z Z Z Z) <| Q3 Z Z Q6 (fun hg => Qi (Q8 hg) Z Z Z Z Z Z) <| Q3 Z Z Q6 (fun hg => Q1 Z Z Z Z Z Z Z Z Z) <| Q3 Z Z Q6 (fun hg => Qi (Q8 hg) Z Z Z Z Z Z) ?_
      obtain ⟨v9, hv9, h⟩ := h;refine Q3 Z Z Q6 (fun hg => Qy (XK _ _ _ (hv9 hg)) Z Z (.cons (Zh hg (.agg (.pp (.pp (.pp (.pp (.pp (.pp (.pp (.pp (.pp (.pp (.pp (.pp (.pp (.pp (.pp (.pp (.pp (.pp (.pp (.pp (.pp (.pp (.pp (.pp (.pp (.pp (.pp (.pp (.pp .nil))))))))))))))))))))))))))))))) (.cons (Zh hg (.agg (.pp (.pp (.pp (.pp (.pp (.pp (.pp (.pp (.pp (.pp (.pp (.pp (.pp (.pp (.pp (.pp (.pp (.pp (.pp (.pp (.pp (.pp (.pp (.pp (.pp (.pp (.pp (.pp (.pp .nil))))))))))))))))))))))))))))))) .nil)) Z Z Z) <| u0 (Qg (v := .bool v9) (w := .bool false) Z Z Q6 Z QB Z Z Z) <| mv Z <| Q3 Z Z Q6 (fun hg => Q1 Z Z Z Z Z Z Z Z Z) <| Q3 Z Z Q6 (fun hg => Q2 (Q8 hg) Z Z Z Z Z) <| Q3 Z Z Q6 (fun hg => Q1 Z Z Z Z Z Z Z Z Z) <| Q3 Z Z Q6 (fun hg => Q2 (Q8 hg) Z Z Z Z Z) <| Q3 Z Z Q6 (fun hg => Q9 (c := (a0.fc5 == a1.fc5)) (Q8 hg) (Q8 hg) Z Z Z) <| u0 (Qg (v := .bool ((a0.fc5 == a1.fc5))) (w := .bool false) Z Z Q6 Z QB Z Z Z) <| mv Z <| Q3 Z Z Q6 (fun hg => Q1 Z Z Z Z Z Z Z Z Z) <| Q3 Z Z Q6 (fun hg => Q2 (Q8 hg) Z Z Z Z Z) <| Q3 Z Z Q6 (fun hg => Q1 Z Z Z Z Z Z Z Z Z) <| Q3 Z Z Q6 (fun hg => Q2 (Q8 hg) Z Z Z Z Z) <| Q3 Z Z Q6 (fun hg => Q9 (c := (a0.fc6 == a1.fc6)) (Q8 hg) (Q8 hg) Z Z Z) <| u0 (Qg (v := .bool ((a0.fc6 == a1.fc6))) (w := .bool false) Z Z Q6 Z QB Z Z Z) ?_
      refine mv Z <| Q3 Z Z Q6 (fun hg => Q1 Z Z Z Z Z Z Z Z Z) <| Q3 Z Z Q6 (fun hg => Q2 (Q8 hg) Z Z Z Z Z) <| Q3 Z Z Q6 (fun hg => Q1 Z Z Z Z Z Z Z Z Z) <| Q3 Z Z Q6 (fun hg => Q2 (Q8 hg) Z Z Z Z Z) <| Q3 Z Z Q6 (fun hg => Q9 (c := (a0.f7 == a1.f7)) (Q8 hg) (Q8 hg) Z Z Z) <| u0 (Qg (v := .bool ((a0.f7 == a1.f7))) (w := .bool false) Z Z Q6 Z QB Z Z Z) <| mv Z <| Q3 Z Z Q6 (fun hg => Q1 Z Z Z Z Z Z Z Z Z) <| Q3 Z Z Q6 (fun hg => Q2 (Q8 hg) Z Z Z Z Z) <| Q3 Z Z Q6 (fun hg => Q1 Z Z Z Z Z Z Z Z Z) <| Q3 Z Z Q6 (fun hg => Q2 (Q8 hg) Z Z Z Z Z) <| Q3 Z Z Q6 (fun hg => Q9 (c := (a0.f8 == a1.f8)) (Q8 hg) (Q8 hg) Z Z Z) <| u0 (Qg (v := .bool ((a0.f8 == a1.f8))) (w := .bool false) Z Z Q6 Z QB Z Z Z) <| mv Z <| Q3 Z Z Q6 (fun hg => Q1 Z Z Z Z Z Z Z Z Z) <| Q3 Z Z Q6 (fun hg => Qi (Q8 hg) Z Z Z Z Z Z) <| Q3 Z Z Q6 (fun hg => Q1 Z Z Z Z Z Z Z Z Z) <| Q3 Z Z Q6 (fun hg => Qi (Q8 hg) Z Z Z Z Z Z) ?_
      refine Q3 Z Z Q6 (fun hg => UQ (us := [.int .i64 a0.fAt.fa1, .int .i64 a0.fAt.fc7]) (vs := [.int .i64 a1.fAt.fa1, .int .i64 a1.fAt.fc7]) (c := ((a0.fAt.fa1 == a1.fAt.fa1) && ((a0.fAt.fc7 == a1.fAt.fc7) && true))) (Q8 hg) (Q8 hg) (by kernel_rfl) Z Z Z Z Z Z) ?_;refine u0 (Qg (v := .bool (((a0.fAt.fa1 == a1.fAt.fa1) && ((a0.fAt.fc7 == a1.fAt.fc7) && true)))) (w := .bool false) Z Z Q6 Z QB Z Z Z) <| mv Z <| Q3 Z Z Q6 (fun hg => Q1 Z Z Z Z Z Z Z Z Z) <| Q3 Z Z Q6 (fun hg => Q2 (Q8 hg) Z Z Z Z Z) <| Q3 Z Z Q6 (fun hg => Kh (Q8 hg) Z Z Z Z Z Z Z) <| Q3 Z Z Q6 (fun hg => Q1 Z Z Z Z Z Z Z Z Z) <| Q3 Z Z Q6 (fun hg => Q2 (Q8 hg) Z Z Z Z Z) <| Q3 Z Z Q6 (fun hg => Kh (Q8 hg) Z Z Z Z Z Z Z) <| Q3 Z Z Q6 (fun hg => JP (c := ((strOfNums a0.fb0).toList == (strOfNums a1.fb0).toList)) (Q8 hg) (Q8 hg) Z Z Z) <| u0 (Qg (v := .bool (((strOfNums a0.fb0).toList == (strOfNums a1.fb0).toList))) (w := .bool false) Z Z Q6 Z QB Z Z Z) <| mv Z <| Q3 Z Z Q6 (fun hg => Q1 Z Z Z Z Z Z Z Z Z) <| Q3 Z Z Q6 (fun hg => Q2 (Q8 hg) Z Z Z Z Z) <| Q3 Z Z Q6 (fun hg => Q1 Z Z Z Z Z Z Z Z Z) <| Q3 Z Z Q6 (fun hg => Q2 (Q8 hg) Z Z Z Z Z) <| Q3 Z Z Q6 (fun hg => Vn (Q8 hg) (Q8 hg) Z Z Z Z) <| u0 (Qg (v := .bool ((a0.fc0 == a1.fc0))) (w := .bool false) Z Z Q6 Z QB Z Z Z) <| QD Z Z <| rt (hL _ ?_)
      refine ZI (st' := ⟨[(4, .c (.p (.v (.bool ((bif (bif (bif (bif (bif (bif (bif (bif (bif (bif (bif (bif (a0.fc2 == a1.fc2) then (a0.fc4 == a1.fc4) else false) then (a0.fb6 == a1.fb6) else false) then (a0.fa1 == a1.fa1) else false) then v8 else false) then v9 else false) then (a0.fc5 == a1.fc5) else false) then (a0.fc6 == a1.fc6) else false) then (a0.f7 == a1.f7) else false) then (a0.f8 == a1.f8) else false) then ((a0.fAt.fa1 == a1.fAt.fa1) && ((a0.fAt.fc7 == a1.fAt.fc7) && true)) else false) then ((strOfNums a0.fb0).toList == (strOfNums a1.fb0).toList) else false) then (a0.fc0 == a1.fc0) else false))))))], []⟩) (Z9.nm [4] [] Z Z) ?_;obtain rfl := h;exact Qm (hQ _ _ (K8 Z Z))
    · refine tk fun L hL => QD Z Z <| rt (hL _ ?_);refine QE ?_;refine KY (fun (s3 : Int) => (⟨[(2, .c (.ptr (2, 0) 0 0)), (3, .c (.ptr (3, 0) 0 0)), (5, .c (.p (.v (.int .i64 s3))))], [((2, 0), some (.box (List.map CV.p (ZW a0)))), ((3, 0), some (.box (List.map CV.p (ZW a1))))]⟩ : St)) h (Z9.nm [2, 3, 5] [((2, 0), (2, 0)), ((3, 0), (3, 0))] Z (by kernel_rfl)) (fun X3 L3 hL3 s3 h => ?_);refine sk fun L4 hL4 => tk fun L hL => mv Z <| u0 (Q1 Z Z Z Z Z Z Z Z Z) <| u0 (Q2 Z Z Z Z Z Z) <| u0 (Qw Z Z Z Z) <| u0 (Q9 (c := decide (s3 < ((a0.fa8.length : Int)))) Z Z Z Z Z) <| rt (hL _ ?_);refine ZZ Z h (fun h => ?_) fun h => ?_
      · refine Qv (hL4 _ ?_);refine sk fun L5 hL5 => QE <| dk mixed (fun L hL => ?_);refine u0 (Q1 Z Z Z Z Z Z Z Z Z) <| u0 (Q2 Z Z Z Z Z Z) <| mv Z ?_;obtain ⟨v6, hv6, h⟩ := h;refine u0 (Qq hv6 Z Z Z Z Z Z Z Z) <| u0 (Qo Z Z Z Z Z) <| u0 (Q1 Z Z Z Z Z Z Z Z Z) <| u0 (Q2 Z Z Z Z Z Z) <| mv Z ?_;obtain ⟨v7, hv7, h⟩ := h;refine u0 (Qq hv7 Z Z Z Z Z Z Z Z) <| u0 (Qo Z Z Z Z Z) <| u0 (Q9 (c := (v6 != v7)) Z Z Z Z Z) <| rd (hL _ ?_);refine ZZ Z h (fun h => ?_) fun h => ?_
        · refine tk fun L hL => QD Z Z <| rt (hL _ ?_);obtain rfl := h;exact Qm (hQ _ _ (K8 Z Z))
        · refine Qv (hL5 _ ?_);refine tl fun L hL => mv Z <| u0 (Zu Z Z Z Z Z) <| QD Z Z ?_;refine rt (hL _ (hL3 _ _ h (Z9.nm [2, 3, 5] [((2, 0), (2, 0)), ((3, 0), (3, 0))] Z (by kernel_rfl))))
      · refine Zv (hL2 _ _ h (Z9.nm [2, 3] [((2, 0), (2, 0)), ((3, 0), (3, 0))] Z (by kernel_rfl)))
def Kk (a0 : (List Qf)) (a1 : (List Qf)) (Q : Bool → Prop) : Prop :=
 ((((((a0.length : Int)) != ((a1.length : Int)))) = true → Q false) ∧ (((((a0.length : Int)) != ((a1.length : Int)))) = false → jn (fun (p2 : Unit) => Q true) (fun (J2 : Unit → Prop) => lp (fun (X3 : Int → Prop) (s3 : Int) => (((decide (s3 < ((a0.length : Int)))) = true → jn (fun (p5 : Unit) => X3 ((IntKind.i64.wrap (s3 + 1)))) (fun (J5 : Unit → Prop) => ∃ v7, ix a0 s3 v7 ∧ ∃ v8, ix a1 s3 v8 ∧ ∃ (v9 : Qf), ((!((!(v7.fb9 == v8.fb9)))) = true → ix a0 s3 v9) ∧ ∃ (v10 : Qf), ((!((!(v7.fb9 == v8.fb9)))) = true → ix a1 s3 v10) ∧ ∃ (v11 : Qf), ((!((bif (!(v7.fb9 == v8.fb9)) then true else (v9.fa6 != v10.fa6)))) = true → ix a0 s3 v11) ∧ ∃ (v12 : Qf), ((!((bif (!(v7.fb9 == v8.fb9)) then true else (v9.fa6 != v10.fa6)))) = true → ix a1 s3 v12) ∧ ((((bif (bif (!(v7.fb9 == v8.fb9)) then true else (v9.fa6 != v10.fa6)) then true else (((v11.f9.length : Int)) != ((v12.f9.length : Int))))) = true → Q false) ∧ (((bif (bif (!(v7.fb9 == v8.fb9)) then true else (v9.fa6 != v10.fa6)) then true else (((v11.f9.length : Int)) != ((v12.f9.length : Int))))) = false → lp (fun (X13 : Int → Prop) (s13 : Int) => ∃ v15, ix a0 s3 v15 ∧ (((decide (s13 < ((v15.f9.length : Int)))) = true → ∃ v17, ix a0 s3 v17 ∧ ∃ v18, ix v17.f9 s13 v18 ∧ ∃ v19, ix a1 s3 v19 ∧ ∃ v20, ix v19.f9 s13 v20 ∧ ((((!(v18.toList == v20.toList))) = true → Q false) ∧ (((!(v18.toList == v20.toList))) = false → X13 ((IntKind.i64.wrap (s13 + 1)))))) ∧ ((decide (s13 < ((v15.f9.length : Int)))) = false → J5 (())))) 0)))) ∧ ((decide (s3 < ((a0.length : Int)))) = false → J2 (())))) 0)))
def Zk (a0 : (List Qf)) (a1 : (List Qf)) (r : Bool) : Prop := Kk a0 a1 fun x => r = x
theorem VI (a0 : (List Qf)) (a1 : (List Qf)) (r : Bool) (h : Zk a0 a1 r) : Qz Try.prog 10 [.c (.l 3 (List.map QC a0)), .c (.l 3 (List.map QC a1))] [.c (.p (.v (.bool r)))] [] := by
  refine Qx tb Try.func10 Z (by kernel_rfl) Z Z (Nat.le_of_ble_eq_true Z) Z ?_;intro E;unfold Zk Kk at h;refine ZN (fun Q hQ => ?_);refine tk fun L hL => QD Z Z <| rt (hL _ ?_);refine sk fun L1 hL1 => tk fun L hL => mv Z <| u0 (Qw Z Z Z Z) <| mv Z <| u0 (Qw Z Z Z Z) <| u0 (Q9 (c := (((a0.length : Int)) != ((a1.length : Int)))) Z Z Z Z Z) <| rt (hL _ ?_);refine ZZ Z h (fun h => ?_) fun h => ?_
  · refine tk fun L hL => QD Z Z <| rt (hL _ ?_);obtain rfl := h;exact Qm (hQ _ _ (K8 Z Z))
  · refine Qv (hL1 _ ?_);refine Km (fun (p2 : Unit) => (⟨[], []⟩ : St)) h (fun p2 h => ?_) (fun J2 L2 hL2 h => ?_)
    · refine tk fun L hL => QD Z Z <| rt (hL _ ?_);obtain rfl := h;exact Qm (hQ _ _ (K8 Z Z))
    · refine tk fun L hL => QD Z Z <| rt (hL _ ?_);refine QE ?_;refine KY (fun (s3 : Int) => (⟨[(0, .c (.p (.l 3 (List.map QC a0)))), (1, .c (.p (.l 3 (List.map QC a1)))), (5, .c (.p (.v (.int .i64 s3))))], []⟩ : St)) h (Z9.nm [0, 1, 5] [] Z (by kernel_rfl)) (fun X3 L3 hL3 s3 h => ?_);refine sk fun L4 hL4 => tk fun L hL => mv Z <| mv Z <| u0 (Qw Z Z Z Z) <| u0 (Q9 (c := decide (s3 < ((a0.length : Int)))) Z Z Z Z Z) <| rt (hL _ ?_);refine ZZ Z h (fun h => ?_) fun h => ?_
      · refine Qv (hL4 _ ?_);refine Km (fun (p5 : Unit) => (⟨[(0, .c (.p (.l 3 (List.map QC a0)))), (1, .c (.p (.l 3 (List.map QC a1)))), (5, .c (.p (.v (.int .i64 s3))))], []⟩ : St)) h (fun p5 h => ?_) (fun J5 L5 hL5 h => ?_)
        · refine tl fun L hL => mv Z <| u0 (Zu Z Z Z Z Z) <| QD Z Z ?_;refine rt (hL _ (hL3 _ _ h (Z9.nm [0, 1, 5] [] Z (by kernel_rfl))))
        · refine QE <| sk fun L6 hL6 => dk mixed (fun L hL => ?_);refine mv Z <| mv Z ?_;obtain ⟨v7, hv7, h⟩ := h;refine u0 (Qq hv7 Z Z Z Z Z Z Z Z) <| u0 (QF Z Z Z Z Z Z Z Z) <| u0 (Qo Z Z Z Z Z) <| mv Z <| mv Z ?_;obtain ⟨v8, hv8, h⟩ := h;refine u0 (Qq hv8 Z Z Z Z Z Z Z Z) <| u0 (QF Z Z Z Z Z Z Z Z) <| u0 (Qo Z Z Z Z Z) <| u0 (Y4 Z Z Z Z Z Z) <| mv Z <| Q3 Z Z Q7 (fun hg => Qa Z Z) <| Q3 Z Z Q7 (fun hg => Qa Z Z) ?_;obtain ⟨v9, hv9, h⟩ := h;refine Q3 Z Z Q7 (fun hg => Qq (hv9 hg) (Q8 hg) (Q8 hg) Z Z Z Z Z Z) <| Q3 Z Z Q7 (fun hg => QF (Q8 hg) Z Z Z Z Z Z Z) <| Q3 Z Z Q7 (fun hg => Qo (Q8 hg) Z Z Z Z) <| Q3 Z Z Q7 (fun hg => Qa Z Z) <| Q3 Z Z Q7 (fun hg => Qa Z Z) ?_;obtain ⟨v10, hv10, h⟩ := h;refine Q3 Z Z Q7 (fun hg => Qq (hv10 hg) (Q8 hg) (Q8 hg) Z Z Z Z Z Z) <| Q3 Z Z Q7 (fun hg => QF (Q8 hg) Z Z Z Z Z Z Z) <| Q3 Z Z Q7 (fun hg => Qo (Q8 hg) Z Z Z Z) <| Q3 Z Z Q7 (fun hg => Q9 (c := (v9.fa6 != v10.fa6)) (Q8 hg) (Q8 hg) Z Z Z) <| u0 (Qp (v := .bool true) (w := .bool ((v9.fa6 != v10.fa6))) Z Z Q7 Z QB Z Z Z) <| mv Z <| Q3 Z Z Q7 (fun hg => Qa Z Z) <| Q3 Z Z Q7 (fun hg => Qa Z Z) ?_
          obtain ⟨v11, hv11, h⟩ := h;refine Q3 Z Z Q7 (fun hg => Qq (hv11 hg) (Q8 hg) (Q8 hg) Z Z Z Z Z Z) <| Q3 Z Z Q7 (fun hg => QF (Q8 hg) Z Z Z Z Z Z Z) <| Q3 Z Z Q7 (fun hg => Qo (Q8 hg) Z Z Z Z) <| Q3 Z Z Q7 (fun hg => Qw (Q8 hg) Z Z Z) <| Q3 Z Z Q7 (fun hg => Qa Z Z) <| Q3 Z Z Q7 (fun hg => Qa Z Z) ?_;obtain ⟨v12, hv12, h⟩ := h;refine Q3 Z Z Q7 (fun hg => Qq (hv12 hg) (Q8 hg) (Q8 hg) Z Z Z Z Z Z) <| Q3 Z Z Q7 (fun hg => QF (Q8 hg) Z Z Z Z Z Z Z) <| Q3 Z Z Q7 (fun hg => Qo (Q8 hg) Z Z Z Z) <| Q3 Z Z Q7 (fun hg => Qw (Q8 hg) Z Z Z) <| Q3 Z Z Q7 (fun hg => Q9 (c := (((v11.f9.length : Int)) != ((v12.f9.length : Int)))) (Q8 hg) (Q8 hg) Z Z Z) <| u0 (Qp (v := .bool true) (w := .bool ((((v11.f9.length : Int)) != ((v12.f9.length : Int))))) Z Z Q7 Z QB Z Z Z) <| rd (hL _ ?_);refine ZZ Z h (fun h => ?_) fun h => ?_
          · refine tk fun L hL => QD Z Z <| rt (hL _ ?_);refine ZI (st' := ⟨[(4, .c (.p (.v (.bool false))))], []⟩) (Z9.nm [4] [] Z Z) ?_;obtain rfl := h;exact Qm (hQ _ _ (K8 Z Z))
          · refine Qv (hL6 _ ?_);refine ZI (st' := ⟨[(0, .c (.p (.l 3 (List.map QC a0)))), (1, .c (.p (.l 3 (List.map QC a1)))), (5, .c (.p (.v (.int .i64 s3))))], []⟩) (Z9.nm [0, 1, 5] [] Z Z) ?_;refine tk fun L hL => QD Z Z <| rt (hL _ ?_);refine QE ?_;refine KY (fun (s13 : Int) => (⟨[(0, .c (.p (.l 3 (List.map QC a0)))), (1, .c (.p (.l 3 (List.map QC a1)))), (5, .c (.p (.v (.int .i64 s3)))), (6, .c (.p (.v (.int .i64 s13))))], []⟩ : St)) h (Z9.nm [0, 1, 5, 6] [] Z (by kernel_rfl)) (fun X13 L13 hL13 s13 h => ?_);refine sk fun L14 hL14 => tk fun L hL => mv Z <| mv Z <| mv Z ?_;obtain ⟨v15, hv15, h⟩ := h;refine u0 (Qq hv15 Z Z Z Z Z Z Z Z) <| u0 (QF Z Z Z Z Z Z Z Z) <| u0 (Qo Z Z Z Z Z) <| u0 (Qw Z Z Z Z) <| u0 (Q9 (c := decide (s13 < ((v15.f9.length : Int)))) Z Z Z Z Z) <| rt (hL _ ?_);refine ZZ Z h (fun h => ?_) fun h => ?_
            · refine Qv (hL14 _ ?_);refine sk fun L16 hL16 => QE <| dk mixed (fun L hL => ?_);refine mv Z <| mv Z ?_;obtain ⟨v17, hv17, h⟩ := h;refine u0 (Qq hv17 Z Z Z Z Z Z Z Z) <| u0 (QF Z Z Z Z Z Z Z Z) <| u0 (Qo Z Z Z Z Z) <| mv Z ?_;obtain ⟨v18, hv18, h⟩ := h;refine u0 (Qq hv18 Z Z Z Z Z Z Z Z) <| u0 (Qo Z Z Z Z Z) <| mv Z <| mv Z ?_;obtain ⟨v19, hv19, h⟩ := h;refine u0 (Qq hv19 Z Z Z Z Z Z Z Z) <| u0 (QF Z Z Z Z Z Z Z Z) <| u0 (Qo Z Z Z Z Z) <| mv Z ?_;obtain ⟨v20, hv20, h⟩ := h;refine u0 (Qq hv20 Z Z Z Z Z Z Z Z) <| u0 (Qo Z Z Z Z Z) <| u0 (JP (c := (!(v18.toList == v20.toList))) Z Z Z Z Z) <| rd (hL _ ?_);refine ZZ Z h (fun h => ?_) fun h => ?_
              · refine tk fun L hL => QD Z Z <| rt (hL _ ?_);obtain rfl := h;exact Qm (hQ _ _ (K8 Z Z))
              · refine Qv (hL16 _ ?_);refine tl fun L hL => mv Z <| u0 (Zu Z Z Z Z Z) <| QD Z Z ?_;refine rt (hL _ (hL13 _ _ h (Z9.nm [0, 1, 5, 6] [] Z (by kernel_rfl))))
            · refine Zv (hL5 _ _ h (Z9.nm [0, 1, 5] [] Z (by kernel_rfl)))
      · refine Zv (hL2 _ _ h (Z9.nm [] [] Z (by kernel_rfl)))
def KC (a0 : (List Qr)) (a1 : (List Qr)) (Q : Bool → Prop) : Prop :=
 ((((((a0.length : Int)) != ((a1.length : Int)))) = true → Q false) ∧ (((((a0.length : Int)) != ((a1.length : Int)))) = false → jn (fun (p2 : Unit) => Q true) (fun (J2 : Unit → Prop) => lp (fun (X3 : Int → Prop) (s3 : Int) => (((decide (s3 < ((a0.length : Int)))) = true → ∃ v6, ix a0 s3 v6 ∧ ∃ v7, ix a1 s3 v7 ∧ ((((!((v6.fb9 == v7.fb9) && ((v6.fa6 == v7.fa6) && ((v6.fb2.toList == v7.fb2.toList) && ((v6.fd1 == v7.fd1) && true)))))) = true → Q false) ∧ (((!((v6.fb9 == v7.fb9) && ((v6.fa6 == v7.fa6) && ((v6.fb2.toList == v7.fb2.toList) && ((v6.fd1 == v7.fd1) && true)))))) = false → X3 ((IntKind.i64.wrap (s3 + 1)))))) ∧ ((decide (s3 < ((a0.length : Int)))) = false → J2 (())))) 0)))
def ZB (a0 : (List Qr)) (a1 : (List Qr)) (r : Bool) : Prop := KC a0 a1 fun x => r = x
theorem Xd (a0 : (List Qr)) (a1 : (List Qr)) (r : Bool) (h : ZB a0 a1 r) : Qz Try.prog 11 [.c (.l 4 (List.map QU a0)), .c (.l 4 (List.map QU a1))] [.c (.p (.v (.bool r)))] [] := by
  refine Qx tb Try.func11 Z (by kernel_rfl) Z Z (Nat.le_of_ble_eq_true Z) Z ?_;intro E;unfold ZB KC at h;refine ZN (fun Q hQ => ?_);refine tk fun L hL => QD Z Z <| rt (hL _ ?_);refine sk fun L1 hL1 => tk fun L hL => mv Z <| u0 (Qw Z Z Z Z) <| mv Z <| u0 (Qw Z Z Z Z) <| u0 (Q9 (c := (((a0.length : Int)) != ((a1.length : Int)))) Z Z Z Z Z) <| rt (hL _ ?_);refine ZZ Z h (fun h => ?_) fun h => ?_
  · refine tk fun L hL => QD Z Z <| rt (hL _ ?_);obtain rfl := h;exact Qm (hQ _ _ (K8 Z Z))
  · refine Qv (hL1 _ ?_);refine Km (fun (p2 : Unit) => (⟨[], []⟩ : St)) h (fun p2 h => ?_) (fun J2 L2 hL2 h => ?_)
    · refine tk fun L hL => QD Z Z <| rt (hL _ ?_);obtain rfl := h;exact Qm (hQ _ _ (K8 Z Z))
    · refine tk fun L hL => QD Z Z <| rt (hL _ ?_);refine QE ?_;refine KY (fun (s3 : Int) => (⟨[(0, .c (.p (.l 4 (List.map QU a0)))), (1, .c (.p (.l 4 (List.map QU a1)))), (5, .c (.p (.v (.int .i64 s3))))], []⟩ : St)) h (Z9.nm [0, 1, 5] [] Z (by kernel_rfl)) (fun X3 L3 hL3 s3 h => ?_);refine sk fun L4 hL4 => tk fun L hL => mv Z <| mv Z <| u0 (Qw Z Z Z Z) <| u0 (Q9 (c := decide (s3 < ((a0.length : Int)))) Z Z Z Z Z) <| rt (hL _ ?_);refine ZZ Z h (fun h => ?_) fun h => ?_
      · refine Qv (hL4 _ ?_);refine sk fun L5 hL5 => QE <| dk mixed (fun L hL => ?_);refine mv Z <| mv Z ?_;obtain ⟨v6, hv6, h⟩ := h;refine u0 (Qq hv6 Z Z Z Z Z Z Z Z) <| u0 (QQ Z Z Z Z Z Z Z) <| mv Z <| mv Z ?_;obtain ⟨v7, hv7, h⟩ := h;refine u0 (Qq hv7 Z Z Z Z Z Z Z Z) <| u0 (QQ Z Z Z Z Z Z Z) ?_;refine u0 (YL (us := [.bool v6.fb9, .int .i64 v6.fa6, .string v6.fb2, .int .i64 v6.fd1]) (vs := [.bool v7.fb9, .int .i64 v7.fa6, .string v7.fb2, .int .i64 v7.fd1]) (c := (!((v6.fb9 == v7.fb9) && ((v6.fa6 == v7.fa6) && ((v6.fb2.toList == v7.fb2.toList) && ((v6.fd1 == v7.fd1) && true)))))) Z Z (by kernel_rfl) Z Z Z Z Z Z) ?_;refine rd (hL _ ?_);refine ZZ Z h (fun h => ?_) fun h => ?_
        · refine tk fun L hL => QD Z Z <| rt (hL _ ?_);obtain rfl := h;exact Qm (hQ _ _ (K8 Z Z))
        · refine Qv (hL5 _ ?_);refine tl fun L hL => mv Z <| u0 (Zu Z Z Z Z Z) <| QD Z Z ?_;refine rt (hL _ (hL3 _ _ h (Z9.nm [0, 1, 5] [] Z (by kernel_rfl))))
      · refine Zv (hL2 _ _ h (Z9.nm [] [] Z (by kernel_rfl)))
set_option maxRecDepth 100000
set_option maxHeartbeats 4000000
def Kq (a0 : (List Q4)) (a1 : (List Q4)) (Q : Bool → Prop) : Prop :=
 ((((((a0.length : Int)) != ((a1.length : Int)))) = true → Q false) ∧ (((((a0.length : Int)) != ((a1.length : Int)))) = false → jn (fun (p2 : Unit) => Q true) (fun (J2 : Unit → Prop) => lp (fun (X3 : Int → Prop) (s3 : Int) => (((decide (s3 < ((a0.length : Int)))) = true → ∃ v6, ix a0 s3 v6 ∧ ∃ v7, ix a1 s3 v7 ∧ ∃ (v8 : Q4), ((!((!(v6.fa5 == v7.fa5)))) = true → ix a0 s3 v8) ∧ ∃ (v9 : Q4), ((!((!(v6.fa5 == v7.fa5)))) = true → ix a1 s3 v9) ∧ ∃ (v10 : Q4), ((!((bif (!(v6.fa5 == v7.fa5)) then true else (v8.f0 != v9.f0)))) = true → ix a0 s3 v10) ∧ ∃ (v11 : Q4), ((!((bif (!(v6.fa5 == v7.fa5)) then true else (v8.f0 != v9.f0)))) = true → ix a1 s3 v11) ∧ ∃ (v12 : Bool), ((!((bif (!(v6.fa5 == v7.fa5)) then true else (v8.f0 != v9.f0)))) = true → Jd v10.fOp v11.fOp v12) ∧ ∃ (v13 : Q4), ((!((bif (bif (!(v6.fa5 == v7.fa5)) then true else (v8.f0 != v9.f0)) then true else !(v12)))) = true → ix a0 s3 v13) ∧ ∃ (v14 : Q4), ((!((bif (bif (!(v6.fa5 == v7.fa5)) then true else (v8.f0 != v9.f0)) then true else !(v12)))) = true → ix a1 s3 v14) ∧ ∃ (v15 : Bool), ((!((bif (bif (!(v6.fa5 == v7.fa5)) then true else (v8.f0 != v9.f0)) then true else !(v12)))) = true → ZA v13.fj v14.fj v15) ∧ ∃ (v16 : Q4), ((!((bif (bif (bif (!(v6.fa5 == v7.fa5)) then true else (v8.f0 != v9.f0)) then true else !(v12)) then true else !(v15)))) = true → ix a0 s3 v16) ∧ ∃ (v17 : Q4), ((!((bif (bif (bif (!(v6.fa5 == v7.fa5)) then true else (v8.f0 != v9.f0)) then true else !(v12)) then true else !(v15)))) = true → ix a1 s3 v17) ∧ ∃ (v18 : Bool), ((!((bif (bif (bif (!(v6.fa5 == v7.fa5)) then true else (v8.f0 != v9.f0)) then true else !(v12)) then true else !(v15)))) = true → Zk v16.f3 v17.f3 v18) ∧ ∃ (v19 : Q4), ((!((bif (bif (bif (bif (!(v6.fa5 == v7.fa5)) then true else (v8.f0 != v9.f0)) then true else !(v12)) then true else !(v15)) then true else !(v18)))) = true → ix a0 s3 v19) ∧ ∃ (v20 : Q4), ((!((bif (bif (bif (bif (!(v6.fa5 == v7.fa5)) then true else (v8.f0 != v9.f0)) then true else !(v12)) then true else !(v15)) then true else !(v18)))) = true → ix a1 s3 v20) ∧ ∃ (v21 : Bool), ((!((bif (bif (bif (bif (!(v6.fa5 == v7.fa5)) then true else (v8.f0 != v9.f0)) then true else !(v12)) then true else !(v15)) then true else !(v18)))) = true → ZB v19.fa9 v20.fa9 v21) ∧ ((((bif (bif (bif (bif (bif (!(v6.fa5 == v7.fa5)) then true else (v8.f0 != v9.f0)) then true else !(v12)) then true else !(v15)) then true else !(v18)) then true else !(v21))) = true → Q false) ∧ (((bif (bif (bif (bif (bif (!(v6.fa5 == v7.fa5)) then true else (v8.f0 != v9.f0)) then true else !(v12)) then true else !(v15)) then true else !(v18)) then true else !(v21))) = false → X3 ((IntKind.i64.wrap (s3 + 1)))))) ∧ ((decide (s3 < ((a0.length : Int)))) = false → J2 (())))) 0)))
def Zb (a0 : (List Q4)) (a1 : (List Q4)) (r : Bool) : Prop := Kq a0 a1 fun x => r = x
theorem JC (a0 : (List Q4)) (a1 : (List Q4)) (r : Bool) (h : Zb a0 a1 r) : Qz Try.prog 6 [.c (.l 97 (List.map Qj a0)), .c (.l 97 (List.map Qj a1))] [.c (.p (.v (.bool r)))] [] := by
  refine Qx tb Try.func6 Z (by kernel_rfl) Z Z (Nat.le_of_ble_eq_true Z) Z ?_;intro E;unfold Zb Kq at h;refine ZN (fun Q hQ => ?_);refine tk fun L hL => QD Z Z <| rt (hL _ ?_);refine sk fun L1 hL1 => tk fun L hL => mv Z <| u0 (Qw Z Z Z Z) <| mv Z <| u0 (Qw Z Z Z Z) <| u0 (Q9 (c := (((a0.length : Int)) != ((a1.length : Int)))) Z Z Z Z Z) <| rt (hL _ ?_);refine ZZ Z h (fun h => ?_) fun h => ?_
  · refine tk fun L hL => QD Z Z <| rt (hL _ ?_);obtain rfl := h;exact Qm (hQ _ _ (K8 Z Z))
  · refine Qv (hL1 _ ?_);refine Km (fun (p2 : Unit) => (⟨[], []⟩ : St)) h (fun p2 h => ?_) (fun J2 L2 hL2 h => ?_)
    · refine tk fun L hL => QD Z Z <| rt (hL _ ?_);obtain rfl := h;exact Qm (hQ _ _ (K8 Z Z))
    · refine tk fun L hL => QD Z Z <| rt (hL _ ?_);refine QE ?_;refine KY (fun (s3 : Int) => (⟨[(0, .c (.p (.l 97 (List.map Qj a0)))), (1, .c (.p (.l 97 (List.map Qj a1)))), (5, .c (.p (.v (.int .i64 s3))))], []⟩ : St)) h (Z9.nm [0, 1, 5] [] Z (by kernel_rfl)) (fun X3 L3 hL3 s3 h => ?_);refine sk fun L4 hL4 => tk fun L hL => mv Z <| mv Z <| u0 (Qw Z Z Z Z) <| u0 (Q9 (c := decide (s3 < ((a0.length : Int)))) Z Z Z Z Z) <| rt (hL _ ?_);refine ZZ Z h (fun h => ?_) fun h => ?_
      · refine Qv (hL4 _ ?_);refine sk fun L5 hL5 => QE <| dk mixed (fun L hL => ?_);refine mv Z <| mv Z ?_;obtain ⟨v6, hv6, h⟩ := h;refine u0 (Qq hv6 Z Z Z Z Z Z Z Z) <| u0 (QF Z Z Z Z Z Z Z Z) <| u0 (Qo Z Z Z Z Z) <| mv Z <| mv Z ?_;obtain ⟨v7, hv7, h⟩ := h;refine u0 (Qq hv7 Z Z Z Z Z Z Z Z) <| u0 (QF Z Z Z Z Z Z Z Z) <| u0 (Qo Z Z Z Z Z) <| u0 (Y4 Z Z Z Z Z Z) <| mv Z <| Q3 Z Z Q7 (fun hg => Qa Z Z) <| Q3 Z Z Q7 (fun hg => Qa Z Z) ?_;obtain ⟨v8, hv8, h⟩ := h;refine Q3 Z Z Q7 (fun hg => Qq (hv8 hg) (Q8 hg) (Q8 hg) Z Z Z Z Z Z) <| Q3 Z Z Q7 (fun hg => QF (Q8 hg) Z Z Z Z Z Z Z) <| Q3 Z Z Q7 (fun hg => Qo (Q8 hg) Z Z Z Z) <| Q3 Z Z Q7 (fun hg => Qa Z Z) <| Q3 Z Z Q7 (fun hg => Qa Z Z) ?_;obtain ⟨v9, hv9, h⟩ := h;refine Q3 Z Z Q7 (fun hg => Qq (hv9 hg) (Q8 hg) (Q8 hg) Z Z Z Z Z Z) <| Q3 Z Z Q7 (fun hg => QF (Q8 hg) Z Z Z Z Z Z Z) <| Q3 Z Z Q7 (fun hg => Qo (Q8 hg) Z Z Z Z) <| Q3 Z Z Q7 (fun hg => Q9 (c := (v8.f0 != v9.f0)) (Q8 hg) (Q8 hg) Z Z Z) <| u0 (Qp (v := .bool true) (w := .bool ((v8.f0 != v9.f0))) Z Z Q7 Z QB Z Z Z) <| mv Z <| Q3 Z Z Q7 (fun hg => Qa Z Z) <| Q3 Z Z Q7 (fun hg => Qa Z Z) ?_
        obtain ⟨v10, hv10, h⟩ := h;refine Q3 Z Z Q7 (fun hg => Qq (hv10 hg) (Q8 hg) (Q8 hg) Z Z Z Z Z Z) <| Q3 Z Z Q7 (fun hg => QF (Q8 hg) Z Z Z Z Z Z Z) <| Q3 Z Z Q7 (fun hg => QQ (Q8 hg) Z Z Z Z Z Z) <| Q3 Z Z Q7 (fun hg => Qa Z Z) <| Q3 Z Z Q7 (fun hg => Qa Z Z) ?_;obtain ⟨v11, hv11, h⟩ := h;refine Q3 Z Z Q7 (fun hg => Qq (hv11 hg) (Q8 hg) (Q8 hg) Z Z Z Z Z Z) <| Q3 Z Z Q7 (fun hg => QF (Q8 hg) Z Z Z Z Z Z Z) <| Q3 Z Z Q7 (fun hg => QQ (Q8 hg) Z Z Z Z Z Z) ?_;obtain ⟨v12, hv12, h⟩ := h;refine Q3 Z Z Q7 (fun hg => Qy (WL _ _ _ (hv12 hg)) Z Z (.cons (Zh hg (.agg (.pp (.pp (.pp (.pp (.pp (.pp (.pp (.pp (.pp (.pp (.pp (.pp (.pp (.pp (.pp (.pp (.pp (.pp (.pp (.pp (.pp (.pp .nil)))))))))))))))))))))))) (.cons (Zh hg (.agg (.pp (.pp (.pp (.pp (.pp (.pp (.pp (.pp (.pp (.pp (.pp (.pp (.pp (.pp (.pp (.pp (.pp (.pp (.pp (.pp (.pp (.pp .nil)))))))))))))))))))))))) .nil)) Z Z Z) <| Q3 Z Z Q7 (fun hg => ZE (Q8 hg) Z Z) <| u0 (Qp (v := .bool true) (w := .bool (!(v12))) Z Z Q7 Z QB Z Z Z) <| mv Z <| Q3 Z Z Q7 (fun hg => Qa Z Z) <| Q3 Z Z Q7 (fun hg => Qa Z Z) ?_
        obtain ⟨v13, hv13, h⟩ := h;refine Q3 Z Z Q7 (fun hg => Qq (hv13 hg) (Q8 hg) (Q8 hg) Z Z Z Z Z Z) <| Q3 Z Z Q7 (fun hg => QF (Q8 hg) Z Z Z Z Z Z Z) <| Q3 Z Z Q7 (fun hg => QQ (Q8 hg) Z Z Z Z Z Z) <| Q3 Z Z Q7 (fun hg => Qa Z Z) <| Q3 Z Z Q7 (fun hg => Qa Z Z) ?_;obtain ⟨v14, hv14, h⟩ := h;refine Q3 Z Z Q7 (fun hg => Qq (hv14 hg) (Q8 hg) (Q8 hg) Z Z Z Z Z Z) <| Q3 Z Z Q7 (fun hg => QF (Q8 hg) Z Z Z Z Z Z Z) <| Q3 Z Z Q7 (fun hg => QQ (Q8 hg) Z Z Z Z Z Z) ?_;obtain ⟨v15, hv15, h⟩ := h;refine Q3 Z Z Q7 (fun hg => Qy (Xc _ _ _ (hv15 hg)) Z Z (.cons (Zh hg (.agg (.pp (.pp (.pp (.pp (.pp (.pp (.pp (.pp (.pp (.pp (.pp (.pp (.pp (.pp (.pp (.pp (.pp (.pp (.pp (.pp (.pp (.pp (.pp (.pp (.pp (.pp (.pp (.pp (.pp (.pp (.pp (.pp (.pp (.pp (.pp (.pp (.pp (.pp (.pp (.pp (.pp (.pp (.pp (.pp (.pp (.pp (.pp (.pp (.pp (.pp (.pp (.pp (.pp (.pp (.pp (.pp (.pp (.pp (.pp (.pp (.pp (.pp (.pp (.pp (.pp (.pp (.pp (.pp (.pp (.pp (.pp .nil))))))))))))))))))))))))))))))))))))))))))))))))))))))))))))))))))))))))) (.cons (Zh hg (.agg (.pp (.pp (.pp (.pp (.pp (.pp (.pp (.pp (.pp (.pp (.pp (.pp (.pp (.pp (.pp (.pp (.pp (.pp (.pp (.pp (.pp (.pp (.pp (.pp (.pp (.pp (.pp (.pp (.pp (.pp (.pp (.pp (.pp (.pp (.pp (.pp (.pp (.pp (.pp (.pp (.pp (.pp (.pp (.pp (.pp (.pp (.pp (.pp (.pp (.pp (.pp (.pp (.pp (.pp (.pp (.pp (.pp (.pp (.pp (.pp (.pp (.pp (.pp (.pp (.pp (.pp (.pp (.pp (.pp (.pp (.pp .nil))))))))))))))))))))))))))))))))))))))))))))))))))))))))))))))))))))))))) .nil)) Z Z Z) <| Q3 Z Z Q7 (fun hg => ZE (Q8 hg) Z Z) <| u0 (Qp (v := .bool true) (w := .bool (!(v15))) Z Z Q7 Z QB Z Z Z) <| mv Z <| Q3 Z Z Q7 (fun hg => Qa Z Z) <| Q3 Z Z Q7 (fun hg => Qa Z Z) ?_
        obtain ⟨v16, hv16, h⟩ := h;refine Q3 Z Z Q7 (fun hg => Qq (hv16 hg) (Q8 hg) (Q8 hg) Z Z Z Z Z Z) <| Q3 Z Z Q7 (fun hg => QF (Q8 hg) Z Z Z Z Z Z Z) <| Q3 Z Z Q7 (fun hg => Qo (Q8 hg) Z Z Z Z) <| Q3 Z Z Q7 (fun hg => Qa Z Z) <| Q3 Z Z Q7 (fun hg => Qa Z Z) ?_;obtain ⟨v17, hv17, h⟩ := h;refine Q3 Z Z Q7 (fun hg => Qq (hv17 hg) (Q8 hg) (Q8 hg) Z Z Z Z Z Z) <| Q3 Z Z Q7 (fun hg => QF (Q8 hg) Z Z Z Z Z Z Z) <| Q3 Z Z Q7 (fun hg => Qo (Q8 hg) Z Z Z Z) ?_;obtain ⟨v18, hv18, h⟩ := h;refine Q3 Z Z Q7 (fun hg => Qy (VI _ _ _ (hv18 hg)) Z Z (.cons (Zh hg (.c (.p _))) (.cons (Zh hg (.c (.p _))) .nil)) Z Z Z) <| Q3 Z Z Q7 (fun hg => ZE (Q8 hg) Z Z) <| u0 (Qp (v := .bool true) (w := .bool (!(v18))) Z Z Q7 Z QB Z Z Z) <| mv Z <| Q3 Z Z Q7 (fun hg => Qa Z Z) <| Q3 Z Z Q7 (fun hg => Qa Z Z) ?_;obtain ⟨v19, hv19, h⟩ := h;refine Q3 Z Z Q7 (fun hg => Qq (hv19 hg) (Q8 hg) (Q8 hg) Z Z Z Z Z Z) <| Q3 Z Z Q7 (fun hg => QF (Q8 hg) Z Z Z Z Z Z Z) <| Q3 Z Z Q7 (fun hg => Qo (Q8 hg) Z Z Z Z) <| Q3 Z Z Q7 (fun hg => Qa Z Z) <| Q3 Z Z Q7 (fun hg => Qa Z Z) ?_
        obtain ⟨v20, hv20, h⟩ := h;refine Q3 Z Z Q7 (fun hg => Qq (hv20 hg) (Q8 hg) (Q8 hg) Z Z Z Z Z Z) <| Q3 Z Z Q7 (fun hg => QF (Q8 hg) Z Z Z Z Z Z Z) <| Q3 Z Z Q7 (fun hg => Qo (Q8 hg) Z Z Z Z) ?_;obtain ⟨v21, hv21, h⟩ := h;refine Q3 Z Z Q7 (fun hg => Qy (Xd _ _ _ (hv21 hg)) Z Z (.cons (Zh hg (.c (.p _))) (.cons (Zh hg (.c (.p _))) .nil)) Z Z Z) <| Q3 Z Z Q7 (fun hg => ZE (Q8 hg) Z Z) <| u0 (Qp (v := .bool true) (w := .bool (!(v21))) Z Z Q7 Z QB Z Z Z) <| rd (hL _ ?_);refine ZZ Z h (fun h => ?_) fun h => ?_
        · refine tk fun L hL => QD Z Z <| rt (hL _ ?_);refine ZI (st' := ⟨[(4, .c (.p (.v (.bool false))))], []⟩) (Z9.nm [4] [] Z Z) ?_;obtain rfl := h;exact Qm (hQ _ _ (K8 Z Z))
        · refine Qv (hL5 _ ?_);refine ZI (st' := ⟨[(0, .c (.p (.l 97 (List.map Qj a0)))), (1, .c (.p (.l 97 (List.map Qj a1)))), (5, .c (.p (.v (.int .i64 s3))))], []⟩) (Z9.nm [0, 1, 5] [] Z Z) ?_;refine tl fun L hL => mv Z <| u0 (Zu Z Z Z Z Z) <| QD Z Z ?_;refine rt (hL _ (hL3 _ _ h (Z9.nm [0, 1, 5] [] Z (by kernel_rfl))))
      · refine Zv (hL2 _ _ h (Z9.nm [] [] Z (by kernel_rfl)))
def Ve (a0 : Int) (Q : Bool → Prop) : Prop :=
 Q (((bif decide (a0 ≥ 97) then decide (a0 ≤ 122) else false)))
def Ki (a0 : Int) (r : Bool) : Prop := Ve a0 fun x => r = x
theorem Xl (a0 : Int) (r : Bool) (h : Ki a0 r) : Qz Try.prog 50 [.c (.v (.int .u8 a0))] [.c (.p (.v (.bool r)))] [] := by
  refine Qx tb Try.func50 Z (by kernel_rfl) Z Z (Nat.le_of_ble_eq_true Z) Z ?_;intro E;unfold Ki Ve at h;refine ZN (fun Q hQ => ?_);refine tk fun L hL => QD Z Z <| rt (hL _ ?_);refine tk fun L hL => mv Z <| u0 (Q9 (c := decide (a0 ≥ 97)) Z Z Z Z Z) <| mv Z <| Q3 Z Z Q6 (fun hg => Qa Z Z) <| Q3 Z Z Q6 (fun hg => Q9 (c := decide (a0 ≤ 122)) (Q8 hg) Z Z Z Z) <| u0 (Qg (v := .bool (decide (a0 ≤ 122))) (w := .bool false) Z Z Q6 Z QB Z Z Z) <| QD Z Z <| rt (hL _ ?_);obtain rfl := h;exact Qm (hQ _ _ (K8 Z Z))
def Vf (a0 : Int) (Q : Bool → Prop) : Prop :=
 Q (((bif decide (a0 ≥ 48) then decide (a0 ≤ 57) else false)))
def KL (a0 : Int) (r : Bool) : Prop := Vf a0 fun x => r = x
theorem W3 (a0 : Int) (r : Bool) (h : KL a0 r) : Qz Try.prog 51 [.c (.v (.int .u8 a0))] [.c (.p (.v (.bool r)))] [] := by
  refine Qx tb Try.func51 Z (by kernel_rfl) Z Z (Nat.le_of_ble_eq_true Z) Z ?_;intro E;unfold KL Vf at h;refine ZN (fun Q hQ => ?_);refine tk fun L hL => QD Z Z <| rt (hL _ ?_);refine tk fun L hL => mv Z <| u0 (Q9 (c := decide (a0 ≥ 48)) Z Z Z Z Z) <| mv Z <| Q3 Z Z Q6 (fun hg => Qa Z Z) <| Q3 Z Z Q6 (fun hg => Q9 (c := decide (a0 ≤ 57)) (Q8 hg) Z Z Z Z) <| u0 (Qg (v := .bool (decide (a0 ≤ 57))) (w := .bool false) Z Z Q6 Z QB Z Z Z) <| QD Z Z <| rt (hL _ ?_);obtain rfl := h;exact Qm (hQ _ _ (K8 Z Z))
def V0 (a0 : ByteArray) (Q : Bool → Prop) : Prop :=
 ∃ (v2 : Int), ((!((bif decide (((a0.size : Int)) < 1) then true else decide (((a0.size : Int)) > 16)))) = true → bx a0 0 v2) ∧ ∃ (v3 : Bool), ((!((bif decide (((a0.size : Int)) < 1) then true else decide (((a0.size : Int)) > 16)))) = true → Ki v2 v3) ∧ ((((bif (bif decide (((a0.size : Int)) < 1) then true else decide (((a0.size : Int)) > 16)) then true else !(v3))) = true → Q false) ∧ (((bif (bif decide (((a0.size : Int)) < 1) then true else decide (((a0.size : Int)) > 16)) then true else !(v3))) = false → jn (fun (p4 : Unit) => Q true) (fun (J4 : Unit → Prop) => lp (fun (X5 : Int → Prop) (s5 : Int) => (((decide (s5 < ((a0.size : Int)))) = true → ∃ v8, bx a0 s5 v8 ∧ ∃ v9, Ki v8 v9 ∧ ∃ (v10 : Bool), ((!(v9)) = true → KL v8 v10) ∧ ((((bif (bif (bif !(v9) then !(v10) else false) then (v8 != 45) else false) then (v8 != 46) else false)) = true → Q false) ∧ (((bif (bif (bif !(v9) then !(v10) else false) then (v8 != 45) else false) then (v8 != 46) else false)) = false → X5 ((IntKind.i64.wrap (s5 + 1)))))) ∧ ((decide (s5 < ((a0.size : Int)))) = false → J4 (())))) 0)))
def Kr (a0 : ByteArray) (r : Bool) : Prop := V0 a0 fun x => r = x
theorem YQ (a0 : ByteArray) (r : Bool) (h : Kr a0 r) : Qz Try.prog 44 [.c (.v (.string a0))] [.c (.p (.v (.bool r)))] [] := by
  refine Qx tb Try.func44 Z (by kernel_rfl) Z Z (Nat.le_of_ble_eq_true Z) Z ?_;intro E;unfold Kr V0 at h;refine ZN (fun Q hQ => ?_);refine tk fun L hL => QD Z Z <| rt (hL _ ?_);refine sk fun L1 hL1 => tk fun L hL => mv Z <| u0 (Kp Z Z Z Z) <| u0 (Q9 (c := decide (((a0.size : Int)) < 1)) Z Z Z Z Z) <| mv Z <| Q3 Z Z Q7 (fun hg => Qa Z Z) <| Q3 Z Z Q7 (fun hg => Kp (Q8 hg) Z Z Z) <| Q3 Z Z Q7 (fun hg => Q9 (c := decide (((a0.size : Int)) > 16)) (Q8 hg) Z Z Z Z) <| u0 (Qp (v := .bool true) (w := .bool (decide (((a0.size : Int)) > 16))) Z Z Q7 Z QB Z Z Z) <| mv Z <| Q3 Z Z Q7 (fun hg => Qa Z Z) ?_;obtain ⟨v2, hv2, h⟩ := h;refine Q3 Z Z Q7 (fun hg => VS (hv2 hg) (Q8 hg) Z Z Z Z Z) ?_;obtain ⟨v3, hv3, h⟩ := h;refine Q3 Z Z Q7 (fun hg => Qy (Xl _ _ (hv3 hg)) Z Z (.cons (Zh hg (.c (.p _))) .nil) Z Z Z) <| Q3 Z Z Q7 (fun hg => ZE (Q8 hg) Z Z) <| u0 (Qp (v := .bool true) (w := .bool (!(v3))) Z Z Q7 Z QB Z Z Z) <| rt (hL _ ?_);refine ZZ Z h (fun h => ?_) fun h => ?_
  · refine tk fun L hL => QD Z Z <| rt (hL _ ?_);obtain rfl := h;exact Qm (hQ _ _ (K8 Z Z))
  · refine Qv (hL1 _ ?_);refine ZI (st' := ⟨[(0, .c (.p (.v (.string a0))))], []⟩) (Z9.nm [0] [] Z Z) ?_;refine Km (fun (p4 : Unit) => (⟨[], []⟩ : St)) h (fun p4 h => ?_) (fun J4 L4 hL4 h => ?_)
    · refine tk fun L hL => QD Z Z <| rt (hL _ ?_);obtain rfl := h;exact Qm (hQ _ _ (K8 Z Z))
    · refine tk fun L hL => mv Z <| u0 (Kp Z Z Z Z) <| u0 (Qa Z Z) <| rt (hL _ ?_);refine QE ?_;refine KY (fun (s5 : Int) => (⟨[(0, .c (.p (.v (.string a0)))), (20, .c (.p (.v (.int .i64 ((a0.size : Int)))))), (21, .c (.p (.v (.int .i64 s5))))], []⟩ : St)) h (Z9.nm [0, 20, 21] [] Z (by kernel_rfl)) (fun X5 L5 hL5 s5 h => ?_);refine tk fun L hL => u0 (Q9 (c := decide (s5 < ((a0.size : Int)))) Z Z Z Z Z) <| rt (hL _ ?_);refine sk fun L6 hL6 => ?_;refine ZZ Z h (fun h => ?_) fun h => ?_
      · refine Qv (hL6 _ ?_);refine sk fun L7 hL7 => QE <| tk fun L hL => mv Z <| QD Z Z <| rt (hL _ ?_);refine tk fun L hL => mv Z <| mv Z ?_;obtain ⟨v8, hv8, h⟩ := h;refine u0 (VS hv8 Z Z Z Z Z Z) <| QD Z Z <| rt (hL _ ?_);refine tk fun L hL => mv Z ?_;obtain ⟨v9, hv9, h⟩ := h;refine u0 (Qy (Xl _ _ hv9) Z Z (.cons (.c (.p _)) .nil) Z Z Z) <| u0 (ZE Z Z Z) <| mv Z <| Q3 Z Z Q6 (fun hg => Qa Z Z) ?_;obtain ⟨v10, hv10, h⟩ := h;refine Q3 Z Z Q6 (fun hg => Qy (W3 _ _ (hv10 hg)) Z Z (.cons (Zh hg (.c (.p _))) .nil) Z Z Z) <| Q3 Z Z Q6 (fun hg => ZE (Q8 hg) Z Z) <| u0 (Qg (v := .bool (!(v10))) (w := .bool false) Z Z Q6 Z QB Z Z Z) <| mv Z <| Q3 Z Z Q6 (fun hg => Qa Z Z) <| Q3 Z Z Q6 (fun hg => Q9 (c := (v8 != 45)) (Q8 hg) Z Z Z Z) <| u0 (Qg (v := .bool ((v8 != 45))) (w := .bool false) Z Z Q6 Z QB Z Z Z) <| mv Z <| Q3 Z Z Q6 (fun hg => Qa Z Z) <| Q3 Z Z Q6 (fun hg => Q9 (c := (v8 != 46)) (Q8 hg) Z Z Z Z) <| u0 (Qg (v := .bool ((v8 != 46))) (w := .bool false) Z Z Q6 Z QB Z Z Z) <| rt (hL _ ?_)
        refine ZZ Z h (fun h => ?_) fun h => ?_
        · refine tk fun L hL => QD Z Z <| rt (hL _ ?_);obtain rfl := h;exact Qm (hQ _ _ (K8 Z Z))
        · refine Qv (hL7 _ ?_);refine ZI (st' := ⟨[(0, .c (.p (.v (.string a0)))), (20, .c (.p (.v (.int .i64 ((a0.size : Int)))))), (21, .c (.p (.v (.int .i64 s5))))], []⟩) (Z9.nm [0, 20, 21] [] Z Z) ?_;refine tl fun L hL => u0 (Zu Z Z Z Z Z) <| mv Z ?_;refine rt (hL _ (hL5 _ _ h (Z9.nm [0, 20, 21] [] Z (by kernel_rfl))))
      · refine Zv (hL4 _ _ h (Z9.nm [] [] Z (by kernel_rfl)))
def Vo (a0 : ByteArray) (Q : Int → Prop) : Prop :=
 ∃ v2, Kr a0 v2 ∧ (((!(v2)) = true → Q 6) ∧ ((!(v2)) = false → Q 0))
def ZG (a0 : ByteArray) (r : Int) : Prop := Vo a0 fun x => r = x
theorem Jr (a0 : ByteArray) (r : Int) (h : ZG a0 r) : Qz Try.prog 35 [.c (.v (.string a0))] [.c (.p (.v (.int .i64 r)))] [] := by
  refine Qx tb Try.func35 Z (by kernel_rfl) Z Z (Nat.le_of_ble_eq_true Z) Z ?_;intro E;unfold ZG Vo at h;refine ZN (fun Q hQ => ?_);refine tk fun L hL => QD Z Z <| rt (hL _ ?_);refine sk fun L1 hL1 => tk fun L hL => mv Z ?_;obtain ⟨v2, hv2, h⟩ := h;refine u0 (Qy (YQ _ _ hv2) Z Z (.cons (.c (.p _)) .nil) Z Z Z) <| u0 (ZE Z Z Z) <| rt (hL _ ?_);refine ZZ Z h (fun h => ?_) fun h => ?_
  · refine tk fun L hL => QD Z Z <| rt (hL _ ?_);obtain rfl := h;exact Qm (hQ _ _ (K8 Z Z))
  · refine Qv (hL1 _ ?_);refine tk fun L hL => QD Z Z <| rt (hL _ ?_);obtain rfl := h;exact Qm (hQ _ _ (K8 Z Z))
def KE (a0 : Int) (a1 : Int) (a2 : Int) (Q : Int → Prop) : Prop :=
 ((((bif decide (a0 < a1) then true else decide (a0 > a2))) = true → Q 5) ∧ (((bif decide (a0 < a1) then true else decide (a0 > a2))) = false → Q 0))
def QH (a0 : Int) (a1 : Int) (a2 : Int) (r : Int) : Prop := KE a0 a1 a2 fun x => r = x
theorem QW (a0 : Int) (a1 : Int) (a2 : Int) (r : Int) (h : QH a0 a1 a2 r) : Qz Try.prog 40 [.c (.v (.int .i64 a0)), .c (.v (.int .i64 a1)), .c (.v (.int .i64 a2))] [.c (.p (.v (.int .i64 r)))] [] := by
  refine Qx tb Try.func40 Z (by kernel_rfl) Z Z (Nat.le_of_ble_eq_true Z) Z ?_;intro E;unfold QH KE at h;refine ZN (fun Q hQ => ?_);refine tk fun L hL => QD Z Z <| rt (hL _ ?_);refine sk fun L1 hL1 => tk fun L hL => mv Z <| mv Z <| u0 (Q9 (c := decide (a0 < a1)) Z Z Z Z Z) <| mv Z <| Q3 Z Z Q7 (fun hg => Qa Z Z) <| Q3 Z Z Q7 (fun hg => Qa Z Z) <| Q3 Z Z Q7 (fun hg => Q9 (c := decide (a0 > a2)) (Q8 hg) (Q8 hg) Z Z Z) <| u0 (Qp (v := .bool true) (w := .bool (decide (a0 > a2))) Z Z Q7 Z QB Z Z Z) <| rt (hL _ ?_);refine ZZ Z h (fun h => ?_) fun h => ?_
  · refine tk fun L hL => QD Z Z <| rt (hL _ ?_);obtain rfl := h;exact Qm (hQ _ _ (K8 Z Z))
  · refine Qv (hL1 _ ?_);refine ZI (st' := ⟨[], []⟩) (Z9.nm [] [] Z Z) ?_;refine tk fun L hL => QD Z Z <| rt (hL _ ?_);obtain rfl := h;exact Qm (hQ _ _ (K8 Z Z))
def Js (a0 : (List ByteArray)) (Q : Int → Prop) : Prop :=
 ∃ v2, QH ((a0.length : Int)) 1 16 v2 ∧ ((((v2 != 0)) = true → Q v2) ∧ (((v2 != 0)) = false → jn (fun (p3 : Unit) => Q 0) (fun (J3 : Unit → Prop) => lp (fun (X4 : Int → Prop) (s4 : Int) => (((decide (s4 < ((a0.length : Int)))) = true → ∃ v7, ix a0 s4 v7 ∧ ∃ v8, ZG v7 v8 ∧ ((((v8 != 0)) = true → Q v8) ∧ (((v8 != 0)) = false → X4 ((IntKind.i64.wrap (s4 + 1)))))) ∧ ((decide (s4 < ((a0.length : Int)))) = false → J3 (())))) 0)))
def K2 (a0 : (List ByteArray)) (r : Int) : Prop := Js a0 fun x => r = x
theorem Y7 (a0 : (List ByteArray)) (r : Int) (h : K2 a0 r) : Qz Try.prog 36 [.c (.l 1 (List.map eS a0))] [.c (.p (.v (.int .i64 r)))] [] := by
  refine Qx tb Try.func36 Z (by kernel_rfl) Z Z (Nat.le_of_ble_eq_true Z) Z ?_;intro E;unfold K2 Js at h;refine ZN (fun Q hQ => ?_);refine tk fun L hL => QD Z Z <| rt (hL _ ?_);refine sk fun L1 hL1 => tk fun L hL => mv Z <| u0 (Qw Z Z Z Z) ?_;obtain ⟨v2, hv2, h⟩ := h;refine u0 (Qy (QW _ _ _ _ hv2) Z Z (.cons (.c (.p _)) (.cons (.c (.p _)) (.cons (.c (.p _)) .nil))) Z Z Z) <| QD Z Z <| rt (hL _ ?_);refine tk fun L hL => mv Z <| u0 (Q9 (c := (v2 != 0)) Z Z Z Z Z) <| rt (hL _ ?_);refine ZZ Z h (fun h => ?_) fun h => ?_
  · refine tk fun L hL => mv Z <| QD Z Z <| rt (hL _ ?_);obtain rfl := h;exact Qm (hQ _ _ (K8 Z Z))
  · refine Qv (hL1 _ ?_);refine Km (fun (p3 : Unit) => (⟨[], []⟩ : St)) h (fun p3 h => ?_) (fun J3 L3 hL3 h => ?_)
    · refine tk fun L hL => QD Z Z <| rt (hL _ ?_);obtain rfl := h;exact Qm (hQ _ _ (K8 Z Z))
    · refine tk fun L hL => mv Z <| u0 (Qw Z Z Z Z) <| u0 (Qa Z Z) <| rt (hL _ ?_);refine QE ?_;refine KY (fun (s4 : Int) => (⟨[(13, .c (.p (.l 1 (List.map eS a0)))), (14, .c (.p (.v (.int .i64 ((a0.length : Int)))))), (15, .c (.p (.v (.int .i64 s4))))], []⟩ : St)) h (Z9.nm [13, 14, 15] [] Z (by kernel_rfl)) (fun X4 L4 hL4 s4 h => ?_);refine tk fun L hL => u0 (Q9 (c := decide (s4 < ((a0.length : Int)))) Z Z Z Z Z) <| rt (hL _ ?_);refine sk fun L5 hL5 => ?_;refine ZZ Z h (fun h => ?_) fun h => ?_
      · refine Qv (hL5 _ ?_);refine sk fun L6 hL6 => QE <| tk fun L hL => ?_;obtain ⟨v7, hv7, h⟩ := h;refine u0 (Qq hv7 Z Z Z Z Z Z Z Z) <| u0 (Qo Z Z Z Z Z) <| QD Z Z <| rt (hL _ ?_);refine tk fun L hL => mv Z ?_;obtain ⟨v8, hv8, h⟩ := h;refine u0 (Qy (Jr _ _ hv8) Z Z (.cons (.c (.p _)) .nil) Z Z Z) <| QD Z Z <| rt (hL _ ?_);refine tk fun L hL => mv Z <| u0 (Q9 (c := (v8 != 0)) Z Z Z Z Z) <| rt (hL _ ?_);refine ZZ Z h (fun h => ?_) fun h => ?_
        · refine tk fun L hL => mv Z <| QD Z Z <| rt (hL _ ?_);obtain rfl := h;exact Qm (hQ _ _ (K8 Z Z))
        · refine Qv (hL6 _ ?_);refine tl fun L hL => u0 (Zu Z Z Z Z Z) <| mv Z ?_;refine rt (hL _ (hL4 _ _ h (Z9.nm [13, 14, 15] [] Z (by kernel_rfl))))
      · refine Zv (hL3 _ _ h (Z9.nm [] [] Z (by kernel_rfl)))
def JG (a0 : Int) (a1 : Int) (a2 : Int) (Q : Bool → Prop) : Prop :=
 Q (((bif decide (a0 ≥ a1) then decide (a0 ≤ a2) else false)))
def Z8 (a0 : Int) (a1 : Int) (a2 : Int) (r : Bool) : Prop := JG a0 a1 a2 fun x => r = x
theorem Kg (a0 : Int) (a1 : Int) (a2 : Int) (r : Bool) (h : Z8 a0 a1 a2 r) : Qz Try.prog 45 [.c (.v (.int .i64 a0)), .c (.v (.int .i64 a1)), .c (.v (.int .i64 a2))] [.c (.p (.v (.bool r)))] [] := by
  refine Qx tb Try.func45 Z (by kernel_rfl) Z Z (Nat.le_of_ble_eq_true Z) Z ?_;intro E;unfold Z8 JG at h;refine ZN (fun Q hQ => ?_);refine tk fun L hL => QD Z Z <| rt (hL _ ?_);refine tk fun L hL => mv Z <| mv Z <| u0 (Q9 (c := decide (a0 ≥ a1)) Z Z Z Z Z) <| mv Z <| Q3 Z Z Q6 (fun hg => Qa Z Z) <| Q3 Z Z Q6 (fun hg => Qa Z Z) <| Q3 Z Z Q6 (fun hg => Q9 (c := decide (a0 ≤ a2)) (Q8 hg) (Q8 hg) Z Z Z) <| u0 (Qg (v := .bool (decide (a0 ≤ a2))) (w := .bool false) Z Z Q6 Z QB Z Z Z) <| QD Z Z <| rt (hL _ ?_);obtain rfl := h;exact Qm (hQ _ _ (K8 Z Z))
def K3 (a0 : Qe) (Q : Int → Prop) : Prop :=
 jn (fun (p1 : Bool × Bool × Bool × Bool) => (((!(p1.1)) = true → Q 5) ∧ ((!(p1.1)) = false → ((((bif (bif (bif !(p1.2.1) then (a0.fi != 0) else false) then true else (bif !(p1.2.2.1) then (a0.fv != 0) else false)) then true else (bif !(p1.2.2.2) then (a0.fu != 0) else false))) = true → Q 10) ∧ (((bif (bif (bif !(p1.2.1) then (a0.fi != 0) else false) then true else (bif !(p1.2.2.1) then (a0.fv != 0) else false)) then true else (bif !(p1.2.2.2) then (a0.fu != 0) else false))) = false → Q 0))))) (fun (J1 : Bool × Bool × Bool × Bool → Prop) => ((((a0.fo == 1)) = true → J1 (true, false, false, false)) ∧ (((a0.fo == 1)) = false → ((((a0.fo == 2)) = true → ∃ v2, Z8 a0.fv 1 8 v2 ∧ ∃ (v3 : Bool), (v2 = true → Z8 a0.fi 1 64 v3) ∧ J1 (((bif v2 then v3 else false)), true, true, true)) ∧ (((a0.fo == 2)) = false → ((((a0.fo == 3)) = true → ∃ v4, Z8 a0.fi 2 8 v4 ∧ J1 (v4, true, false, true)) ∧ (((a0.fo == 3)) = false → jn (fun (p5 : Bool) => ((p5 = true → ∃ v6, Z8 a0.fi 1 32 v6 ∧ J1 (v6, true, false, false)) ∧ (p5 = false → ((((a0.fo == 6)) = true → ∃ v7, Z8 a0.fi 2 32 v7 ∧ J1 (((bif v7 then ((a0.fi.tmod 2) == 0) else false)), true, false, false)) ∧ (((a0.fo == 6)) = false → Q 8))))) (fun (J5 : Bool → Prop) => ((((a0.fo == 4)) = true → J5 (((a0.fo == 4)))) ∧ (((a0.fo == 4)) = false → J5 (((a0.fo == 5)))))))))))))
def Zc (a0 : Qe) (r : Int) : Prop := K3 a0 fun x => r = x
theorem Vp (a0 : Qe) (r : Int) (h : Zc a0 r) : Qz Try.prog 37 [.agg (Vu a0)] [.c (.p (.v (.int .i64 r)))] [] := by
  refine Qx tb Try.func37 Z (by kernel_rfl) Z Z (Nat.le_of_ble_eq_true Z) Z ?_;intro E;unfold Zc K3 at h;refine ZN (fun Q hQ => ?_);refine tk fun L hL => u1 (QR Z Z) <| QD Z Z <| rt (hL _ ?_);refine tk fun L hL => QD Z Z <| QD Z Z <| QD Z Z <| QD Z Z <| rt (hL _ ?_);refine Km (fun (p1 : Bool × Bool × Bool × Bool) => (⟨[(1, .c (.ptr (1, 0) 0 0)), (3, .c (.p (.v (.bool p1.1)))), (4, .c (.p (.v (.bool p1.2.1)))), (5, .c (.p (.v (.bool p1.2.2.1)))), (6, .c (.p (.v (.bool p1.2.2.2))))], [((1, 0), some (.box (List.map CV.p (Vu a0))))]⟩ : St)) h (fun p1 h => ?_) (fun J1 L1 hL1 h => ?_)
  · refine sk fun L8 hL8 => tk fun L hL => mv Z <| u0 (ZE Z Z Z) <| rt (hL _ ?_);refine ZZ Z h (fun h => ?_) fun h => ?_
    · refine tk fun L hL => QD Z Z <| rt (hL _ ?_);obtain rfl := h;exact Qm (hQ _ _ (K8 Z Z))
    · refine Qv (hL8 _ ?_);refine sk fun L9 hL9 => tk fun L hL => mv Z <| u0 (ZE Z Z Z) <| mv Z <| Q3 Z Z Q6 (fun hg => Q1 Z Z Z Z Z Z Z Z Z) <| Q3 Z Z Q6 (fun hg => Q2 (Q8 hg) Z Z Z Z Z) <| Q3 Z Z Q6 (fun hg => Q9 (c := (a0.fi != 0)) (Q8 hg) Z Z Z Z) <| u0 (Qg (v := .bool ((a0.fi != 0))) (w := .bool false) Z Z Q6 Z QB Z Z Z) <| mv Z <| Q3 Z Z Q7 (fun hg => Qa Z Z) <| Q3 Z Z Q7 (fun hg => ZE (Q8 hg) Z Z) <| Q3 Z Z Q7 (fun hg => Qa (Q8 hg) Z) <| Z7 Z Z Jb (fun hg => Q1 Z Z Z Z Z Z Z Z Z) <| Z7 Z Z Jb (fun hg => Q2 (Q8 hg) Z Z Z Z Z) <| Z7 Z Z Jb (fun hg => Q9 (c := (a0.fv != 0)) (Q8 hg) Z Z Z Z) <| Q3 Z Z Q7 (fun hg => Qg (v := .bool ((a0.fv != 0))) (w := .bool false) (Q8 hg) Z (WI hg) Z QB Z Z Z) <| u0 (Qp (v := .bool true) (w := .bool ((bif !(p1.2.2.1) then (a0.fv != 0) else false))) Z Z Q7 Z QB Z Z Z) <| mv Z <| Q3 Z Z Q7 (fun hg => Qa Z Z) <| Q3 Z Z Q7 (fun hg => ZE (Q8 hg) Z Z) <| Q3 Z Z Q7 (fun hg => Qa (Q8 hg) Z) <| Z7 Z Z Jb (fun hg => Q1 Z Z Z Z Z Z Z Z Z) <| Z7 Z Z Jb (fun hg => Q2 (Q8 hg) Z Z Z Z Z) <| Z7 Z Z Jb (fun hg => Q9 (c := (a0.fu != 0)) (Q8 hg) Z Z Z Z) <| Q3 Z Z Q7 (fun hg => Qg (v := .bool ((a0.fu != 0))) (w := .bool false) (Q8 hg) Z (WI hg) Z QB Z Z Z) ?_
      refine u0 (Qp (v := .bool true) (w := .bool ((bif !(p1.2.2.2) then (a0.fu != 0) else false))) Z Z Q7 Z QB Z Z Z) <| rt (hL _ ?_);refine ZZ Z h (fun h => ?_) fun h => ?_
      · refine tk fun L hL => QD Z Z <| rt (hL _ ?_);obtain rfl := h;exact Qm (hQ _ _ (K8 Z Z))
      · refine Qv (hL9 _ ?_);refine ZI (st' := ⟨[], []⟩) (Z9.nm [] [] Z Z) ?_;refine tk fun L hL => QD Z Z <| rt (hL _ ?_);obtain rfl := h;exact Qm (hQ _ _ (K8 Z Z))
  · refine tk fun L hL => u0 (Q1 Z Z Z Z Z Z Z Z Z) <| u0 (Q2 Z Z Z Z Z Z) <| rt (hL _ ?_);refine QE <| tk fun L hL => u0 (Q9 (c := (a0.fo == 1)) Z Z Z Z Z) <| QD Z Z <| rt (hL _ ?_);refine ZZ Z h (fun h => ?_) fun h => ?_
    · refine tl fun L hL => QD Z Z ?_;refine rt (hL _ (hL1 _ _ h (Z9.nm [1, 3, 4, 5, 6] [((1, 0), (1, 0))] Z (by kernel_rfl))))
    · refine tk fun L hL => u0 (Q9 (c := (a0.fo == 2)) Z Z Z Z Z) <| QD Z Z <| rt (hL _ ?_);refine ZZ Z h (fun h => ?_) fun h => ?_
      · refine tk fun L hL => u0 (Q1 Z Z Z Z Z Z Z Z Z) <| u0 (Q2 Z Z Z Z Z Z) ?_;obtain ⟨v2, hv2, h⟩ := h;refine u0 (Qy (Kg _ _ _ _ hv2) Z Z (.cons (.c (.p _)) (.cons (.c (.p _)) (.cons (.c (.p _)) .nil))) Z Z Z) <| mv Z <| Q3 Z Z Q6 (fun hg => Q1 Z Z Z Z Z Z Z Z Z) <| Q3 Z Z Q6 (fun hg => Q2 (Q8 hg) Z Z Z Z Z) ?_;obtain ⟨v3, hv3, h⟩ := h;refine Q3 Z Z Q6 (fun hg => Qy (Kg _ _ _ _ (hv3 hg)) Z Z (.cons (Zh hg (.c (.p _))) (.cons (.c (.p _)) (.cons (.c (.p _)) .nil))) Z Z Z) <| u0 (Qg (v := .bool v3) (w := .bool false) Z Z Q6 Z QB Z Z Z) <| QD Z Z <| rt (hL _ ?_);refine tl fun L hL => QD Z Z <| QD Z Z ?_;refine rt (hL _ (hL1 _ _ h (Z9.nm [1, 3, 4, 5, 6] [((1, 0), (1, 0))] Z (by kernel_rfl))))
      · refine tk fun L hL => u0 (Q9 (c := (a0.fo == 3)) Z Z Z Z Z) <| QD Z Z <| rt (hL _ ?_);refine ZZ Z h (fun h => ?_) fun h => ?_
        · refine tk fun L hL => u0 (Q1 Z Z Z Z Z Z Z Z Z) <| u0 (Q2 Z Z Z Z Z Z) ?_;obtain ⟨v4, hv4, h⟩ := h;refine u0 (Qy (Kg _ _ _ _ hv4) Z Z (.cons (.c (.p _)) (.cons (.c (.p _)) (.cons (.c (.p _)) .nil))) Z Z Z) <| QD Z Z <| rt (hL _ ?_);refine tl fun L hL => QD Z Z ?_;refine rt (hL _ (hL1 _ _ h (Z9.nm [1, 3, 4, 5, 6] [((1, 0), (1, 0))] Z (by kernel_rfl))))
        · refine Km (fun (p5 : Bool) => (⟨[(1, .c (.ptr (1, 0) 0 0)), (4, .c (.p (.v (.bool true)))), (5, .c (.p (.v (.bool false)))), (6, .c (.p (.v (.bool false)))), (8, .c (.p (.v (.int .i64 a0.fo)))), (26, .c (.p (.v (.bool p5))))], [((1, 0), some (.box (List.map CV.p (Vu a0))))]⟩ : St)) h (fun p5 h => ?_) (fun J5 L5 hL5 h => ?_)
          · refine ZZ Z h (fun h => ?_) fun h => ?_
            · refine tl fun L hL => u0 (Q1 Z Z Z Z Z Z Z Z Z) <| u0 (Q2 Z Z Z Z Z Z) ?_;obtain ⟨v6, hv6, h⟩ := h;refine u0 (Qy (Kg _ _ _ _ hv6) Z Z (.cons (.c (.p _)) (.cons (.c (.p _)) (.cons (.c (.p _)) .nil))) Z Z Z) <| QD Z Z ?_;refine rt (hL _ (hL1 _ _ h (Z9.nm [1, 3, 4, 5, 6] [((1, 0), (1, 0))] Z (by kernel_rfl))))
            · refine tk fun L hL => u0 (Q9 (c := (a0.fo == 6)) Z Z Z Z Z) <| QD Z Z <| rt (hL _ ?_);refine ZZ Z h (fun h => ?_) fun h => ?_
              · refine tl fun L hL => u0 (Q1 Z Z Z Z Z Z Z Z Z) <| u0 (Q2 Z Z Z Z Z Z) ?_;obtain ⟨v7, hv7, h⟩ := h;refine u0 (Qy (Kg _ _ _ _ hv7) Z Z (.cons (.c (.p _)) (.cons (.c (.p _)) (.cons (.c (.p _)) .nil))) Z Z Z) <| mv Z <| Q3 Z Z Q6 (fun hg => Q1 Z Z Z Z Z Z Z Z Z) <| Q3 Z Z Q6 (fun hg => Q2 (Q8 hg) Z Z Z Z Z) ?_;refine Q3 Z Z Q6 (fun hg => o_rem (by decide) (Q8 hg) Z Z Z) ?_;refine Q3 Z Z Q6 (fun hg => Q9 (c := ((a0.fi.tmod 2) == 0)) (Q8 hg) Z Z Z Z) <| u0 (Qg (v := .bool (((a0.fi.tmod 2) == 0))) (w := .bool false) Z Z Q6 Z QB Z Z Z) <| QD Z Z ?_;refine rt (hL _ (hL1 _ _ h (Z9.nm [1, 3, 4, 5, 6] [((1, 0), (1, 0))] Z (by kernel_rfl))))
              · refine tk fun L hL => QD Z Z <| rt (hL _ ?_);obtain rfl := h;exact Qm (hQ _ _ (K8 Z Z))
          · refine tk fun L hL => u0 (Q9 (c := (a0.fo == 4)) Z Z Z Z Z) <| QD Z Z <| rt (hL _ ?_);refine ZZ Z h (fun h => ?_) fun h => ?_
            · refine Qv (hL5 _ _ h (Z9.nm [1, 4, 5, 6, 8, 26] [((1, 0), (1, 0))] Z (by kernel_rfl)))
            · refine tl fun L hL => u0 (Q9 (c := (a0.fo == 5)) Z Z Z Z Z) <| QD Z Z ?_;refine rt (hL _ (hL5 _ _ h (Z9.nm [1, 4, 5, 6, 8, 26] [((1, 0), (1, 0))] Z (by kernel_rfl))))
def Vg (a0 : ByteArray) (Q : Bool → Prop) : Prop :=
 Q (((bif decide (((a0.size : Int)) ≥ 1) then decide (((a0.size : Int)) ≤ 32) else false)))
def Kj (a0 : ByteArray) (r : Bool) : Prop := Vg a0 fun x => r = x
theorem Xm (a0 : ByteArray) (r : Bool) (h : Kj a0 r) : Qz Try.prog 47 [.c (.v (.string a0))] [.c (.p (.v (.bool r)))] [] := by
  refine Qx tb Try.func47 Z (by kernel_rfl) Z Z (Nat.le_of_ble_eq_true Z) Z ?_;intro E;unfold Kj Vg at h;refine ZN (fun Q hQ => ?_);refine tk fun L hL => QD Z Z <| rt (hL _ ?_);refine tk fun L hL => mv Z <| u0 (Kp Z Z Z Z) <| u0 (Q9 (c := decide (((a0.size : Int)) ≥ 1)) Z Z Z Z Z) <| mv Z <| Q3 Z Z Q6 (fun hg => Qa Z Z) <| Q3 Z Z Q6 (fun hg => Kp (Q8 hg) Z Z Z) <| Q3 Z Z Q6 (fun hg => Q9 (c := decide (((a0.size : Int)) ≤ 32)) (Q8 hg) Z Z Z Z) <| u0 (Qg (v := .bool (decide (((a0.size : Int)) ≤ 32))) (w := .bool false) Z Z Q6 Z QB Z Z Z) <| QD Z Z <| rt (hL _ ?_);obtain rfl := h;exact Qm (hQ _ _ (K8 Z Z))
def Ks (a0 : Qt) (Q : Int → Prop) : Prop :=
 ∃ v2, Kj a0.fb4 v2 ∧ (((!(v2)) = true → Q 7) ∧ ((!(v2)) = false → ((((bif decide (a0.fb7 < 1) then true else decide (a0.fb7 > 4294967295))) = true → Q 5) ∧ (((bif decide (a0.fb7 < 1) then true else decide (a0.fb7 > 4294967295))) = false → Q 0))))
def Zs (a0 : Qt) (r : Int) : Prop := Ks a0 fun x => r = x
theorem VU (a0 : Qt) (r : Int) (h : Zs a0 r) : Qz Try.prog 46 [.agg (Ze a0)] [.c (.p (.v (.int .i64 r)))] [] := by
  refine Qx tb Try.func46 Z (by kernel_rfl) Z Z (Nat.le_of_ble_eq_true Z) Z ?_;intro E;unfold Zs Ks at h;refine ZN (fun Q hQ => ?_);refine tk fun L hL => u1 (QR Z Z) <| QD Z Z <| rt (hL _ ?_);refine sk fun L1 hL1 => tk fun L hL => u0 (Q1 Z Z Z Z Z Z Z Z Z) <| u0 (Q2 Z Z Z Z Z Z) ?_;obtain ⟨v2, hv2, h⟩ := h;refine u0 (Qy (Xm _ _ hv2) Z Z (.cons (.c (.p _)) .nil) Z Z Z) <| u0 (ZE Z Z Z) <| rt (hL _ ?_);refine ZZ Z h (fun h => ?_) fun h => ?_
  · refine tk fun L hL => QD Z Z <| rt (hL _ ?_);obtain rfl := h;exact Qm (hQ _ _ (K8 Z Z))
  · refine Qv (hL1 _ ?_);refine sk fun L3 hL3 => tk fun L hL => u0 (Q1 Z Z Z Z Z Z Z Z Z) <| u0 (Q2 Z Z Z Z Z Z) <| u0 (Q9 (c := decide (a0.fb7 < 1)) Z Z Z Z Z) <| mv Z <| Q3 Z Z Q7 (fun hg => Q1 Z Z Z Z Z Z Z Z Z) <| Q3 Z Z Q7 (fun hg => Q2 (Q8 hg) Z Z Z Z Z) <| Q3 Z Z Q7 (fun hg => Q9 (c := decide (a0.fb7 > 4294967295)) (Q8 hg) Z Z Z Z) <| u0 (Qp (v := .bool true) (w := .bool (decide (a0.fb7 > 4294967295))) Z Z Q7 Z QB Z Z Z) <| rt (hL _ ?_);refine ZZ Z h (fun h => ?_) fun h => ?_
    · refine tk fun L hL => QD Z Z <| rt (hL _ ?_);obtain rfl := h;exact Qm (hQ _ _ (K8 Z Z))
    · refine Qv (hL3 _ ?_);refine ZI (st' := ⟨[], []⟩) (Z9.nm [] [] Z Z) ?_;refine tk fun L hL => QD Z Z <| rt (hL _ ?_);obtain rfl := h;exact Qm (hQ _ _ (K8 Z Z))
def Jf (a0 : (List Qt)) (Q : Int → Prop) : Prop :=
 ∃ v2, QH ((a0.length : Int)) 1 64 v2 ∧ ((((v2 != 0)) = true → Q v2) ∧ (((v2 != 0)) = false → jn (fun (p3 : Unit) => Q 0) (fun (J3 : Unit → Prop) => lp (fun (X4 : Int → Prop) (s4 : Int) => (((decide (s4 < ((a0.length : Int)))) = true → ∃ v7, ix a0 s4 v7 ∧ ∃ v8, Zs v7 v8 ∧ ((((v8 != 0)) = true → Q v8) ∧ (((v8 != 0)) = false → X4 ((IntKind.i64.wrap (s4 + 1)))))) ∧ ((decide (s4 < ((a0.length : Int)))) = false → J3 (())))) 0)))
def ZT (a0 : (List Qt)) (r : Int) : Prop := Jf a0 fun x => r = x
theorem XL (a0 : (List Qt)) (r : Int) (h : ZT a0 r) : Qz Try.prog 38 [.c (.l 2 (List.map Ze a0))] [.c (.p (.v (.int .i64 r)))] [] := by
  refine Qx tb Try.func38 Z (by kernel_rfl) Z Z (Nat.le_of_ble_eq_true Z) Z ?_;intro E;unfold ZT Jf at h;refine ZN (fun Q hQ => ?_);refine tk fun L hL => QD Z Z <| rt (hL _ ?_);refine sk fun L1 hL1 => tk fun L hL => mv Z <| u0 (Qw Z Z Z Z) ?_;obtain ⟨v2, hv2, h⟩ := h;refine u0 (Qy (QW _ _ _ _ hv2) Z Z (.cons (.c (.p _)) (.cons (.c (.p _)) (.cons (.c (.p _)) .nil))) Z Z Z) <| QD Z Z <| rt (hL _ ?_);refine tk fun L hL => mv Z <| u0 (Q9 (c := (v2 != 0)) Z Z Z Z Z) <| rt (hL _ ?_);refine ZZ Z h (fun h => ?_) fun h => ?_
  · refine tk fun L hL => mv Z <| QD Z Z <| rt (hL _ ?_);obtain rfl := h;exact Qm (hQ _ _ (K8 Z Z))
  · refine Qv (hL1 _ ?_);refine Km (fun (p3 : Unit) => (⟨[], []⟩ : St)) h (fun p3 h => ?_) (fun J3 L3 hL3 h => ?_)
    · refine tk fun L hL => QD Z Z <| rt (hL _ ?_);obtain rfl := h;exact Qm (hQ _ _ (K8 Z Z))
    · refine tk fun L hL => mv Z <| u0 (Qw Z Z Z Z) <| u0 (Qa Z Z) <| rt (hL _ ?_);refine QE ?_;refine KY (fun (s4 : Int) => (⟨[(13, .c (.p (.l 2 (List.map Ze a0)))), (14, .c (.p (.v (.int .i64 ((a0.length : Int)))))), (15, .c (.p (.v (.int .i64 s4))))], []⟩ : St)) h (Z9.nm [13, 14, 15] [] Z (by kernel_rfl)) (fun X4 L4 hL4 s4 h => ?_);refine tk fun L hL => u0 (Q9 (c := decide (s4 < ((a0.length : Int)))) Z Z Z Z Z) <| rt (hL _ ?_);refine sk fun L5 hL5 => ?_;refine ZZ Z h (fun h => ?_) fun h => ?_
      · refine Qv (hL5 _ ?_);refine sk fun L6 hL6 => QE <| tk fun L hL => ?_;obtain ⟨v7, hv7, h⟩ := h;refine u0 (Qq hv7 Z Z Z Z Z Z Z Z) <| u0 (QQ Z Z Z Z Z Z Z) <| u1 (Kc Z Z Z) <| un (Zq Z Z Z Z Z Z Z Z Z) <| rt (hL _ ?_);refine tk fun L hL => u0 (Qi Z Z Z Z Z Z Z) ?_;obtain ⟨v8, hv8, h⟩ := h;refine u0 (Qy (VU _ _ hv8) Z Z (.cons (.agg (.pp (.pp .nil))) .nil) Z Z Z) <| QD Z Z <| rt (hL _ ?_);refine tk fun L hL => mv Z <| u0 (Q9 (c := (v8 != 0)) Z Z Z Z Z) <| rt (hL _ ?_);refine ZZ Z h (fun h => ?_) fun h => ?_
        · refine tk fun L hL => mv Z <| QD Z Z <| rt (hL _ ?_);obtain rfl := h;exact Qm (hQ _ _ (K8 Z Z))
        · refine Qv (hL6 _ ?_);refine tl fun L hL => u0 (Zu Z Z Z Z Z) <| mv Z ?_;refine rt (hL _ (hL4 _ _ h (Z9.nm [13, 14, 15] [] Z (by kernel_rfl))))
      · refine Zv (hL3 _ _ h (Z9.nm [] [] Z (by kernel_rfl)))
def Jg (a0 : (List Int)) (a1 : Int) (Q : Int → Prop) : Prop :=
 (((decide (((a0.length : Int)) > a1)) = true → Q 11) ∧ ((decide (((a0.length : Int)) > a1)) = false → Q 0))
def Zw (a0 : (List Int)) (a1 : Int) (r : Int) : Prop := Jg a0 a1 fun x => r = x
theorem V9 (a0 : (List Int)) (a1 : Int) (r : Int) (h : Zw a0 a1 r) : Qz Try.prog 39 [.c (.l 1 (List.map (eI .u8) a0)), .c (.v (.int .i64 a1))] [.c (.p (.v (.int .i64 r)))] [] := by
  refine Qx tb Try.func39 Z (by kernel_rfl) Z Z (Nat.le_of_ble_eq_true Z) Z ?_;intro E;unfold Zw Jg at h;refine ZN (fun Q hQ => ?_);refine tk fun L hL => QD Z Z <| rt (hL _ ?_);refine sk fun L1 hL1 => tk fun L hL => mv Z <| u0 (Qw Z Z Z Z) <| mv Z <| u0 (Q9 (c := decide (((a0.length : Int)) > a1)) Z Z Z Z Z) <| rt (hL _ ?_);refine ZZ Z h (fun h => ?_) fun h => ?_
  · refine tk fun L hL => QD Z Z <| rt (hL _ ?_);obtain rfl := h;exact Qm (hQ _ _ (K8 Z Z))
  · refine Qv (hL1 _ ?_);refine tk fun L hL => QD Z Z <| rt (hL _ ?_);obtain rfl := h;exact Qm (hQ _ _ (K8 Z Z))
def Jt (a0 : QI) (Q : Int → Prop) : Prop :=
 ((((bif decide (a0.fo < 1) then true else decide (a0.fo > 7))) = true → Q 8) ∧ (((bif decide (a0.fo < 1) then true else decide (a0.fo > 7))) = false → ∃ (v3 : Bool), (((bif (a0.fo == 2) then true else (a0.fo == 6))) = true → Kj a0.fb4 v3) ∧ ((((bif (bif (a0.fo == 2) then true else (a0.fo == 6)) then !(v3) else false)) = true → Q 7) ∧ (((bif (bif (a0.fo == 2) then true else (a0.fo == 6)) then !(v3) else false)) = false → ((((bif (a0.fo == 5) then (bif decide (a0.fx < 0) then true else decide (a0.fx > 32)) else false)) = true → Q 5) ∧ (((bif (a0.fo == 5) then (bif decide (a0.fx < 0) then true else decide (a0.fx > 32)) else false)) = false → ((((bif (a0.fo == 7) then (bif (bif (bif decide (a0.fb8 < 1) then true else decide (a0.fb8 > 1000000)) then true else decide (a0.fc3 < 0)) then true else decide (a0.fc3 > a0.fb8)) else false)) = true → Q 5) ∧ (((bif (a0.fo == 7) then (bif (bif (bif decide (a0.fb8 < 1) then true else decide (a0.fb8 > 1000000)) then true else decide (a0.fc3 < 0)) then true else decide (a0.fc3 > a0.fb8)) else false)) = false → ((((bif (bif (bif !((bif (a0.fo == 2) then true else (a0.fo == 6))) then (!(a0.fb4.toList == ((⟨#[]⟩ : ByteArray)).toList)) else false) then true else (bif !((a0.fo == 5)) then (a0.fx != 0) else false)) then true else (bif !((a0.fo == 7)) then (bif (a0.fc3 != 0) then true else (a0.fb8 != 0)) else false))) = true → Q 18) ∧ (((bif (bif (bif !((bif (a0.fo == 2) then true else (a0.fo == 6))) then (!(a0.fb4.toList == ((⟨#[]⟩ : ByteArray)).toList)) else false) then true else (bif !((a0.fo == 5)) then (a0.fx != 0) else false)) then true else (bif !((a0.fo == 7)) then (bif (a0.fc3 != 0) then true else (a0.fb8 != 0)) else false))) = false → Q 0))))))))))
def K4 (a0 : QI) (r : Int) : Prop := Jt a0 fun x => r = x
theorem Y8 (a0 : QI) (r : Int) (h : K4 a0 r) : Qz Try.prog 41 [.agg (VP a0)] [.c (.p (.v (.int .i64 r)))] [] := by
  refine Qx tb Try.func41 Z (by kernel_rfl) Z Z (Nat.le_of_ble_eq_true Z) Z ?_;intro E;unfold K4 Jt at h;refine ZN (fun Q hQ => ?_);refine tk fun L hL => u1 (QR Z Z) <| QD Z Z <| rt (hL _ ?_);refine sk fun L1 hL1 => tk fun L hL => u0 (Q1 Z Z Z Z Z Z Z Z Z) <| u0 (Q2 Z Z Z Z Z Z) <| u0 (Q9 (c := decide (a0.fo < 1)) Z Z Z Z Z) <| mv Z <| Q3 Z Z Q7 (fun hg => Q1 Z Z Z Z Z Z Z Z Z) <| Q3 Z Z Q7 (fun hg => Q2 (Q8 hg) Z Z Z Z Z) <| Q3 Z Z Q7 (fun hg => Q9 (c := decide (a0.fo > 7)) (Q8 hg) Z Z Z Z) <| u0 (Qp (v := .bool true) (w := .bool (decide (a0.fo > 7))) Z Z Q7 Z QB Z Z Z) <| rt (hL _ ?_);refine ZZ Z h (fun h => ?_) fun h => ?_
  · refine tk fun L hL => QD Z Z <| rt (hL _ ?_);obtain rfl := h;exact Qm (hQ _ _ (K8 Z Z))
  · refine Qv (hL1 _ ?_);refine ZI (st' := ⟨[(1, .c (.ptr (1, 0) 0 0))], [((1, 0), some (.box (List.map CV.p (VP a0))))]⟩) (Z9.nm [1] [((1, 0), (1, 0))] Z Z) ?_;refine tk fun L hL => u0 (Q1 Z Z Z Z Z Z Z Z Z) <| u0 (Q2 Z Z Z Z Z Z) <| u0 (Q9 (c := (a0.fo == 2)) Z Z Z Z Z) <| mv Z <| Q3 Z Z Q7 (fun hg => Q1 Z Z Z Z Z Z Z Z Z) <| Q3 Z Z Q7 (fun hg => Q2 (Q8 hg) Z Z Z Z Z) <| Q3 Z Z Q7 (fun hg => Q9 (c := (a0.fo == 6)) (Q8 hg) Z Z Z Z) <| u0 (Qp (v := .bool true) (w := .bool ((a0.fo == 6))) Z Z Q7 Z QB Z Z Z) <| QD Z Z <| rt (hL _ ?_);refine dk mixed (fun L hL => ?_);refine u0 (Q1 Z Z Z Z Z Z Z Z Z) <| u0 (Q2 Z Z Z Z Z Z) <| u0 (Q9 (c := (a0.fo == 5)) Z Z Z Z Z) <| u0 (Q1 Z Z Z Z Z Z Z Z Z) <| u0 (Q2 Z Z Z Z Z Z) <| u0 (Q9 (c := (a0.fo == 7)) Z Z Z Z Z) <| QD Z Z <| QD Z Z <| rd (hL _ ?_);refine sk fun L2 hL2 => QE <| tk fun L hL => mv Z <| mv Z <| Q3 Z Z Q6 (fun hg => Q1 Z Z Z Z Z Z Z Z Z) <| Q3 Z Z Q6 (fun hg => Q2 (Q8 hg) Z Z Z Z Z) ?_;obtain ⟨v3, hv3, h⟩ := h
    refine Q3 Z Z Q6 (fun hg => Qy (Xm _ _ (hv3 hg)) Z Z (.cons (Zh hg (.c (.p _))) .nil) Z Z Z) <| Q3 Z Z Q6 (fun hg => ZE (Q8 hg) Z Z) <| u0 (Qg (v := .bool (!(v3))) (w := .bool false) Z Z Q6 Z QB Z Z Z) <| QD Z Z <| rt (hL _ ?_);refine ZZ Z h (fun h => ?_) fun h => ?_
    · refine tk fun L hL => QD Z Z <| rt (hL _ ?_);obtain rfl := h;exact Qm (hQ _ _ (K8 Z Z))
    · refine tk fun L hL => mv Z <| mv Z <| Q3 Z Z Q6 (fun hg => Q1 Z Z Z Z Z Z Z Z Z) <| Q3 Z Z Q6 (fun hg => Q2 (Q8 hg) Z Z Z Z Z) <| Q3 Z Z Q6 (fun hg => Q9 (c := decide (a0.fx < 0)) (Q8 hg) Z Z Z Z) <| Q3 Z Z Q6 (fun hg => Qa (Q8 hg) Z) <| Z7 Z Z Ko (fun hg => Q1 Z Z Z Z Z Z Z Z Z) <| Z7 Z Z Ko (fun hg => Q2 (Q8 hg) Z Z Z Z Z) <| Z7 Z Z Ko (fun hg => Q9 (c := decide (a0.fx > 32)) (Q8 hg) Z Z Z Z) <| Q3 Z Z Q6 (fun hg => Qp (v := .bool true) (w := .bool (decide (a0.fx > 32))) (Q8 hg) Z (YK hg) Z QB Z Z Z) <| u0 (Qg (v := .bool ((bif decide (a0.fx < 0) then true else decide (a0.fx > 32)))) (w := .bool false) Z Z Q6 Z QB Z Z Z) <| QD Z Z <| rt (hL _ ?_);refine ZZ Z h (fun h => ?_) fun h => ?_
      · refine tk fun L hL => QD Z Z <| rt (hL _ ?_);obtain rfl := h;exact Qm (hQ _ _ (K8 Z Z))
      · refine tk fun L hL => mv Z <| mv Z <| Q3 Z Z Q6 (fun hg => Q1 Z Z Z Z Z Z Z Z Z) <| Q3 Z Z Q6 (fun hg => Q2 (Q8 hg) Z Z Z Z Z) <| Q3 Z Z Q6 (fun hg => Q9 (c := decide (a0.fb8 < 1)) (Q8 hg) Z Z Z Z) <| Q3 Z Z Q6 (fun hg => Qa (Q8 hg) Z) <| Z7 Z Z Ko (fun hg => Q1 Z Z Z Z Z Z Z Z Z) <| Z7 Z Z Ko (fun hg => Q2 (Q8 hg) Z Z Z Z Z) <| Z7 Z Z Ko (fun hg => Q9 (c := decide (a0.fb8 > 1000000)) (Q8 hg) Z Z Z Z) <| Q3 Z Z Q6 (fun hg => Qp (v := .bool true) (w := .bool (decide (a0.fb8 > 1000000))) (Q8 hg) Z (YK hg) Z QB Z Z Z) <| Q3 Z Z Q6 (fun hg => Qa (Q8 hg) Z) <| Z7 Z Z Ko (fun hg => Q1 Z Z Z Z Z Z Z Z Z) <| Z7 Z Z Ko (fun hg => Q2 (Q8 hg) Z Z Z Z Z) <| Z7 Z Z Ko (fun hg => Q9 (c := decide (a0.fc3 < 0)) (Q8 hg) Z Z Z Z) <| Q3 Z Z Q6 (fun hg => Qp (v := .bool true) (w := .bool (decide (a0.fc3 < 0))) (Q8 hg) Z (YK hg) Z QB Z Z Z) <| Q3 Z Z Q6 (fun hg => Qa (Q8 hg) Z) <| Z7 Z Z Ko (fun hg => Q1 Z Z Z Z Z Z Z Z Z) <| Z7 Z Z Ko (fun hg => Q2 (Q8 hg) Z Z Z Z Z) <| Z7 Z Z Ko (fun hg => Q1 Z Z Z Z Z Z Z Z Z) <| Z7 Z Z Ko (fun hg => Q2 (Q8 hg) Z Z Z Z Z) <| Z7 Z Z Ko (fun hg => Q9 (c := decide (a0.fc3 > a0.fb8)) (Q8 hg) (Q8 hg) Z Z Z) ?_
        refine Q3 Z Z Q6 (fun hg => Qp (v := .bool true) (w := .bool (decide (a0.fc3 > a0.fb8))) (Q8 hg) Z (YK hg) Z QB Z Z Z) <| u0 (Qg (v := .bool ((bif (bif (bif decide (a0.fb8 < 1) then true else decide (a0.fb8 > 1000000)) then true else decide (a0.fc3 < 0)) then true else decide (a0.fc3 > a0.fb8)))) (w := .bool false) Z Z Q6 Z QB Z Z Z) <| QD Z Z <| rt (hL _ ?_);refine ZI (st' := ⟨[(1, .c (.ptr (1, 0) 0 0)), (3, .c (.p (.v (.bool ((bif (a0.fo == 2) then true else (a0.fo == 6))))))), (4, .c (.p (.v (.bool ((a0.fo == 5)))))), (5, .c (.p (.v (.bool ((a0.fo == 7)))))), (48, .c (.p (.v (.bool ((bif (a0.fo == 7) then (bif (bif (bif decide (a0.fb8 < 1) then true else decide (a0.fb8 > 1000000)) then true else decide (a0.fc3 < 0)) then true else decide (a0.fc3 > a0.fb8)) else false))))))], [((1, 0), some (.box (List.map CV.p (VP a0))))]⟩) (Z9.nm [1, 3, 4, 5, 48] [((1, 0), (1, 0))] Z Z) ?_;refine ZZ Z h (fun h => ?_) fun h => ?_
        · refine tk fun L hL => QD Z Z <| rt (hL _ ?_);obtain rfl := h;exact Qm (hQ _ _ (K8 Z Z))
        · refine tk fun L hL => mv Z <| u0 (ZE Z Z Z) <| mv Z <| Q3 Z Z Q6 (fun hg => Q1 Z Z Z Z Z Z Z Z Z) <| Q3 Z Z Q6 (fun hg => Q2 (Q8 hg) Z Z Z Z Z) <| Q3 Z Z Q6 (fun hg => JP (c := (!(a0.fb4.toList == ((⟨#[]⟩ : ByteArray)).toList))) (Q8 hg) Z Z Z Z) <| u0 (Qg (v := .bool ((!(a0.fb4.toList == ((⟨#[]⟩ : ByteArray)).toList)))) (w := .bool false) Z Z Q6 Z QB Z Z Z) <| mv Z <| Q3 Z Z Q7 (fun hg => Qa Z Z) <| Q3 Z Z Q7 (fun hg => ZE (Q8 hg) Z Z) <| Q3 Z Z Q7 (fun hg => Qa (Q8 hg) Z) <| Z7 Z Z Jb (fun hg => Q1 Z Z Z Z Z Z Z Z Z) <| Z7 Z Z Jb (fun hg => Q2 (Q8 hg) Z Z Z Z Z) <| Z7 Z Z Jb (fun hg => Q9 (c := (a0.fx != 0)) (Q8 hg) Z Z Z Z) <| Q3 Z Z Q7 (fun hg => Qg (v := .bool ((a0.fx != 0))) (w := .bool false) (Q8 hg) Z (WI hg) Z QB Z Z Z) <| u0 (Qp (v := .bool true) (w := .bool ((bif !((a0.fo == 5)) then (a0.fx != 0) else false))) Z Z Q7 Z QB Z Z Z) <| mv Z <| Q3 Z Z Q7 (fun hg => Qa Z Z) <| Q3 Z Z Q7 (fun hg => ZE (Q8 hg) Z Z) <| Q3 Z Z Q7 (fun hg => Qa (Q8 hg) Z) <| Z7 Z Z Jb (fun hg => Q1 Z Z Z Z Z Z Z Z Z) <| Z7 Z Z Jb (fun hg => Q2 (Q8 hg) Z Z Z Z Z) <| Z7 Z Z Jb (fun hg => Q9 (c := (a0.fc3 != 0)) (Q8 hg) Z Z Z Z) <| Z7 Z Z Jb (fun hg => Qa (Q8 hg) Z) ?_
          refine Z7 Z Z Ko (fun hg => Q1 Z Z Z Z Z Z Z Z Z) <| Z7 Z Z Ko (fun hg => Q2 (Q8 hg) Z Z Z Z Z) <| Z7 Z Z Ko (fun hg => Q9 (c := (a0.fb8 != 0)) (Q8 hg) Z Z Z Z) <| Z7 Z Z Jb (fun hg => Qp (v := .bool true) (w := .bool ((a0.fb8 != 0))) (Q8 hg) Z (YK hg) Z QB Z Z Z) <| Q3 Z Z Q7 (fun hg => Qg (v := .bool ((bif (a0.fc3 != 0) then true else (a0.fb8 != 0)))) (w := .bool false) (Q8 hg) Z (WI hg) Z QB Z Z Z) <| u0 (Qp (v := .bool true) (w := .bool ((bif !((a0.fo == 7)) then (bif (a0.fc3 != 0) then true else (a0.fb8 != 0)) else false))) Z Z Q7 Z QB Z Z Z) <| QD Z Z <| rt (hL _ ?_);refine ZZ Z h (fun h => ?_) fun h => ?_
          · refine tk fun L hL => QD Z Z <| rt (hL _ ?_);obtain rfl := h;exact Qm (hQ _ _ (K8 Z Z))
          · refine Qv (hL2 _ ?_);refine ZI (st' := ⟨[], []⟩) (Z9.nm [] [] Z Z) ?_;refine tk fun L hL => QD Z Z <| rt (hL _ ?_);obtain rfl := h;exact Qm (hQ _ _ (K8 Z Z))
def Jh (a0 : Qs) (a1 : Int) (Q : Int → Prop) : Prop :=
 ((((a1 == 0)) = true → ∃ v2, ZG a0.fb2 v2 ∧ Q v2) ∧ (((a1 == 0)) = false → ((((a1 == 1)) = true → ∃ v3, ZG a0.ff v3 ∧ Q v3) ∧ (((a1 == 1)) = false → ((((a1 == 2)) = true → ∃ v4, K2 a0.f9 v4 ∧ Q v4) ∧ (((a1 == 2)) = false → ((((a1 == 3)) = true → ∃ v5, Zc a0.fb v5 ∧ Q v5) ∧ (((a1 == 3)) = false → ((((a1 == 4)) = true → ∃ v6, ZT a0.fy v6 ∧ Q v6) ∧ (((a1 == 4)) = false → ((((a1 == 5)) = true → ∃ v7, Zw a0.fb3 64 v7 ∧ Q v7) ∧ (((a1 == 5)) = false → ((((a1 == 6)) = true → ∃ v8, QH a0.fa0 1 1048576 v8 ∧ Q v8) ∧ (((a1 == 6)) = false → ((((a1 == 7)) = true → ∃ v9, QH a0.fa4 1 1048576 v9 ∧ Q v9) ∧ (((a1 == 7)) = false → ((((a1 == 8)) = true → ∃ v10, QH a0.f7 0 3 v10 ∧ Q v10) ∧ (((a1 == 8)) = false → ((((a1 == 9)) = true → ∃ v11, QH a0.fb1 0 15 v11 ∧ Q v11) ∧ (((a1 == 9)) = false → ((((a1 == 10)) = true → ∃ v12, QH a0.f8 0 3 v12 ∧ Q v12) ∧ (((a1 == 10)) = false → ((((a1 == 11)) = true → ∃ v13, QH a0.fx 0 32 v13 ∧ Q v13) ∧ (((a1 == 11)) = false → ((((a1 == 12)) = true → ∃ v14, K4 a0.fq v14 ∧ Q v14) ∧ (((a1 == 12)) = false → ∃ v15, Zw a0.fb0 65536 v15 ∧ Q v15))))))))))))))))))))))))))
def ZU (a0 : Qs) (a1 : Int) (r : Int) : Prop := Jh a0 a1 fun x => r = x
theorem XM (a0 : Qs) (a1 : Int) (r : Int) (h : ZU a0 a1 r) : Qz Try.prog 25 [.agg (Zp a0), .c (.v (.int .i64 a1))] [.c (.p (.v (.int .i64 r)))] [] := by
  refine Qx tb Try.func25 Z (by kernel_rfl) Z Z (Nat.le_of_ble_eq_true Z) Z ?_;intro E;unfold ZU Jh at h;refine ZN (fun Q hQ => ?_);refine tk fun L hL => u1 (QR Z Z) <| QD Z Z <| rt (hL _ ?_);refine sk fun L1 hL1 => tk fun L hL => mv Z <| rt (hL _ ?_);refine QE <| tk fun L hL => u0 (Q9 (c := (a1 == 0)) Z Z Z Z Z) <| QD Z Z <| rt (hL _ ?_);refine ZZ Z h (fun h => ?_) fun h => ?_
  · refine tk fun L hL => u0 (Q1 Z Z Z Z Z Z Z Z Z) <| u0 (Q2 Z Z Z Z Z Z) ?_;obtain ⟨v2, hv2, h⟩ := h;refine u0 (Qy (Jr _ _ hv2) Z Z (.cons (.c (.p _)) .nil) Z Z Z) <| QD Z Z <| rt (hL _ ?_);obtain rfl := h;exact Qm (hQ _ _ (K8 Z Z))
  · refine tk fun L hL => u0 (Q9 (c := (a1 == 1)) Z Z Z Z Z) <| QD Z Z <| rt (hL _ ?_);refine ZZ Z h (fun h => ?_) fun h => ?_
    · refine tk fun L hL => u0 (Q1 Z Z Z Z Z Z Z Z Z) <| u0 (Q2 Z Z Z Z Z Z) ?_;obtain ⟨v3, hv3, h⟩ := h;refine u0 (Qy (Jr _ _ hv3) Z Z (.cons (.c (.p _)) .nil) Z Z Z) <| QD Z Z <| rt (hL _ ?_);obtain rfl := h;exact Qm (hQ _ _ (K8 Z Z))
    · refine tk fun L hL => u0 (Q9 (c := (a1 == 2)) Z Z Z Z Z) <| QD Z Z <| rt (hL _ ?_);refine ZZ Z h (fun h => ?_) fun h => ?_
      · refine tk fun L hL => u0 (Q1 Z Z Z Z Z Z Z Z Z) <| u0 (Q2 Z Z Z Z Z Z) ?_;obtain ⟨v4, hv4, h⟩ := h;refine u0 (Qy (Y7 _ _ hv4) Z Z (.cons (.c (.p _)) .nil) Z Z Z) <| QD Z Z <| rt (hL _ ?_);obtain rfl := h;exact Qm (hQ _ _ (K8 Z Z))
      · refine tk fun L hL => u0 (Q9 (c := (a1 == 3)) Z Z Z Z Z) <| QD Z Z <| rt (hL _ ?_);refine ZZ Z h (fun h => ?_) fun h => ?_
        · refine tk fun L hL => u0 (Q1 Z Z Z Z Z Z Z Z Z) <| u0 (Qi Z Z Z Z Z Z Z) ?_;obtain ⟨v5, hv5, h⟩ := h;refine u0 (Qy (Vp _ _ hv5) Z Z (.cons (.agg (.pp (.pp (.pp (.pp .nil))))) .nil) Z Z Z) <| QD Z Z <| rt (hL _ ?_);obtain rfl := h;exact Qm (hQ _ _ (K8 Z Z))
        · refine tk fun L hL => u0 (Q9 (c := (a1 == 4)) Z Z Z Z Z) <| QD Z Z <| rt (hL _ ?_);refine ZZ Z h (fun h => ?_) fun h => ?_
          · refine tk fun L hL => u0 (Q1 Z Z Z Z Z Z Z Z Z) <| u0 (Q2 Z Z Z Z Z Z) ?_;obtain ⟨v6, hv6, h⟩ := h;refine u0 (Qy (XL _ _ hv6) Z Z (.cons (.c (.p _)) .nil) Z Z Z) <| QD Z Z <| rt (hL _ ?_);obtain rfl := h;exact Qm (hQ _ _ (K8 Z Z))
          · refine tk fun L hL => u0 (Q9 (c := (a1 == 5)) Z Z Z Z Z) <| QD Z Z <| rt (hL _ ?_);refine ZZ Z h (fun h => ?_) fun h => ?_
            · refine tk fun L hL => u0 (Q1 Z Z Z Z Z Z Z Z Z) <| u0 (Q2 Z Z Z Z Z Z) ?_;obtain ⟨v7, hv7, h⟩ := h;refine u0 (Qy (V9 _ _ _ hv7) Z Z (.cons (.c (.p _)) (.cons (.c (.p _)) .nil)) Z Z Z) <| QD Z Z <| rt (hL _ ?_);obtain rfl := h;exact Qm (hQ _ _ (K8 Z Z))
            · refine tk fun L hL => u0 (Q9 (c := (a1 == 6)) Z Z Z Z Z) <| QD Z Z <| rt (hL _ ?_);refine ZZ Z h (fun h => ?_) fun h => ?_
              · refine tk fun L hL => u0 (Q1 Z Z Z Z Z Z Z Z Z) <| u0 (Q2 Z Z Z Z Z Z) ?_;obtain ⟨v8, hv8, h⟩ := h;refine u0 (Qy (QW _ _ _ _ hv8) Z Z (.cons (.c (.p _)) (.cons (.c (.p _)) (.cons (.c (.p _)) .nil))) Z Z Z) <| QD Z Z <| rt (hL _ ?_);obtain rfl := h;exact Qm (hQ _ _ (K8 Z Z))
              · refine tk fun L hL => u0 (Q9 (c := (a1 == 7)) Z Z Z Z Z) <| QD Z Z <| rt (hL _ ?_);refine ZZ Z h (fun h => ?_) fun h => ?_
                · refine tk fun L hL => u0 (Q1 Z Z Z Z Z Z Z Z Z) <| u0 (Q2 Z Z Z Z Z Z) ?_;obtain ⟨v9, hv9, h⟩ := h;refine u0 (Qy (QW _ _ _ _ hv9) Z Z (.cons (.c (.p _)) (.cons (.c (.p _)) (.cons (.c (.p _)) .nil))) Z Z Z) <| QD Z Z <| rt (hL _ ?_);obtain rfl := h;exact Qm (hQ _ _ (K8 Z Z))
                · refine tk fun L hL => u0 (Q9 (c := (a1 == 8)) Z Z Z Z Z) <| QD Z Z <| rt (hL _ ?_);refine ZZ Z h (fun h => ?_) fun h => ?_
                  · refine tk fun L hL => u0 (Q1 Z Z Z Z Z Z Z Z Z) <| u0 (Q2 Z Z Z Z Z Z) ?_;obtain ⟨v10, hv10, h⟩ := h;refine u0 (Qy (QW _ _ _ _ hv10) Z Z (.cons (.c (.p _)) (.cons (.c (.p _)) (.cons (.c (.p _)) .nil))) Z Z Z) <| QD Z Z <| rt (hL _ ?_);obtain rfl := h;exact Qm (hQ _ _ (K8 Z Z))
                  · refine tk fun L hL => u0 (Q9 (c := (a1 == 9)) Z Z Z Z Z) <| QD Z Z <| rt (hL _ ?_);refine ZZ Z h (fun h => ?_) fun h => ?_
                    · refine tk fun L hL => u0 (Q1 Z Z Z Z Z Z Z Z Z) <| u0 (Q2 Z Z Z Z Z Z) ?_;obtain ⟨v11, hv11, h⟩ := h;refine u0 (Qy (QW _ _ _ _ hv11) Z Z (.cons (.c (.p _)) (.cons (.c (.p _)) (.cons (.c (.p _)) .nil))) Z Z Z) <| QD Z Z <| rt (hL _ ?_);obtain rfl := h;exact Qm (hQ _ _ (K8 Z Z))
                    · refine tk fun L hL => u0 (Q9 (c := (a1 == 10)) Z Z Z Z Z) <| QD Z Z <| rt (hL _ ?_);refine ZZ Z h (fun h => ?_) fun h => ?_
                      · refine tk fun L hL => u0 (Q1 Z Z Z Z Z Z Z Z Z) <| u0 (Q2 Z Z Z Z Z Z) ?_;obtain ⟨v12, hv12, h⟩ := h;refine u0 (Qy (QW _ _ _ _ hv12) Z Z (.cons (.c (.p _)) (.cons (.c (.p _)) (.cons (.c (.p _)) .nil))) Z Z Z) <| QD Z Z <| rt (hL _ ?_);obtain rfl := h;exact Qm (hQ _ _ (K8 Z Z))
                      · refine tk fun L hL => u0 (Q9 (c := (a1 == 11)) Z Z Z Z Z) <| QD Z Z <| rt (hL _ ?_);refine ZZ Z h (fun h => ?_) fun h => ?_
                        · refine tk fun L hL => u0 (Q1 Z Z Z Z Z Z Z Z Z) <| u0 (Q2 Z Z Z Z Z Z) ?_;obtain ⟨v13, hv13, h⟩ := h;refine u0 (Qy (QW _ _ _ _ hv13) Z Z (.cons (.c (.p _)) (.cons (.c (.p _)) (.cons (.c (.p _)) .nil))) Z Z Z) <| QD Z Z <| rt (hL _ ?_);obtain rfl := h;exact Qm (hQ _ _ (K8 Z Z))
                        · refine tk fun L hL => u0 (Q9 (c := (a1 == 12)) Z Z Z Z Z) <| QD Z Z <| rt (hL _ ?_);refine ZZ Z h (fun h => ?_) fun h => ?_
                          · refine tk fun L hL => u0 (Q1 Z Z Z Z Z Z Z Z Z) <| u0 (Qi Z Z Z Z Z Z Z) ?_;obtain ⟨v14, hv14, h⟩ := h;refine u0 (Qy (Y8 _ _ hv14) Z Z (.cons (.agg (.pp (.pp (.pp (.pp (.pp .nil)))))) .nil) Z Z Z) <| QD Z Z <| rt (hL _ ?_);obtain rfl := h;exact Qm (hQ _ _ (K8 Z Z))
                          · refine Qv (hL1 _ ?_);refine tk fun L hL => u0 (Q1 Z Z Z Z Z Z Z Z Z) <| u0 (Q2 Z Z Z Z Z Z) ?_;obtain ⟨v15, hv15, h⟩ := h;refine u0 (Qy (V9 _ _ _ hv15) Z Z (.cons (.c (.p _)) (.cons (.c (.p _)) .nil)) Z Z Z) <| QD Z Z <| rt (hL _ ?_);obtain rfl := h;exact Qm (hQ _ _ (K8 Z Z))
end Go.Proofs.Ytknonlnggohkoaa

namespace Go.Proofs.Ytknonlnggohkoaa
open Go.RowKit
def Xn (b : Nat) (cs : Array Value) (t : TypeId) (w : World) : Prop := w.heap[b]? = some (.cells cs t (0, 0))
theorem Xn.lt {b : Nat} {cs : Array Value} {t : TypeId} {w : World} (h : Xn b cs t w) : b < w.heap.size := by
  unfold Xn at h
  exact (Array.getElem?_eq_some_iff.mp h).1
theorem Xn.cell {b : Nat} {cs : Array Value} {t : TypeId} {w : World} (h : Xn b cs t w) (i : Nat) {v : Value} (hi : cs[i]? = some v) : w.cell? ⟨b, i, none⟩ = some v := by
  unfold Xn at h
  simp [World.cell?, h, hi]
theorem Xn.froz {b : Nat} {cs : Array Value} {t : TypeId} {w : World} (h : Xn b cs t w) (i : Nat) : w.frozen? ⟨b, i, none⟩ = false := by
  unfold Xn at h
  simp [World.frozen?, h]
theorem Xn.keep {b : Nat} {cs : Array Value} {t : TypeId} {w w' : World} (h : Xn b cs t w) (g : w.grownBy w' none) : Xn b cs t w' := by
  have := g.block b h.lt (by simp)
  unfold Xn at *
  rw [this]; exact h
theorem Xn.new (w : World) (cs : Array Value) (t : TypeId) : Xn w.heap.size cs t (w.alloc (.cells cs t)) := by
  unfold Xn
  show (w.heap.push (.cells cs t))[w.heap.size]? = _
  simp
theorem Xn.set {b : Nat} {cs : Array Value} {t : TypeId} {w : World} (h : Xn b cs t w) (o : Nat) (v : Value) : Xn b (cs.setIfInBounds o v) t (w.setCell ⟨b, o, none⟩ v) := by
  unfold Xn at *
  simp [World.setCell, Array.getElem?_modify, h]
theorem Xn.drew {b : Nat} {cs : Array Value} {t : TypeId} {w : World} (h : Xn b cs t w) : Xn b cs t w.drew := h
def Row (k : IntKind) (t : TypeId) (g : Nat) (l : List Int) (w : World) : Prop := ∃ cur : Array Value, Xn g cur t w ∧ l.length ≤ cur.size ∧ ∀ i, i < l.length → cur[i]? = some (.int k (gI l i))
theorem Row.keep {k : IntKind} {t : TypeId} {g : Nat} {l : List Int} {w w' : World} (h : Row k t g l w) (hg : w.grownBy w' none) : Row k t g l w' := by
  obtain ⟨cur, h1, h2⟩ := h
  exact ⟨cur, h1.keep hg, h2⟩
theorem Row.drew {k : IntKind} {t : TypeId} {g : Nat} {l : List Int} {w : World} (h : Row k t g l w) : Row k t g l w.drew := h
theorem Row.lt {k : IntKind} {t : TypeId} {g : Nat} {l : List Int} {w : World} (h : Row k t g l w) : g < w.heap.size := by
  obtain ⟨cur, h1, h2⟩ := h
  exact h1.lt
theorem Row.cell {k : IntKind} {t : TypeId} {g : Nat} {l : List Int} {w : World} (h : Row k t g l w) {i : Nat} (hi : i < l.length) : w.cell? ⟨g, i, none⟩ = some (.int k (gI l i)) := by
  obtain ⟨cur, h1, h2, h3⟩ := h
  exact h1.cell i (h3 i hi)
theorem Row.froz {k : IntKind} {t : TypeId} {g : Nat} {l : List Int} {w : World} (h : Row k t g l w) (i : Nat) : w.frozen? ⟨g, i, none⟩ = false := by
  obtain ⟨cur, h1, _⟩ := h
  exact h1.froz i
theorem Row.set {k : IntKind} {t : TypeId} {g : Nat} {l : List Int} {w : World} (h : Row k t g l w) (i : Nat) (x : Int) : Row k t g (l.set i x) (w.setCell ⟨g, i, none⟩ (.int k x)) := by
  obtain ⟨cur, h1, h2, h3⟩ := h
  refine ⟨_, h1.set i (.int k x), by simpa using h2, fun j hj => ?_⟩
  simp only [List.length_set] at hj
  rw [Array.getElem?_setIfInBounds]
  by_cases e : i = j
  · subst e
    rw [if_pos rfl, if_pos (by omega)]
    simp [gI, List.getD_eq_getElem?_getD, List.getElem?_set, hj]
  · rw [if_neg e, h3 j hj]
    simp [gI, List.getD_eq_getElem?_getD, List.getElem?_set, e]
def AH (p q : Nat) (w w' : World) : Prop := w'.os = w.os ∧ w'.tape = w.tape ∧ w'.output = w.output ∧ w.heap.size ≤ w'.heap.size ∧ ∀ k, k < w.heap.size → k ≠ p → k ≠ q → w'.heap[k]? = w.heap[k]?
theorem AH.refl (p q : Nat) (w : World) : AH p q w w := ⟨rfl, rfl, rfl, Nat.le_refl _, fun _ _ _ _ => rfl⟩
theorem AH.size {p q : Nat} {w w' : World} (h : AH p q w w') : w.heap.size ≤ w'.heap.size := h.2.2.2.1
theorem AH.grown {p q : Nat} {w w1 w2 : World} (h : AH p q w w1) (g : w1.grownBy w2 none) : AH p q w w2 := by
  obtain ⟨h1, h2, h3, h4, h5⟩ := h
  exact ⟨g.os.trans h1, g.tape.trans h2, g.output.trans h3, Nat.le_trans h4 g.size, fun k hk hp hq => (g.block k (Nat.lt_of_lt_of_le hk h4) (by simp)).trans (h5 k hk hp hq)⟩
theorem AH.drew {p q : Nat} {w w1 : World} (h : AH p q w w1) : AH p q w w1.drew := h
end Go.Proofs.Ytknonlnggohkoaa
namespace Go.Proofs.Ytknonlnggohkoaa
open Go.RowKit Go.ChangeShapes Go.WideShapes
def XN (k : Int) : List Int :=
  if k = 1 then [0, 3] else if k = 2 then [0] else if k = 3 then [0, 1] else if k = 5 then [0, 12] else if k = 6 then [0, 4, 5] else if k = 7 then [0, 1, 5] else if k = 8 then [0, 1, 5, 6, 7]
  else if k = 9 then [2] else if k = 10 then [8, 9, 12] else if k = 11 then [8] else if k = 12 ∨ k = 15 then [8, 9] else if k = 13 then [10, 11] else if k = 14 then [10] else if k = 16 then [0, 13] else []
def JL (k : Int) : Prop := 1 ≤ k ∧ k ≤ 17
instance (k : Int) : Decidable (JL k) := by unfold JL; infer_instance
theorem US {k : Int} (h : JL k) : k = 1 ∨ k = 2 ∨ k = 3 ∨ k = 4 ∨ k = 5 ∨ k = 6 ∨ k = 7 ∨ k = 8 ∨ k = 9 ∨ k = 10 ∨ k = 11 ∨ k = 12 ∨ k = 13 ∨ k = 14 ∨ k = 15 ∨ k = 16 ∨ k = 17 := by
  obtain ⟨h1, h2⟩ := h; omega
theorem Cd {k : Int} (h : ¬ JL k) : (k == 1) = false ∧ (k == 2) = false ∧ (k == 3) = false ∧ (k == 4) = false ∧ (k == 5) = false ∧ (k == 6) = false ∧ (k == 7) = false ∧ (k == 8) = false ∧ (k == 9) = false ∧ (k == 10) = false ∧ (k == 11) = false ∧ (k == 12) = false ∧ (k == 13) = false ∧ (k == 14) = false ∧ (k == 15) = false ∧ (k == 16) = false ∧ (k == 17) = false := by
  unfold JL at h
  refine ⟨?_, ?_, ?_, ?_, ?_, ?_, ?_, ?_, ?_, ?_, ?_, ?_, ?_, ?_, ?_, ?_, ?_⟩ <;> exact beq_eq_false_iff_ne.2 (by omega)
theorem Bu {P : Program} {T e : TypeId} (hT : P.underlying T = some (.slice e)) (d : Nat) (a : Addr) (n c : Nat) (w : World) : Sem.run P (Op.equalIn (d + 1) T (.slice (some a) n c) (.slice none 0 0)) w = .ok false w := by
  simp [Op.equalIn, run_underlying hT]
theorem Ce {P : Program} {T e : TypeId} (hT : P.underlying T = some (.slice e)) (a : Addr) (n c : Nat) (w : World) : Sem.run P (binOp .eql T (.slice (some a) n c) (.slice none 0 0)) w = .ok (.bool false) w := by
  have h := Bu hT 9999 a n c w
  show Sem.run P (do let b ← Op.equalIn (9999 + 1) T (.slice (some a) n c) (.slice none 0 0); pure (Value.bool b) : Sem Value) w = _
  generalize Op.equalIn (9999 + 1) T (.slice (some a) n c) (.slice none 0 0) = q at *
  simp [h]
theorem AI {P : Program} {T e : TypeId} (hT : P.underlying T = some (.slice e)) (d : Nat) (w : World) : Sem.run P (Op.equalIn (d + 1) T (.slice none 0 0) (.slice none 0 0)) w = .ok true w := by
  simp [Op.equalIn, run_underlying hT]
theorem Bv {P : Program} {T e : TypeId} (hT : P.underlying T = some (.slice e)) (w : World) : Sem.run P (binOp .eql T (.slice none 0 0) (.slice none 0 0)) w = .ok (.bool true) w := by
  have h := AI hT 9999 w
  show Sem.run P (do let b ← Op.equalIn (9999 + 1) T (.slice none 0 0) (.slice none 0 0); pure (Value.bool b) : Sem Value) w = _
  generalize Op.equalIn (9999 + 1) T (.slice none 0 0) (.slice none 0 0) = q at *
  simp [h]
theorem Bw (w : World) (e : TypeId) (l : List Int) (cs : Array Value) (n : Nat) (h : cs.toList = l.map (.int .i64)) (hl : l.length = n) (hn : n ≤ 100) : (w.alloc (.cells cs e)).ownsRow w.heap.size e 1 (.slice (some ⟨w.heap.size, 0, none⟩) n n) n (l.map (.int .i64)) := by
  have hs : cs.size = n * 1 := by rw [← Array.length_toList, h, List.length_map, hl, Nat.mul_one]
  have := World.ownsRow_lit (e := e) w cs n (Nat.le_refl _) (by unfold maxLen; omega) (by omega)
  rw [h] at this
  exact this
set_option maxRecDepth 100000 in
set_option maxHeartbeats 1600000 in
theorem By (k : Int) (w : World) (hk : JL k) :
    Calls Try.prog 24 #[.int .i64 k] w fun e w' => ∃ a, e = .returned (.slice (some a) (XN k).length (XN k).length) ∧ Ints .i64 w' (.slice (some a) (XN k).length (XN k).length) (XN k) ∧ w.grownBy w' none := by
  rcases US hk with rfl | rfl | rfl | rfl | rfl | rfl | rfl | rfl | rfl | rfl | rfl | rfl | rfl | rfl | rfl | rfl | rfl
  all_goals
    go_enter Try.func24, Try.ntmps24
    go_wp2
    go_ret
    exact ⟨_, rfl, WQ (Bw w _ _ _ _ rfl rfl (by decide)) (by decide), Jz _ _⟩
set_option maxRecDepth 100000 in
theorem Cf (k : Int) (w : World) (hk : ¬ JL k) :
    Calls Try.prog 24 #[.int .i64 k] w fun e w' => e = .returned (.slice none 0 0) ∧ w = w' := by
  obtain ⟨k1, k2, k3, k4, k5, k6, k7, k8, k9, k10, k11, k12, k13, k14, k15, k16, k17⟩ := Cd hk
  clear hk
  go_enter Try.func24, Try.ntmps24
  go_wp2
  go_ret
  exact ⟨rfl, rfl⟩
end Go.Proofs.Ytknonlnggohkoaa
namespace Go.Proofs.Ytknonlnggohkoaa
open Go.RowKit Go.ChangeShapes Go.WideShapes
structure OpD where
  kind : Int
  name : ByteArray
  other : ByteArray
  names : List ByteArray
  pk : Int
  ps : Int
  pd : Int
  pz : Int
  items : List (ByteArray × Int)
  coins : List Int
  ex : Int
  so : Int
  ha : Int
  ix : Int
  cu : Int
  co : Int
  qk : Int
  qs : ByteArray
  qc : Int
  qn : Int
  qd : Int
  data : List Int
def opV (o : OpD) (vn vi vc vd : Value) : Value :=
  .agg #[.int .i64 o.kind, .string o.name, .string o.other, vn, .int .i64 o.pk, .int .i64 o.ps, .int .i64 o.pd, .int .u64 o.pz, vi, vc, .int .i64 o.ex, .int .i64 o.so, .int .i64 o.ha, .int .i64 o.ix, .int .i64 o.cu, .int .i64 o.co, .int .i64 o.qk, .string o.qs, .int .i64 o.qc, .int .i64 o.qn, .int .i64 o.qd, vd]
def Sl (v : Value) (n : Nat) : Prop := ∃ a cap, v = .slice a n cap
def Cz (o : OpD) (f : Nat) : Bool :=
  match f with
  | 0 => o.name.toList == []
  | 1 => o.other.toList == []
  | 2 => decide (o.names.length = 0)
  | 3 => decide (o.pk = 0 ∧ o.ps = 0 ∧ o.pd = 0 ∧ o.pz = 0)
  | 4 => decide (o.items.length = 0)
  | 5 => decide (o.coins.length = 0)
  | 6 => decide (o.ex = 0)
  | 7 => decide (o.so = 0)
  | 8 => decide (o.ha = 0)
  | 9 => decide (o.ix = 0)
  | 10 => decide (o.cu = 0)
  | 11 => decide (o.co = 0)
  | 12 => decide (o.qk = 0 ∧ o.qs.toList = [] ∧ o.qc = 0 ∧ o.qn = 0 ∧ o.qd = 0)
  | _ => decide (o.data.length = 0)
theorem len0 (n : Nat) : ((n : Int) == 0) = decide (n = 0) := by
  by_cases h : n = 0
  · subst h; rfl
  · rw [decide_eq_false h]; exact beq_eq_false_iff_ne.2 (by omega)
theorem CB {f : Nat} (h : f < 14) : f = 0 ∨ f = 1 ∨ f = 2 ∨ f = 3 ∨ f = 4 ∨ f = 5 ∨ f = 6 ∨ f = 7 ∨ f = 8 ∨ f = 9 ∨ f = 10 ∨ f = 11 ∨ f = 12 ∨ f = 13 := by omega
set_option maxRecDepth 100000 in
set_option maxHeartbeats 1600000 in
theorem Bz (o : OpD) (f : Nat) (vn vi vc vd : Value) (w : World) (hf : f < 14) (h1 : Sl vn o.names.length) (h2 : Sl vi o.items.length) (h3 : Sl vc o.coins.length) (h4 : Sl vd o.data.length) :
    Calls Try.prog 26 #[opV o vn vi vc vd, .int .i64 f] w fun e w' => e = .returned (.bool (Cz o f)) ∧ w.grownBy w' none := by
  obtain ⟨an, cn, rfl⟩ := h1
  obtain ⟨ai, ci, rfl⟩ := h2
  obtain ⟨ac, cc, rfl⟩ := h3
  obtain ⟨ad, cd, rfl⟩ := h4
  unfold opV
  obtain ⟨kind, name, other, names, pk, ps, pd, pz, items, coins, ex, so, ha, ix, cu, co, qk, qs, qc, qn, qd, data⟩ := o
  simp only
  rcases CB hf with rfl | rfl | rfl | rfl | rfl | rfl | rfl | rfl | rfl | rfl | rfl | rfl | rfl | rfl
  all_goals
    go_enter Try.func26, Try.ntmps26
    go_wp2
    all_goals
      go_ret
      refine ⟨ret_b ?_, Jz _ _⟩
      first | rfl | exact len0 _ | (simp [Cz]; done) | (simp_all [Cz]; done) | (simp [Cz]; omega) | (simp_all [Cz]; omega)
end Go.Proofs.Ytknonlnggohkoaa
