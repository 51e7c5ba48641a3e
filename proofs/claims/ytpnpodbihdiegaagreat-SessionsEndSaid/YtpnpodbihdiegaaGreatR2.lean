/- Parts of the proof, laid together. No condition. -/
import Derived.Test.YtpnpodbihdiegaaGreatR1
import Derived.IntWalk
import Derived.Great.BuildSlice
import Derived.ChangeKeysEq
import Derived.Laws.StructEq
import Derived.Laws.IdiomStrings
import Derived.Laws.MakeOwn
import Derived.ScopeJumps
import Derived.Lib.SliceRun
import Derived.MapKept
set_option linter.unusedVariables false
set_option linter.unusedSimpArgs false
namespace Go.Proofs.YtpnpodbihdiegaaGreat
open Go.RowKit
section
variable {E : En} {N : Nat} {cx : Cx} {st : St} {a : Act} {w w' : World} {P : Program} {T : Tb P} {ops : Array Oper} {o : Oper} {d : Nat} {ty : Nat} {pos : String} {af : Array Edge} {gd : Option (Nat × Bool)}
theorem ιOf_in {go : Option Nat} {u : Value} {g q : Nat} (h : ιOf go u = some (g, q)) : go = some g ∧ q = 0 := by
  unfold ιOf at h
  split at h
  · cases h
  · rw [Option.map_eq_some_iff] at h
    obtain ⟨x, h1, h2⟩ := h
    cases h2
    exact ⟨h1, rfl⟩
theorem Gq (hr : ZY E N cx st a w) (hd : ∀ d, o.dst = some d → d < N) (hdN : d < N) {r : List RS} {us : List Value} {v : Value} {A2 : Nat → Prop} {gs2 : Nat → Option Nat} {fz : List QX}
    (hfresh : ∀ (n e : Nat) (rows : List (List PV)), (Zz r)[n]? = some (.own e rows) → Yb (d, n) st) (hA2 : ∀ x, cx.A x → A2 x)
    (hA2' : ∀ x, A2 x → cx.A x ∨ (w.heap.size ≤ x ∧ x < w'.heap.size) ∨ ∃ b ∈ fz, st.h b ≠ none ∧ ∃ q, cx.ι b = some (x, q))
    (hfz : ∀ b ∈ fz, (∃ e rows mu, st.h b = some (.row e rows mu)) ∧ ∀ g q, cx.ι b = some (g, q) → A2 g)
    (hsz : w.heap.size ≤ w'.heap.size) (hkept : ∀ x, x < w.heap.size → w'.heap[x]? = w.heap[x]?) (hos : w'.os = w.os) (htp : w'.tape = w.tape) (hou : w'.output = w.output)
    (hinj : O9 gs2) (hgs : ∀ n x, gs2 n = some x → w.heap.size ≤ x ∧ x < w'.heap.size) (hval : Do w' A2 gs2 0 (Zz r) us)
    (hrt : ∀ (cx : Cx) (h : QX → Option Bk), (∀ k x u, (Zz r)[k]? = some x → us[k]? = some u → RC cx w' h (OS d k x) u) → RT cx w' h (Lw d r) v) :
    ∃ cx', ZY E N cx' (Ef.ap ⟨Lw d r, BU d 0 (Zz r) ++ Ak st fz⟩ o st) (a.put o.dst v) w' := by
  obtain ⟨hul, hua⟩ := EV hval
  have hkeep : Ja cx.A w w' := ⟨hsz, fun g hA hg => hkept g hg⟩
  -- the blocks behind
  have hh : ∀ b, (Ef.ap ⟨Lw d r, BU d 0 (Zz r) ++ Ak st fz⟩ o st).h b = match (if b.1 = d then (Zz r)[b.2]? else none) with
      | some (.own e rows) => some (.row e rows true)
      | _ => if b ∈ fz then frz (st.h b) else st.h b := by
    intro b
    unfold St.h Ef.ap
    rw [List.append_assoc, YT, YT, Dp, Pj]
    by_cases hb : b.1 = d
    · rw [if_pos ⟨hb, Nat.zero_le _⟩, if_pos hb, Nat.sub_zero]
      cases hx : (Zz r)[b.2]? with
      | none => simp only [Option.none_or]; split <;> rfl
      | some x =>
        cases x with
        | p p => simp only [Option.none_or]; split <;> rfl
        | own e rows => rfl
    · rw [if_neg (fun h => hb h.1), if_neg hb]
      simp only [Option.none_or]
      split <;> rfl
  -- which are new
  let nw : QX → Bool := fun b => match (if b.1 = d then (Zz r)[b.2]? else none) with
    | some (.own _ _) => true
    | _ => false
  have hnw : ∀ b, nw b = true → ∃ n e rows, b = (d, n) ∧ (Zz r)[n]? = some (.own e rows) := by
    intro b hb
    simp only [nw] at hb
    by_cases h1 : b.1 = d
    · rw [if_pos h1] at hb
      cases hx : (Zz r)[b.2]? with
      | none => rw [hx] at hb; cases hb
      | some x =>
        rw [hx] at hb
        cases x with
        | p p => cases hb
        | own e rows => exact ⟨b.2, e, rows, by rw [← h1], hx⟩
    · rw [if_neg h1] at hb; cases hb
  have hnw2 : ∀ n e rows, (Zz r)[n]? = some (.own e rows) → nw (d, n) = true := by
    intro n e rows h
    simp only [nw, if_true, h]
  have hh1 : ∀ b, nw b = false → (Ef.ap ⟨Lw d r, BU d 0 (Zz r) ++ Ak st fz⟩ o st).h b = if b ∈ fz then frz (st.h b) else st.h b := by
    intro b hb
    rw [hh]
    simp only [nw] at hb
    revert hb
    generalize (if b.1 = d then (Zz r)[b.2]? else none) = y
    intro hb
    match y, hb with
    | none, _ => rfl
    | some (.p _), _ => rfl
    | some (.own _ _), hb => cases hb
  have hh2 : ∀ n e rows, (Zz r)[n]? = some (.own e rows) → (Ef.ap ⟨Lw d r, BU d 0 (Zz r) ++ Ak st fz⟩ o st).h (d, n) = some (.row e rows true) := by
    intro n e rows h
    rw [hh]
    simp only [if_true, h]
  -- what was live
  have hold : ∀ b, nw b = false → (Ef.ap ⟨Lw d r, BU d 0 (Zz r) ++ Ak st fz⟩ o st).h b ≠ none → st.h b ≠ none := by
    intro b hb h
    rw [hh1 b hb] at h
    split at h
    · intro e; rw [e] at h; exact h rfl
    · exact h
  let cx2 : Cx := ⟨fun b => if nw b = true then ιOf (gs2 b.2) ((us[b.2]?).getD undef) else cx.ι b, A2⟩
  have hι1 : ∀ b, nw b = true → cx2.ι b = ιOf (gs2 b.2) ((us[b.2]?).getD undef) := fun b h => by show (if nw b = true then _ else _) = _; rw [if_pos h]
  have hι2 : ∀ b, nw b = false → cx2.ι b = cx.ι b := fun b h => by show (if nw b = true then _ else _) = _; rw [if_neg (by rw [h]; simp)]
  refine ⟨cx2, hr.step (ef := ⟨Lw d r, BU d 0 (Zz r) ++ Ak st fz⟩) hd ((BU d 0 (Zz r)).map (·.1)) (fun b hb => ?_) hA2 (fun x hx => ?_) hkeep (fun g hg _ => hkept g (Nat.lt_of_lt_of_le hg hr.sz)) hos htp hou (fun b hb => ?_) (fun b bk hb => ?_) (fun b b' g q g' q' hb hb' hi hi' hne => ?_) (fun b g q hb hi => ?_) ?_ ?_⟩
  · obtain ⟨y, hy⟩ := GB hb
    rw [Dp] at hy
    split at hy
    · rename_i h1
      rw [Nat.sub_zero] at hy
      cases hx : (Zz r)[b.2]? with
      | none => rw [hx] at hy; cases hy
      | some x =>
        rw [hx] at hy
        cases x with
        | p p => cases hy
        | own e rows =>
          have := hfresh b.2 e rows hx
          obtain ⟨b1, b2⟩ := b
          simp only at h1
          rw [← h1.1] at this
          exact this
    · cases hy
  · rcases hA2' x hx with h | h | ⟨b, hb, hbl, q, hq⟩
    · exact .inl h
    · exact .inr ⟨h.2, .inl (Nat.le_trans hr.sz h.1)⟩
    · obtain ⟨h1, h2⟩ := hr.own b x q hbl hq
      exact .inr ⟨Nat.lt_of_lt_of_le h1 hsz, h2⟩
  · have hb' : nw b = false := by
      cases h : nw b with
      | false => rfl
      | true =>
        obtain ⟨n, e, rows, rfl, h1⟩ := hnw b h
        exfalso
        refine hb ?_
        have := Dp d (Zz r) 0 (d, n)
        rw [if_pos ⟨rfl, Nat.zero_le _⟩, Nat.sub_zero, h1] at this
        exact List.mem_map.2 ⟨_, XB this, rfl⟩
    intro bk' hbk
    rw [hh1 b hb'] at hbk
    have hex : ∃ bk, st.h b = some bk ∧ bk.e = bk'.e ∧ bk.len ≤ bk'.len := by
      split at hbk
      · rename_i hf
        obtain ⟨⟨e, rows, mu, h1⟩, _⟩ := hfz b hf
        rw [h1] at hbk ⊢
        cases hbk
        exact ⟨_, rfl, rfl, Nat.le_refl _⟩
      · exact ⟨bk', hbk, rfl, Nat.le_refl _⟩
    obtain ⟨bk, h1, h2, h3⟩ := hex
    refine ⟨bk, h1, h2, h3, hι2 b hb', fun g q c el fz' h4 h5 => ⟨c, el, fz', ?_, fun _ => rfl⟩⟩
    rw [hkept g (Array.getElem?_eq_some_iff.1 h5).1]; exact h5
  · cases hb' : nw b with
    | true =>
      obtain ⟨n, e, rows, rfl, h1⟩ := hnw b hb'
      rw [hh2 n e rows h1] at hb
      cases hb
      obtain ⟨u, hu, h2, h3⟩ := hua n _ h1
      refine .inr (Oc (cx := cx2) (go := gs2 n) (u := u) ?_ ?_)
      · rw [Nat.zero_add] at h3; exact h3
      · rw [hι1 _ hb']; simp [hu]
    | false =>
      have hb0 := hb
      rw [hh1 b hb'] at hb
      split at hb
      · rename_i hf
        obtain ⟨⟨e, rows, mu, h1⟩, h2⟩ := hfz b hf
        rw [h1] at hb
        cases hb
        right
        obtain ⟨h3, h4, h5⟩ := hr.bl b _ h1
        refine ⟨h3, h4, ?_⟩
        rw [hι2 b hb']
        revert h5
        cases hi : cx.ι b with
        | none => exact id
        | some y =>
          obtain ⟨g, q⟩ := y
          rintro ⟨rfl, c, el, fz', capR, h6, h7, h8, h9, h10, h11, h12⟩
          have hgl := (Array.getElem?_eq_some_iff.1 h6).1
          exact ⟨rfl, c, el, fz', capR, by rw [hkept g hgl]; exact h6, (fun h => by cases h), fun _ => h2 g 0 hi, h9, h10, h11, fun i r k p hi hk => let ⟨cv, hcv, hp⟩ := h12 i r k p hi hk; ⟨cv, hcv, hp.keeps hA2 hkeep⟩⟩
      · rename_i hf
        refine .inl ⟨?_, hb, hι2 b hb', fun g q hi => ?_⟩
        · intro hm
          obtain ⟨y, hy⟩ := GB hm
          rw [Dp] at hy
          split at hy
          · rename_i h1
            rw [Nat.sub_zero] at hy
            simp only [nw] at hb'
            rw [if_pos h1.1] at hb'
            revert hb' hy
            generalize (Zz r)[b.2]? = z
            intro hb' hy
            match z, hb', hy with
            | none, _, hy => cases hy
            | some (.p _), _, hy => cases hy
            | some (.own _ _), hb', _ => cases hb'
          · cases hy
        · have hlive : st.h b ≠ none := by rw [hb]; simp
          obtain ⟨h1, h2⟩ := hr.own b g q hlive hi
          refine ⟨hkept g h1, fun hnA hA => ?_⟩
          rcases hA2' g hA with h | h | ⟨b2, hb2, hb2l, q2, hq2⟩
          · exact hnA h
          · omega
          · refine hr.inj b b2 g q g q2 hlive hb2l hi hq2 ?_ rfl
            rintro rfl
            exact hf hb2
  · have hnew : ∀ b g q, nw b = true → cx2.ι b = some (g, q) → w.heap.size ≤ g ∧ gs2 b.2 = some g := by
      intro b g q h1 h2
      rw [hι1 b h1] at h2
      obtain ⟨h3, h4⟩ := ιOf_in h2
      exact ⟨(hgs _ _ h3).1, h3⟩
    have hol : ∀ b g q, nw b = false → (Ef.ap ⟨Lw d r, BU d 0 (Zz r) ++ Ak st fz⟩ o st).h b ≠ none → cx2.ι b = some (g, q) → g < w.heap.size := by
      intro b g q h1 h2 h3
      rw [hι2 b h1] at h3
      exact (hr.own b g q (hold b h1 h2) h3).1
    cases h1 : nw b <;> cases h2 : nw b'
    · rw [hι2 b h1] at hi
      rw [hι2 b' h2] at hi'
      exact hr.inj b b' g q g' q' (hold b h1 hb) (hold b' h2 hb') hi hi' hne
    · have := hol b g q h1 hb hi
      have := (hnew b' g' q' h2 hi').1
      omega
    · have := hol b' g' q' h2 hb' hi'
      have := (hnew b g q h1 hi).1
      omega
    · obtain ⟨n, e, rows, rfl, _⟩ := hnw b h1
      obtain ⟨n', e', rows', rfl, _⟩ := hnw b' h2
      rintro rfl
      have e1 := (hnew _ _ _ h1 hi).2
      have e2 := (hnew _ _ _ h2 hi').2
      have := hinj n n' g e1 e2
      exact hne (by rw [this])
  · cases h1 : nw b with
    | true =>
      rw [hι1 b h1] at hi
      obtain ⟨h3, h4⟩ := ιOf_in hi
      obtain ⟨h5, h6⟩ := hgs _ _ h3
      exact ⟨h6, .inl (Nat.le_trans hr.sz h5)⟩
    | false =>
      rw [hι2 b h1] at hi
      obtain ⟨h3, h4⟩ := hr.own b g q (hold b h1 hb) hi
      exact ⟨Nat.lt_of_lt_of_le h3 hsz, h4⟩
  · refine hrt cx2 _ (fun k x u hk hu => ?_)
    obtain ⟨u', hu', h1, h2⟩ := hua k x hk
    rw [hu] at hu'
    cases hu'
    rw [Nat.zero_add] at h2
    cases x with
    | p p => exact h2
    | own e rows =>
      have hn := hnw2 k e rows hk
      exact Ob (cx := cx2) h2 (hh2 k e rows hk) (by rw [hι1 _ hn]; simp [hu])
  · intro b hb
    refine hι2 b ?_
    cases h : nw b with
    | false => rfl
    | true =>
      obtain ⟨n, e, rows, h1, _⟩ := hnw b h
      have := hr.hN
      rcases hb with hb | hb
      · rw [hb] at h1
        simp only [Mu, Prod.mk.injEq] at h1
        omega
      · rw [h1] at hb
        simp only at hb
        omega
theorem EY {f : FuncId} {xs : Array Operand} {tys : Array TypeId} {dst : Option Nat} (he : M6 P f = true) : (execOp a.eval ⟨dst, .call { callee := .value (.func f), args := xs, argTypes := tys }, ty, pos, af, gd⟩).run P w = .ok (.enter f (xs.map a.eval)) w := by
  unfold M6 at he
  cases hf : P.funcs[f]? with
  | none => rw [hf] at he; cases he
  | some fn =>
    rw [hf] at he
    simp only [Bool.and_eq_true, bne_iff_ne, ne_eq] at he
    have h1 := he.1
    have h2 := he.2
    cases hb : fn.body with
    | none => rw [hb] at h2; cases h2
    | some c => simp [execOp, resolve, Act.eval, Deferred.ofValue, invoke, callFunc, Sem.run_bind, Sem.run_pure, Result.andThen_ok, program, Sem.run, hf, h1, hb]
theorem Gr {st' : St} {c : CV} {x : RV} {bs : List QX} (h : Lt st c x none bs) (hb : ∀ b ∈ bs, st'.h b = st.h b) : Lt st' c x none bs := by
  cases h with
  | p x => exact .p x
  | nil e => exact .nil e
  | nilo e he => exact .nilo e he
  | fr h1 h2 => exact .fr (by rw [hb _ (by simp)]; exact h1) h2
theorem IM {st' : St} {cs : List CV} {xs : List PV} {bs : List QX} (h : BV st cs xs bs) (hb : ∀ b ∈ bs, st'.h b = st.h b) : BV st' cs xs bs := by
  induction h with
  | nil => exact .nil
  | cons h hs ih => exact .cons (Gr h fun b hm => hb b (List.mem_append_left _ hm)) (ih fun b hm => hb b (List.mem_append_right _ hm))
theorem EZ {st' : St} {ts : List TV} {xs : List AV} {bs : List QX} (h : EX st ts xs bs) (hb : ∀ b ∈ bs, st'.h b = st.h b) : EX st' ts xs bs := by
  induction h with
  | nil => exact .nil
  | cons h hs ih =>
    refine .cons ?_ (ih fun b hm => hb b (List.mem_append_right _ hm))
    cases h with
    | c h => exact .c (Gr h fun b hm => hb b (List.mem_append_left _ hm))
    | agg h => exact .agg (IM h fun b hm => hb b (List.mem_append_left _ hm))
theorem Mb {cs : List CV} {xs : List PV} {bs : List QX} (h : BV st cs xs bs) : Aj st cs (xs.map .p) (xs.map fun _ => none) bs := by
  induction h with
  | nil => exact .nil
  | cons h hs ih => exact .cons h ih
theorem HP {c : CV} {x : RV} {o : Option QX} {bs : List QX} (h : Lt st c x o bs) : ∀ b ∈ bs, ∃ e rows mu, st.h b = some (.row e rows mu) := by
  cases h with
  | p x => simp
  | nil e => simp
  | nilo e he => simp
  | own h1 h2 => simp
  | fr h1 h2 => intro b hb; rw [List.mem_singleton.1 hb]; exact ⟨_, _, _, h1⟩
theorem Mc {cs : List CV} {xs : List PV} {bs : List QX} (h : BV st cs xs bs) : ∀ b ∈ bs, ∃ e rows mu, st.h b = some (.row e rows mu) := by
  induction h with
  | nil => simp
  | cons h hs ih =>
    intro b hb
    rcases List.mem_append.1 hb with hb | hb
    · exact HP h b hb
    · exact ih b hb
theorem Gs {ts : List TV} {xs : List AV} {bs : List QX} (h : EX st ts xs bs) : ∀ b ∈ bs, ∃ e rows mu, st.h b = some (.row e rows mu) := by
  induction h with
  | nil => simp
  | cons h hs ih =>
    intro b hb
    rcases List.mem_append.1 hb with hb | hb
    · cases h with
      | c h => exact HP h b hb
      | agg h => exact Mc h b hb
    · exact ih b hb
theorem HQ (hr : ZY E N cx st a w) {A' : Nat → Prop} (hA : ∀ x, cx.A x → A' x) {gs : Nat → Option Nat} {g q : Nat} : ∀ {ts : List TV} {xs : List AV} {bs : List QX}, EX st ts xs bs → ∀ {vs : List Value}, (∀ b ∈ bs, ∀ g q, cx.ι b = some (g, q) → A' g) →
    vs.length = ts.length → (∀ (i : Nat) (t : TV), ts[i]? = some t → ∃ v, vs[i]? = some v ∧ RT cx w st.h t v) → Mr w A' gs g q xs vs := by
  intro ts xs bs h
  induction h with
  | nil =>
    intro vs _ hl _
    cases vs with
    | nil => trivial
    | cons v vs => simp at hl
  | cons h hs ih =>
    intro vs hb hl hv
    cases vs with
    | nil => simp at hl
    | cons v vs =>
      refine ⟨?_, ih (fun b hm => hb b (List.mem_append_right _ hm)) (by simpa using hl) (fun i t hi => hv (i + 1) t (by simpa using hi))⟩
      obtain ⟨v', hv', h1⟩ := hv 0 _ rfl
      rw [List.getElem?_cons_zero] at hv'
      cases hv'
      cases h with
      | c h => exact GL hr h h1.2 hA (fun b hm => hb b (List.mem_append_left _ hm)) (fun b hm => by cases hm)
      | agg h =>
        obtain ⟨us, rfl, h2⟩ := h1
        refine ⟨us, rfl, EW hr hA (Mb h) (fun b hm => hb b (List.mem_append_left _ hm)) (fun b hm => ?_) (fun k o hk => ?_) (by simpa using h2.1) (fun i c hi => ?_)⟩
        · rw [List.mem_map] at hm; obtain ⟨x, _, hx⟩ := hm; cases hx
        · rw [List.getElem?_map, Option.map_eq_some_iff] at hk
          obtain ⟨x, _, rfl⟩ := hk
          rfl
        · obtain ⟨u, hu, h3, h4⟩ := h2.2 i c hi
          exact ⟨u, by simpa using hu, h3, h4⟩
theorem MS {A A2 : Nat → Prop} {p : PV} {v : Value} (h : RP w A p v) (hn : NR p = true) : RP w A2 p v := by
  cases h with
  | v _ hx => exact .v _ hx
  | l => cases hn
  | o _ hx => exact .o _ hx
theorem YB {f : FuncId} {xs : Array Operand} {tys : Array TypeId} {avs : List AV} {r : List RS} {bs : List QX} {ids : List QX} {bl : List (QX × Option Bk)} {t : TV} (hcon : Qp P f avs r []) (hn : avs.any AV.isRef = false := by exact rfl) (hok : xs.toList.all Zr = true := by exact rfl) (hargs : EX st (xs.toList.map st.ev) avs bs)
    (hids : (BU d 0 (Zz r)).map (·.1) = ids := by exact rfl) (hbl : BU d 0 (Zz r) ++ Ak st bs = bl := by exact rfl) (ht : Lw d r = t := by exact rfl) :
    KC E N P ops ⟨some d, .call { callee := .value (.func f), args := xs, argTypes := tys }, ty, pos, af, gd⟩ st ⟨bs, ids⟩ ⟨t, bl⟩ := by
  subst hids
  subst hbl
  subst ht
  intro st' ha hf hd cx a w Q hr
  have hbe : ∀ b ∈ bs, st'.h b = st.h b := ha.2
  have hargs' := EZ hargs hbe
  have hlive := Gs hargs'
  let A2 : Nat → Prop := fun x => cx.A x ∨ ∃ b ∈ bs, st'.h b ≠ none ∧ ∃ q, cx.ι b = some (x, q)
  have hbn : ∀ b ∈ bs, st'.h b ≠ none := fun b hb => by obtain ⟨_, _, _, h⟩ := hlive b hb; rw [h]; simp
  have hAs : Mr w A2 (fun _ => none) w.heap.size 0 avs (xs.map a.eval).toList := by
    refine HQ hr (fun x hx => .inl hx) hargs' (fun b hb g q hg => .inr ⟨b, hb, hbn b hb, q, hg⟩) (by simp) (fun i t hi => ?_)
    rw [List.getElem?_map, Option.map_eq_some_iff] at hi
    obtain ⟨x, hx, rfl⟩ := hi
    have hm := List.mem_of_getElem? hx
    refine ⟨a.eval x, by rw [Array.toList_map, List.getElem?_map, hx]; rfl, ?_⟩
    rw [← Ji ha (x := x) (by simp only [Op.operands, Call.operands]; simp at hm ⊢; exact .inr hm)]
    exact hr.ev (List.all_eq_true.1 hok x hm)
  have hAsz : ∀ x, A2 x → x < w.heap.size := by
    rintro x (h | ⟨b, hb, hbl, q, hq⟩)
    · exact (hr.A x h).1
    · exact (hr.own b x q hbl hq).1
  have hfl : Ak st bs = Ak st' bs := List.map_congr_left fun b hb => by rw [hbe b hb]
  unfold Oper.wp
  rw [EY hcon.ent, Oper.upon_enter]
  refine (hcon.run A2 (fun _ => none) w.heap.size 0 w (xs.map a.eval) hAsz (fun n m x h => by cases h) (fun n x h => by cases h) (fun _ => ⟨fun _ => rfl, rfl⟩) hAs).mono ?_
  rintro e w' ⟨v, A', gs', rfl, h1, h2, h3, h4, h5, h6, h7, h8, h9, h10, _⟩
  obtain ⟨us, hus, hrt⟩ := HO (d := d) h10
  show ∃ cx', _
  rw [hfl]
  refine Gq hr hd (hd d rfl) (fz := bs) (gs2 := gs') (us := us) (A2 := A') (fun n e rows hx => hf (d, n) ?_) (fun x hx => h1 x (.inl hx)) (fun x hx => ?_) (fun b hb => ⟨hlive b hb, fun g q hg => h1 g (.inr ⟨b, hb, hbn b hb, q, hg⟩)⟩) h3
    (fun x hx => h4 x hx (by omega) (fun n h => by cases h)) h5 h6 h7 h8 (fun n x hx => ?_) hus hrt
  · have := Dp d (Zz r) 0 (d, n)
    rw [if_pos ⟨rfl, Nat.zero_le _⟩, Nat.sub_zero, hx] at this
    exact List.mem_map.2 ⟨_, XB this, rfl⟩
  · rcases h2 x hx with (h | ⟨b, hb, hbl, q, hq⟩) | ⟨h, h' | ⟨n, h'⟩⟩
    · exact .inl h
    · exact .inr (.inr ⟨b, hb, hbl, q, hq⟩)
    · exact .inr (.inl ⟨h', h⟩)
    · cases h'
  · obtain ⟨h11, _, h12 | ⟨m, h12⟩⟩ := h9 n x hx
    · exact ⟨h12, h11⟩
    · cases h12
theorem Ze {f : FuncId} {xs : Array Operand} {tys : Array TypeId} {avs : List AV} {r : List RS} {bs : List QX} {ids : List QX} {bl : List (QX × Option Bk)} {t : TV} (hcon : Qp P f avs r []) (hnl : NoLs (Zz r)) (hn : avs.any AV.isRef = false := by exact rfl) (hok : xs.toList.all Zr = true := by exact rfl) (hargs : EX st (xs.toList.map st.ev) avs bs)
    (hids : (BU d 0 (Zz r)).map (·.1) = ids := by exact rfl) (hbl : BU d 0 (Zz r) = bl := by exact rfl) (ht : Lw d r = t := by exact rfl) :
    KC E N P ops ⟨some d, .call { callee := .value (.func f), args := xs, argTypes := tys }, ty, pos, af, gd⟩ st ⟨bs, ids⟩ ⟨t, bl⟩ := by
  subst hids
  subst hbl
  subst ht
  intro st' ha hf hd cx a w Q hr
  have hbe : ∀ b ∈ bs, st'.h b = st.h b := ha.2
  have hargs' := EZ hargs hbe
  have hlive := Gs hargs'
  let A2 : Nat → Prop := fun x => cx.A x ∨ ∃ b ∈ bs, st'.h b ≠ none ∧ ∃ q, cx.ι b = some (x, q)
  have hbn : ∀ b ∈ bs, st'.h b ≠ none := fun b hb => by obtain ⟨_, _, _, h⟩ := hlive b hb; rw [h]; simp
  have hAs : Mr w A2 (fun _ => none) w.heap.size 0 avs (xs.map a.eval).toList := by
    refine HQ hr (fun x hx => .inl hx) hargs' (fun b hb g q hg => .inr ⟨b, hb, hbn b hb, q, hg⟩) (by simp) (fun i t hi => ?_)
    rw [List.getElem?_map, Option.map_eq_some_iff] at hi
    obtain ⟨x, hx, rfl⟩ := hi
    have hm := List.mem_of_getElem? hx
    refine ⟨a.eval x, by rw [Array.toList_map, List.getElem?_map, hx]; rfl, ?_⟩
    rw [← Ji ha (x := x) (by simp only [Op.operands, Call.operands]; simp at hm ⊢; exact .inr hm)]
    exact hr.ev (List.all_eq_true.1 hok x hm)
  have hAsz : ∀ x, A2 x → x < w.heap.size := by
    rintro x (h | ⟨b, hb, hbl, q, hq⟩)
    · exact (hr.A x h).1
    · exact (hr.own b x q hbl hq).1
  unfold Oper.wp
  rw [EY hcon.ent, Oper.upon_enter]
  refine (hcon.run A2 (fun _ => none) w.heap.size 0 w (xs.map a.eval) hAsz (fun n m x h => by cases h) (fun n x h => by cases h) (fun _ => ⟨fun _ => rfl, rfl⟩) hAs).mono ?_
  rintro e w' ⟨v, A', gs', rfl, h1, h2, h3, h4, h5, h6, h7, h8, h9, h10, _⟩
  obtain ⟨us, hus, hrt⟩ := HO (d := d) h10
  have hgs : ∀ n x, gs' n = some x → w.heap.size ≤ x ∧ x < w'.heap.size := fun n x hx => by
    obtain ⟨h11, _, h12 | ⟨m, h12⟩⟩ := h9 n x hx
    · exact ⟨h12, h11⟩
    · cases h12
  obtain ⟨hul, hua⟩ := EV hus
  have hus' : Do w' cx.A gs' 0 (Zz r) us := by
    refine Pi hul (fun k x hk => ?_)
    obtain ⟨u, hu, h11, h12⟩ := hua k x hk
    refine ⟨u, hu, h11, ?_⟩
    have hx := hnl x (List.mem_of_getElem? hk)
    cases x with
    | p p => exact MS h12 hx
    | own e rows =>
      obtain ⟨q1, q2, a', cap, q3, q4, q5, q6⟩ := h12
      refine ⟨q1, q2, a', cap, q3, q4, q5, ?_⟩
      rcases q6 with q6 | ⟨g, c, el, q7, q8, q9, q10, q11, q12⟩
      · exact .inl q6
      · refine .inr ⟨g, c, el, q7, q8, fun hA => ?_, q10, q11, fun i r k p hi hk => ?_⟩
        · have := (hr.A g hA).1
          have := (hgs _ _ q7).1
          omega
        · obtain ⟨cv, hcv, hp⟩ := q12 i r k p hi hk
          exact ⟨cv, hcv, MS hp (hx r (List.mem_of_getElem? hi) p (List.mem_of_getElem? hk))⟩
  show ∃ cx', _
  have hfz : BU d 0 (Zz r) = BU d 0 (Zz r) ++ Ak st' [] := by simp [Ak]
  rw [hfz]
  refine Gq hr hd (hd d rfl) (fz := []) (gs2 := gs') (us := us) (A2 := cx.A) (fun n e rows hx => hf (d, n) ?_) (fun x hx => hx) (fun x hx => .inl hx) (fun b hb => by cases hb) h3
    (fun x hx => h4 x hx (by omega) (fun n h => by cases h)) h5 h6 h7 h8 hgs hus' hrt
  have := Dp d (Zz r) 0 (d, n)
  rw [if_pos ⟨rfl, Nat.zero_le _⟩, Nat.sub_zero, hx] at this
  exact List.mem_map.2 ⟨_, XB this, rfl⟩
theorem Oh {op : Op} {f : Fp} {t : TV} {fr : List (Nat × TV)} {H : List (QX × Option Bk)} {bl : List (QX × Option Bk)} {r : List Oper} {acc : List (Fp × Ef)} {K : List (Fp × Ef) → St → Prop} (hw : wn ops ⟨some d, op, ty, pos, af, gd⟩ ⟨fr, H⟩ = some true) (hop : KC E N P ops ⟨some d, op, ty, pos, af, gd⟩ ⟨fr, H⟩ f ⟨t, bl⟩)
    (h : Ua E N P ops r ((f, ⟨t, bl⟩) :: acc) ⟨(d, t) :: fr, bl ++ H⟩ K) : Ua E N P ops (⟨some d, op, ty, pos, af, gd⟩ :: r) acc ⟨fr, H⟩ K := ⟨f, ⟨t, bl⟩, .inl ⟨hw, hop⟩, h⟩
end
section
variable {E : En} {N : Nat} {P : Program} {T : Tb P} {ops : Array Oper} {o : Oper} {st : St} {d : Nat} {ty : Nat} {pos : String} {af : Array Edge} {gd : Option (Nat × Bool)} {Q : Exit → St → Prop}
theorem Qc {x : Operand} {y : CV} (hx : st.ev x = .c y := by exact rfl) (hc : Zr x = true := by exact rfl) : KC E N P ops ⟨some d, .move x, ty, pos, af, gd⟩ st ⟨[], []⟩ ⟨.c y, []⟩ := EP hc hx
theorem WJ {x : Operand} {y : CV} (hx : st.ev x = .c y) (hc : Zr x = true) : KC E N P ops ⟨some d, .assign x, ty, pos, af, gd⟩ st ⟨[], []⟩ ⟨.c y, []⟩ := EQ hc hx
theorem Uk {x : Operand} {ts : List TV} {i : Nat} {y : CV} (h1 : st.ev x = .tup ts := by exact rfl) (hi : ts[i]? = some (.c y) := by exact rfl) (hx : Zr x = true := by exact rfl) : KC E N P ops ⟨some d, .extract x i, ty, pos, af, gd⟩ st ⟨[], []⟩ ⟨.c y, []⟩ := E3 h1 hi (by simp) hx
theorem FI {x : Operand} {ts : List TV} {i : Nat} {y : List CV} (h1 : st.ev x = .tup ts := by exact rfl) (hi : ts[i]? = some (.agg y) := by exact rfl) (hx : Zr x = true := by exact rfl) : KC E N P ops ⟨some d, .extract x i, ty, pos, af, gd⟩ st ⟨[], []⟩ ⟨.agg y, []⟩ := E3 h1 hi (by simp) hx
theorem Md {x : Operand} {el : TypeId} {y : CV} (hx : st.ev x = .c y) (hk : TV.known (.c y) = true) (hc : Zr x = true) : KC E N P ops ⟨some d, .box el x, ty, pos, af, gd⟩ st ⟨[], [(d, 0)]⟩ ⟨.c (.ptr (d, 0) 0 0), [((d, 0), some (.box [y]))]⟩ := Lp hx hk hc
theorem Me {x : Operand} {el : TypeId} {cs : List CV} (hx : st.ev x = .agg cs := by exact rfl) (hc : Zr x = true := by exact rfl) : KC E N P ops ⟨some d, .box el x, ty, pos, af, gd⟩ st ⟨[], [(d, 0)]⟩ ⟨.c (.ptr (d, 0) 0 0), [((d, 0), some (.box cs))]⟩ := Lp hx rfl hc
theorem Ec {x y : Operand} {t : TypeId} {te : TE} {b : QX} {k : Nat} {all all' : List CV} {v : CV} {dst : Option Nat} (hx : st.ev x = .c (.ptr b 0 k)) (hb : st.h b = some (.box all)) (hv : st.ev y = .c v) (hk : TV.known (.c v) = true) (ht : ZA T.ty t = some te) (hsz : 1 = te.size) (hin : k + 1 ≤ all.length)
    (hall : setAt all k [v] = all') (hcx : Zr x = true) (hcy : Zr y = true) : KC E N P ops ⟨dst, .store t x y, ty, pos, af, gd⟩ st ⟨[b], []⟩ ⟨.c .any, [(b, some (.box all'))]⟩ := BC hx hb hv hk ht hsz hin hall hcx hcy
theorem Ed {x y : Operand} {t : TypeId} {te : TE} {b : QX} {k : Nat} {all all' cs : List CV} {dst : Option Nat} (hx : st.ev x = .c (.ptr b 0 k)) (hb : st.h b = some (.box all)) (hv : st.ev y = .agg cs) (ht : ZA T.ty t = some te) (hsz : cs.length = te.size) (hin : k + cs.length ≤ all.length)
    (hall : setAt all k cs = all') (hcx : Zr x = true) (hcy : Zr y = true) : KC E N P ops ⟨dst, .store t x y, ty, pos, af, gd⟩ st ⟨[b], []⟩ ⟨.c .any, [(b, some (.box all'))]⟩ := BC hx hb hv rfl ht hsz hin hall hcx hcy
theorem nb {n : Nat} (h : Nat.beq n 0 = false) : n ≠ 0 := by rintro rfl; cases h
theorem Q7 [T : Tb P] {x : Operand} {b : QX} {i k k' f off ft s : Nat} {ts tf : TE} {fs : List (Nat × Nat)} (h1 : st.ev x = .c (.ptr b i k) := by exact rfl) (hb : (st.h b).isSome = true := by exact rfl) (hs : ZA T.ty s = some ts := by exact rfl) (hk : ts.kd = .struct fs := by exact rfl) (hf : fs[f]? = some (off, ft) := by exact rfl) (hft : ZA T.ty ft = some tf := by exact rfl) (hz : Nat.beq tf.size 0 = false := by exact rfl) (hkk : Nat.add k off = k' := by exact rfl) (hc : Zr x = true := by exact rfl) :
    KC E N P ops ⟨some d, .fieldAddr s x f, ty, pos, af, gd⟩ st ⟨[b], []⟩ ⟨.c (.ptr b i k'), []⟩ := FD h1 hb hs hk hf hft (nb hz) hkk hc
theorem ZM [T : Tb P] {x : Operand} {r : List PV} {k k' f off ft s : Nat} {ts tf : TE} {fs : List (Nat × Nat)} (h1 : st.ev x = .c (.ep r k) := by exact rfl) (hs : ZA T.ty s = some ts := by exact rfl) (hk : ts.kd = .struct fs := by exact rfl) (hf : fs[f]? = some (off, ft) := by exact rfl) (hft : ZA T.ty ft = some tf := by exact rfl) (hz : Nat.beq tf.size 0 = false := by exact rfl) (hkk : Nat.add k off = k' := by exact rfl) (hc : Zr x = true := by exact rfl) :
    KC E N P ops ⟨some d, .fieldAddr s x f, ty, pos, af, gd⟩ st ⟨[], []⟩ ⟨.c (.ep r k'), []⟩ := GF h1 hs hk hf hft (nb hz) hkk hc
variable {r : List Oper} {acc : List (Fp × Ef)} {K : List (Fp × Ef) → St → Prop} {fr : List (Nat × TV)} {H : List (QX × Option Bk)} {op : Op}
end
section
variable {E : En} {N : Nat} {P : Program} {T : Tb P} {st : St} {Q : Exit → St → Prop} {cx : Cx} {a : Act} {w : World} {fn : Func}
def Nm (st st' : St) : Prop := ∃ ks σ, okS σ = true ∧ st.norm ks σ = st'
theorem Nm.mk (ks : List Nat) (σ : List (QX × QX)) {st' : St} (h1 : okS σ = true) (h : st.norm ks σ = st') : Nm st st' := ⟨ks, σ, h1, h⟩
theorem GO {x y : Code} (h : ∀ K : St → Prop, (∀ st, AW E N P y Q st → K st) → AW E N P x (Gn Q K) st) : AW E N P (.seq x y) Q st := GJ (h _ fun _ h => h)
theorem MU {x : List Oper} {id : Nat} {y : Code} (hN : Iy N x = true) (h : ∀ K : St → Prop, (∀ st, AW E N P y Q st → K st) → Ua E N P x.toArray x [] st fun acc st' => GC acc.reverse = true ∧ Yc st acc = true ∧ K st') : AW E N P (.seq (.region id x.toArray false) y) Q st :=
  GO fun K hK => EB hN (h K hK)
theorem MV {x : List Oper} {id : Nat} {y : Code} (hm : P.follows .mixedOrders = true) (hS : My N x = true) (h : ∀ K : St → Prop, (∀ st, AW E N P y Q st → K st) → Ua E N P x.toArray x [] st fun acc st' => Ix x acc.reverse = true ∧ Yc st acc = true ∧ K st') : AW E N P (.seq (.region id x.toArray true) y) Q st :=
  GO fun K hK => Lr hm hS (h K hK)
theorem BV.ps : ∀ {xs : List PV}, BV st (xs.map .p) xs []
  | [] => .nil
  | x :: xs => .cons (b := []) (bs := []) (.p x) BV.ps
section
variable {ops : Array Oper} {d : Nat} {ty : Nat} {pos : String} {af : Array Edge} {gd : Option (Nat × Bool)} {f : FuncId} {xs : Array Operand} {tys : Array TypeId} {dst : Option Nat} {avs : List AV} {bs : List QX}
theorem gm {α β : Type} {l : List α} {g : α → β} {j : Nat} {x : α} (h : l[j]? = some x) : (l.map g)[j]? = some (g x) := by rw [List.getElem?_map, h]; rfl
end
end
section
variable {E : En} {N : Nat} {P : Program} {T : Tb P} {st : St} {Q : Exit → St → Prop} {cx : Cx} {a : Act} {w w' : World} {fn : Func}
end
section
variable {E : En} {N : Nat} {cx : Cx} {st : St} {a : Act} {w w' : World} {P : Program} {T : Tb P} {ops : Array Oper} {o : Oper} {d : Nat} {ty : Nat} {pos : String} {af : Array Edge} {gd : Option (Nat × Bool)}
end
section
variable {E : En} {N : Nat} {P : Program} {st : St} {ops : Array Oper} {d : Nat} {ty : Nat} {pos : String} {af : Array Edge} {gd : Option (Nat × Bool)}
theorem IN {x : Operand} {y : List TV} (hx : st.ev x = .tup y := by exact rfl) (hc : Zr x = true := by exact rfl) : KC E N P ops ⟨some d, .move x, ty, pos, af, gd⟩ st ⟨[], []⟩ ⟨.tup y, []⟩ := EP hc hx
end
section
variable {w w' : World} {P : Program} {A : Nat → Prop} {gs : Nat → Option Nat} {g q : Nat}
end
section
variable {E : En} {N : Nat} {P : Program} {T : Tb P} {st : St} {ops : Array Oper} {d : Nat} {ty : Nat} {pos : String} {af : Array Edge} {gd : Option (Nat × Bool)}
theorem MW [T : Tb P] {x y : Operand} {t : TypeId} {te : TE} {b : QX} {k : Nat} {all all' : List CV} {v : CV} {dst : Option Nat} (hx : st.ev x = .c (.ptr b 0 k) := by exact rfl) (hb : st.h b = some (.box all) := by exact rfl) (hv : st.ev y = .c v := by exact rfl) (hk : TV.known (.c v) = true := by exact rfl) (ht : ZA T.ty t = some te := by exact rfl) (hsz : 1 = te.size := by exact rfl) (hin : Nat.ble (k + 1) all.length = true := by exact rfl)
    (hall : setAt all k [v] = all' := by exact rfl) (hcx : Zr x = true := by exact rfl) (hcy : Zr y = true := by exact rfl) : KC E N P ops ⟨dst, .store t x y, ty, pos, af, gd⟩ st ⟨[b], []⟩ ⟨.c .any, [(b, some (.box all'))]⟩ := Ec hx hb hv hk ht hsz (Nat.le_of_ble_eq_true hin) hall hcx hcy
theorem HR [T : Tb P] {x y : Operand} {t : TypeId} {te : TE} {b : QX} {k : Nat} {all all' cs : List CV} {dst : Option Nat} (hx : st.ev x = .c (.ptr b 0 k) := by exact rfl) (hb : st.h b = some (.box all) := by exact rfl) (hv : st.ev y = .agg cs := by exact rfl) (ht : ZA T.ty t = some te := by exact rfl) (hsz : cs.length = te.size := by exact rfl) (hin : Nat.ble (k + cs.length) all.length = true := by exact rfl)
    (hall : setAt all k cs = all' := by exact rfl) (hcx : Zr x = true := by exact rfl) (hcy : Zr y = true := by exact rfl) : KC E N P ops ⟨dst, .store t x y, ty, pos, af, gd⟩ st ⟨[b], []⟩ ⟨.c .any, [(b, some (.box all'))]⟩ := Ed hx hb hv ht hsz (Nat.le_of_ble_eq_true hin) hall hcx hcy
end
def E5 (pl : Nat → Option (Nat × Nat)) : List CV → List (Nat × TV) → Option (List CV)
  | cs, [] => some cs
  | cs, (i, t) :: r => match pl i with
    | none => none
    | some (off, size) => match Nat.beq t.cells.length size && Nat.ble (off + t.cells.length) cs.length && t.known with
      | true => E5 pl (setAt cs off t.cells) r
      | false => none
def IO (tb : List (Nat × TE)) : List (Nat × Nat) → Option (List (Nat × Nat))
  | [] => some []
  | (o, t) :: r => match ZA tb t with
    | none => none
    | some te => match IO tb r with
      | none => none
      | some l => some ((o, te.size) :: l)
section
variable {E : En} {N : Nat} {P : Program} {T : Tb P} {ops : Array Oper} {o : Oper} {st : St} {d : Nat} {ty : Nat} {pos : String} {af : Array Edge} {gd : Option (Nat × Bool)} {cx : Cx} {a : Act} {w w' : World}
theorem Lx : ∀ {fs : List (Nat × Nat)} {pl : List (Nat × Nat)} (F : List Field), IO T.ty fs = some pl → F.map (fun f => (f.offset, f.type)) = fs → F.mapM (fun f => (P.info? f.type).map fun i => (f.offset, i.size)) = some pl
  | [], pl, F, h, hF => by
    have : F = [] := by simpa using hF
    subst this
    simp only [IO, Option.some.injEq] at h
    subst h; rfl
  | (o, t) :: fs, pl, F, h, hF => by
    cases F with
    | nil => simp at hF
    | cons f F =>
      simp only [List.map_cons, List.cons.injEq, Prod.mk.injEq] at hF
      obtain ⟨⟨rfl, rfl⟩, hF⟩ := hF
      simp only [IO] at h
      cases ht : ZA T.ty f.type with
      | none => rw [ht] at h; cases h
      | some te =>
        rw [ht] at h
        simp only at h
        cases hp : IO T.ty fs with
        | none => rw [hp] at h; cases h
        | some l =>
          rw [hp] at h
          cases h
          have ih := Lx F hp hF
          obtain ⟨dd, i, h1, h2, h3, h4, h5, h6⟩ := Vs (T.ok _ _ ht)
          simp only [List.mapM_cons, ih, h2, Option.map_some, h4]
          rfl
theorem CN {h : QX → Option Bk} {pl : Nat → Option (Nat × Nat)} : ∀ {ps : List (Nat × TV)} {vs : List (Nat × Value)} {cs cs' : List CV} {cells : Array Value}, E5 pl cs ps = some cs' → RL cx w h cs cells → vs.length = ps.length →
    (∀ (k i : Nat) (t : TV), ps[k]? = some (i, t) → ∃ v, vs[k]? = some (i, v) ∧ RT cx w h t v) → ∃ cells', Instr.fill pl cells vs = some cells' ∧ RL cx w h cs' cells' := by
  intro ps
  induction ps with
  | nil =>
    intro vs cs cs' cells h1 h2 h3 h4
    have : vs = [] := List.eq_nil_of_length_eq_zero (by simpa using h3)
    subst this
    cases h1
    exact ⟨cells, rfl, h2⟩
  | cons p ps ih =>
    intro vs cs cs' cells h1 h2 h3 h4
    obtain ⟨i, t⟩ := p
    obtain ⟨v, hv, hrt⟩ := h4 0 i t rfl
    cases vs with
    | nil => simp at h3
    | cons v0 vs =>
      rw [List.getElem?_cons_zero] at hv
      cases hv
      simp only [E5] at h1
      cases hp : pl i with
      | none => rw [hp] at h1; cases h1
      | some y =>
        obtain ⟨off, size⟩ := y
        rw [hp] at h1
        simp only at h1
        split at h1
        case h_2 => cases h1
        rename_i hc
        simp only [Bool.and_eq_true] at hc
        obtain ⟨⟨hc1, hc2⟩, hc3⟩ := hc
        have hc1 := Nat.eq_of_beq_eq_true hc1
        have hc2 := Nat.le_of_ble_eq_true hc2
        have hrl := UA hc3 hrt
        have hsz : v.cells.size = t.cells.length := hrl.1
        obtain ⟨g1, g2⟩ := Great.foldl_set off v.cells.toList 0 cells
        have hstep : RL cx w h (setAt cs off t.cells) ((v.cells.toList.zipIdx 0).foldl (fun cs (x : Value × Nat) => cs.setIfInBounds (off + x.2) x.1) cells) := by
          refine ⟨by rw [g1, Be _ _ _ hc2]; exact h2.1, fun k c hk => ?_⟩
          rw [WQ _ _ _ hc2] at hk
          rw [g2 k, Nat.add_zero, Array.length_toList, hsz]
          have hcsz := h2.1
          by_cases hkk : k < off ∨ off + t.cells.length ≤ k
          · rw [if_pos hkk] at hk
            rw [if_neg (by omega)]
            exact h2.2 k c hk
          · rw [if_neg hkk] at hk
            rw [if_pos (by omega), Array.getElem?_toList]
            exact hrl.2 _ c hk
        obtain ⟨cells', h5, h6⟩ := ih h1 hstep (by simpa using h3) (fun k i t hk => h4 (k + 1) i t (by simpa using hk))
        refine ⟨cells', ?_, h6⟩
        unfold Instr.fill
        simp only [hp]
        rw [if_neg (by simp [hsz, hc1]; have := h2.1; omega)]
        rw [← h5]
        congr 1
        rw [← Array.foldl_toList, Array.toList_zipIdx]
theorem Bf {rb : List QX} {parts : Array (Nat × Operand)} {st' : St} (hr : ZY E N cx st' a w) (ha : Agree ops o ⟨rb, []⟩ st st') (hm : ∀ x ∈ parts.toList, x.2 ∈ o.op.operands.toList) (hok : parts.toList.all (fun x => Zr x.2) = true) :
    ∀ (k i : Nat) (t : TV), (parts.toList.map fun x => (x.1, st.ev x.2))[k]? = some (i, t) → ∃ v, (parts.map fun (i, x) => (i, a.eval x)).toList[k]? = some (i, v) ∧ RT cx w st'.h t v := by
  intro k i t hk
  rw [List.getElem?_map, Option.map_eq_some_iff] at hk
  obtain ⟨⟨j, x⟩, hx, hxe⟩ := hk
  simp only [Prod.mk.injEq] at hxe
  obtain ⟨rfl, rfl⟩ := hxe
  have hmem := List.mem_of_getElem? hx
  refine ⟨a.eval x, by rw [Array.toList_map, List.getElem?_map, hx]; rfl, ?_⟩
  have h1 := hr.ev (x := x) (List.all_eq_true.1 hok _ hmem)
  rw [Ji ha (hm _ hmem)] at h1
  exact h1
theorem F0 {h : QX → Option Bk} {zs : List Value} {z : Value} (hz : z.cells.toList = zs) (hat : zs.all KE = true) : RL cx w h (zs.map fun v => .p (.v v)) z.cells := by
  subst hz
  refine ⟨by simp, fun i c hi => ?_⟩
  rw [List.getElem?_map, Option.map_eq_some_iff] at hi
  obtain ⟨v, hv, rfl⟩ := hi
  have hat' := List.all_eq_true.1 hat v (List.mem_of_getElem? hv)
  exact ⟨v, by simpa using hv, Jr hat', .v v hat'⟩
theorem Wh [T : Tb P] {parts : Array (Nat × Operand)} {t : Nat} {tt : TE} {fs pl : List (Nat × Nat)} {zs : List Value} {cs : List CV} (ht : ZA T.ty t = some tt := by exact rfl) (hk : tt.kd = .struct fs := by exact rfl) (hpl : IO T.ty fs = some pl := by exact rfl) (hz : tt.zero.cells.toList = zs := by exact rfl) (hat : zs.all KE = true := by exact rfl)
    (hf : E5 (fun i => pl[i]?) (zs.map fun v => .p (.v v)) (parts.toList.map fun x => (x.1, st.ev x.2)) = some cs := by exact rfl) (hok : parts.toList.all (fun x => Zr x.2) = true := by exact rfl) :
    KC E N P ops ⟨some d, .build t parts, ty, pos, af, gd⟩ st ⟨[], []⟩ ⟨.agg cs, []⟩ :=
  Zc fun st' cx a w ha hr => by
    obtain ⟨F, hu, hF⟩ := Gj ht hk
    obtain ⟨dd, i, h1, h2, h3, h4, h5, h6⟩ := Vs (T.ok _ _ ht)
    have hm : ∀ x ∈ parts.toList, x.2 ∈ (Op.build t parts).operands.toList := fun x hx => by
      simp only [Op.operands, Array.toList_map, List.mem_map]; exact ⟨x, hx, rfl⟩
    obtain ⟨cells', h7, h8⟩ := CN (cx := cx) (w := w) (h := st'.h) hf (F0 hz hat) (vs := (parts.map fun (i, x) => (i, a.eval x)).toList) (by simp) (Bf hr ha (fun x hx => hm x hx) hok)
    refine ⟨.agg cells', ?_, cells', rfl, h8⟩
    simp only [execOp, Sem.run_bind]
    rw [run_build w t _ cells' (by
      unfold Program.built
      rw [h2, hu]
      simp only [h6, Lx F.toList hpl hF]
      simpa using h7)]
    rfl
theorem HT [T : Tb P] {parts : Array (Nat × Operand)} {t n e : Nat} {tt te : TE} {zs : List Value} {cs : List CV} (ht : ZA T.ty t = some tt := by exact rfl) (hk : tt.kd = .array n e := by exact rfl) (hel : ZA T.ty e = some te := by exact rfl) (hz : tt.zero.cells.toList = zs := by exact rfl) (hat : zs.all KE = true := by exact rfl)
    (hf : E5 (fun i => some (i * te.size, te.size)) (zs.map fun v => .p (.v v)) (parts.toList.map fun x => (x.1, st.ev x.2)) = some cs := by exact rfl) (hok : parts.toList.all (fun x => Zr x.2) = true := by exact rfl) :
    KC E N P ops ⟨some d, .build t parts, ty, pos, af, gd⟩ st ⟨[], []⟩ ⟨.agg cs, []⟩ :=
  Zc fun st' cx a w ha hr => by
    have hu := Hy ht hk
    obtain ⟨dd, i, h1, h2, h3, h4, h5, h6⟩ := Vs (T.ok _ _ ht)
    obtain ⟨dd', i', h1', h2', h3', h4', h5', h6'⟩ := Vs (T.ok _ _ hel)
    have hm : ∀ x ∈ parts.toList, x.2 ∈ (Op.build t parts).operands.toList := fun x hx => by
      simp only [Op.operands, Array.toList_map, List.mem_map]; exact ⟨x, hx, rfl⟩
    obtain ⟨cells', h7, h8⟩ := CN (cx := cx) (w := w) (h := st'.h) hf (F0 hz hat) (vs := (parts.map fun (i, x) => (i, a.eval x)).toList) (by simp) (Bf hr ha (fun x hx => hm x hx) hok)
    refine ⟨.agg cells', ?_, cells', rfl, h8⟩
    simp only [execOp, Sem.run_bind]
    rw [run_build w t _ cells' (by
      unfold Program.built
      rw [h2, hu]
      simp only [h6, h2', h4']
      exact h7)]
    rfl
def pvs : List CV → Option (List PV)
  | [] => some []
  | .p x :: r => match pvs r with
    | some l => some (x :: l)
    | none => none
  | _ => none
def AH (e : Nat) : Nat → List PV → List (List PV)
  | 0, _ => []
  | n + 1, l => l.take e :: AH e n (l.drop e)
theorem IP : ∀ {cs : List CV} {ps : List PV}, pvs cs = some ps → cs = ps.map .p
  | [], ps, h => by simp only [pvs, Option.some.injEq] at h; subst h; rfl
  | .p x :: r, ps, h => by
    simp only [pvs] at h
    split at h
    · rename_i l hl
      cases h
      rw [IP hl]; rfl
    · cases h
  | .any :: r, ps, h => by cases h
  | .ptr _ _ _ :: r, ps, h => by cases h
  | .sl _ _ _ :: r, ps, h => by cases h
  | .ep _ _ :: r, ps, h => by cases h
theorem BX (e : Nat) : ∀ (n : Nat) (l : List PV), l.length = n * e → (AH e n l).length = n ∧ (∀ r ∈ AH e n l, r.length = e) ∧ ∀ (i : Nat) (r : List PV) (k : Nat) (p : PV), (AH e n l)[i]? = some r → r[k]? = some p → l[i * e + k]? = some p
  | 0, l, _ => ⟨rfl, by simp [AH], by simp [AH]⟩
  | n + 1, l, hl => by
    rw [Nat.succ_mul] at hl
    obtain ⟨h1, h2, h3⟩ := BX e n (l.drop e) (by rw [List.length_drop]; omega)
    refine ⟨by simp [AH, h1], fun r hr => ?_, fun i r k p hi hk => ?_⟩
    · rcases List.mem_cons.1 hr with rfl | hr
      · rw [List.length_take]; omega
      · exact h2 r hr
    · cases i with
      | zero =>
        simp only [AH, List.getElem?_cons_zero, Option.some.injEq] at hi
        subst hi
        rw [List.getElem?_take] at hk
        split at hk
        · rw [Nat.zero_mul, Nat.zero_add]; exact hk
        · cases hk
      | succ i =>
        simp only [AH, List.getElem?_cons_succ] at hi
        have := h3 i r k p hi hk
        rw [List.getElem?_drop] at this
        rw [Nat.succ_mul, show i * e + e + k = e + (i * e + k) by omega]; exact this
theorem Dq {pl : Nat → Option (Nat × Nat)} : ∀ {vs : List (Nat × Value)} {cells cells' : Array Value}, Instr.fill pl cells vs = some cells' → cells'.size = cells.size
  | [], cells, cells', h => by cases h; rfl
  | (i, v) :: vs, cells, cells', h => by
    unfold Instr.fill at h
    split at h
    · cases h
    · split at h
      · cases h
      · rw [Dq h, ← Array.foldl_toList, Array.toList_zipIdx]
        exact (Great.foldl_set _ _ _ _).1
theorem QF [T : Tb P] {parts : Array (Nat × Operand)} {t e n sz : Nat} {tt te : TE} {zs : List Value} {cs : List CV} {ps : List PV} {rows : List (List PV)} (ht : ZA T.ty t = some tt := by exact rfl) (hk : tt.kd = .slice e := by exact rfl) (hel : ZA T.ty e = some te := by exact rfl) (hsz : te.size = sz := by exact rfl) (hpos : Nat.blt 0 (n * sz) = true := by exact rfl) (hsm : Nat.ble (n * sz) 16777216 = true := by exact rfl)
    (hz : te.zero.cells.toList = zs := by exact rfl) (hat : zs.all KE = true := by exact rfl) (hf : E5 (fun i => some (i * sz, sz)) ((List.range (n * sz)).map fun i => .p (.v (zs.getD (i % zs.length) undef))) (parts.toList.map fun x => (x.1, st.ev x.2)) = some cs := by exact rfl) (hps : pvs cs = some ps := by exact rfl) (hrows : AH sz n ps = rows := by exact rfl)
    (hzl : zs.length = sz := by exact rfl) (hok : parts.toList.all (fun x => Zr x.2) = true := by exact rfl) :
    KC E N P ops ⟨some d, .buildSlice t n parts, ty, pos, af, gd⟩ st ⟨[], [(d, 0)]⟩ ⟨.c (.sl (d, 0) 0 n), [((d, 0), some (.row sz rows true))]⟩ := by
  intro st' ha hfr hd cx a w Q hr
  have hpos := Nat.le_of_ble_eq_true hpos
  have hsm := Nat.le_of_ble_eq_true hsm
  have hn0 : 0 < n := Nat.pos_of_ne_zero (fun h => by rw [h] at hpos; omega)
  have hsz0 : 0 < sz := Nat.pos_of_ne_zero (fun h => by rw [h] at hpos; omega)
  have hu := Kr ht hk
  obtain ⟨dd', i', h1', h2', h3', h4', h5', h6'⟩ := Vs (T.ok _ _ hel)
  have hm : ∀ x ∈ parts.toList, x.2 ∈ (Op.buildSlice t n parts).operands.toList := fun x hx => by
    simp only [Op.operands, Array.toList_map, List.mem_map]; exact ⟨x, hx, rfl⟩
  have hz0 : RL cx w st'.h ((List.range (n * sz)).map fun i => .p (.v (zs.getD (i % zs.length) undef))) ((Array.range (n * te.size)).map (te.zero.cells[· % te.zero.cells.size]!)) := by
    have hzs : te.zero.cells.size = sz := by rw [← hzl, ← hz]; simp
    refine ⟨by simp [hsz], fun i c hi => ?_⟩
    rw [List.getElem?_map, Option.map_eq_some_iff] at hi
    obtain ⟨j, hj, rfl⟩ := hi
    have hil : i < n * sz := by simpa using (List.getElem?_eq_some_iff.1 hj).1
    rw [List.getElem?_range hil] at hj
    cases hj
    have hmod : i % sz < sz := Nat.mod_lt _ hsz0
    have hat' : KE (zs.getD (i % zs.length) undef) = true := by
      rw [hzl, List.getD_eq_getElem?_getD, List.getElem?_eq_getElem (by omega)]
      exact List.all_eq_true.1 hat _ (List.getElem_mem _)
    refine ⟨zs.getD (i % zs.length) undef, ?_, Jr hat', .v _ hat'⟩
    rw [Array.getElem?_map, Array.getElem?_range, hsz, if_pos hil, Option.map_some, hzs, hzl]
    congr 1
    have hbd : i % sz < te.zero.cells.size := by rw [hzs]; exact hmod
    have hg : zs[i % sz]? = some (te.zero.cells[i % sz]'hbd) := by rw [← hz, Array.getElem?_toList, Array.getElem?_eq_getElem]
    rw [getElem!_pos te.zero.cells _ hbd, List.getD_eq_getElem?_getD, hg]
    rfl
  obtain ⟨cells', h7, h8⟩ := CN (cx := cx) (w := w) (h := st'.h) hf hz0 (vs := (parts.map fun (i, x) => (i, a.eval x)).toList) (by simp) (Bf hr ha (fun x hx => hm x hx) hok)
  have hcs := IP hps
  have hlen : cells'.size = n * sz := by
    rw [Dq h7]; simp [hsz]
  have hpl : ps.length = n * sz := by
    have := h8.1; rw [hcs, List.length_map] at this; omega
  obtain ⟨c1, c2, c3⟩ := BX sz n ps hpl
  rw [hrows] at c1 c2 c3
  have hrun := run_buildSlice (P := P) w t e n (parts.map fun (i, x) => (i, a.eval x)) cells' i' te.zero hu h2' h6' (by rw [h4', hsz]; omega) (by rw [h4', hsz]; omega) (by rw [h4', hsz]; rw [hsz] at h7; exact h7)
  refine Y8 (v := .slice (some ⟨w.heap.size, 0, none⟩) n n) (w' := w.alloc (.cells cells' e)) (by simp only [execOp, Sem.run_bind, hrun]; rfl) ⟨_, YW (w' := w.alloc (.cells cells' e)) (bk := .row sz rows true) (t := .c (.sl (d, 0) 0 n)) hr hd (b := (d, 0)) (hd d rfl) (hfr (d, 0) (by simp)) (ob := .cells cells' e) rfl rfl rfl rfl ?_ ?_⟩
  · refine ⟨hsz0, c2, ?_⟩
    simp only [Cx.upd, if_true]
    refine ⟨trivial, cells', e, (0, 0), n, VI rfl, fun _ => ⟨rfl, fun h => ?_⟩, (fun h => by cases h), hlen, by omega, by unfold maxLen; have := Nat.le_mul_of_pos_right n hsz0; omega, fun i r k p hi hk => ?_⟩
    · have := (hr.A _ h).1; omega
    · have hp := c3 i r k p hi hk
      obtain ⟨u, hu, h9, h10⟩ := h8.2 (i * sz + k) (.p p) (by rw [hcs, List.getElem?_map, hp]; rfl)
      exact ⟨u, by simpa using hu, RP.keeps h10 (fun _ h => h) (Xh rfl)⟩
  · refine ⟨.inr rfl, fun bk hbk => ?_⟩
    rw [Xg, if_pos rfl] at hbk
    cases hbk
    refine ⟨_, n, rfl, Nat.le_refl _, by unfold maxLen; have := Nat.le_mul_of_pos_right n hsz0; omega, by simp [Bk.len, c1], .inr ⟨w.heap.size, cells', e, (0, 0), by simp [Cx.upd], by simp [Bk.e], VI rfl, fun _ => by simp [Bk.e, hlen]⟩⟩
end
def gt : Bool → TV → TV
  | true, t => t
  | false, _ => .tup []
theorem Qa {g : Bool} {t : TV} (h : g = true) : gt g t = t := by subst h; rfl
theorem Q8 {b : Bool} : (b == true) = b := by cases b <;> rfl
theorem Q4 {b : Bool} : (b == false) = !b := by cases b <;> rfl
section
variable {E : En} {N : Nat} {P : Program} {T : Tb P} {ops : Array Oper} {o : Oper} {st : St} {r : List Oper} {acc : List (Fp × Ef)} {K : List (Fp × Ef) → St → Prop} {d : Nat} {ty : Nat} {pos : String} {af : Array Edge} {gd : Option (Nat × Bool)} {op : Op} {f : Fp} {t : TV} {fr : List (Nat × TV)} {H : List (QX × Option Bk)}
theorem QD {j dj : Nat} {want b g g0 : Bool} (hj : (ops[j]?).bind (·.dst) = some dj) (hb : (⟨fr, H⟩ : St).g dj = gt g0 (.c (.p (.v (.bool b))))) (hg : (g0 && (b == want)) = g) (hop : g = true → KC E N P ops ⟨some d, op, ty, pos, af, some (j, want)⟩ ⟨fr, H⟩ f ⟨t, []⟩)
    (h : Ua E N P ops r ((f, ⟨gt g t, []⟩) :: acc) ⟨(d, gt g t) :: fr, H⟩ K) : Ua E N P ops (⟨some d, op, ty, pos, af, some (j, want)⟩ :: r) acc ⟨fr, H⟩ K := by
  refine ⟨f, ⟨gt g t, []⟩, ?_, h⟩
  have hw : wn ops ⟨some d, op, ty, pos, af, some (j, want)⟩ ⟨fr, H⟩ = some g := by
    unfold wn
    simp only [hj, hb]
    subst hg
    cases g0
    · rfl
    · simp [gt]
  cases g with
  | true => exact .inl ⟨hw, hop rfl⟩
  | false => exact .inr ⟨hw, trivial, rfl⟩
theorem Q2 {j dj : Nat} {want b g : Bool} (hj : (ops[j]?).bind (·.dst) = some dj) (hb : (⟨fr, H⟩ : St).g dj = .c (.p (.v (.bool b)))) (hg : (b == want) = g) (hop : g = true → KC E N P ops ⟨some d, op, ty, pos, af, some (j, want)⟩ ⟨fr, H⟩ f ⟨t, []⟩)
    (h : Ua E N P ops r ((f, ⟨gt g t, []⟩) :: acc) ⟨(d, gt g t) :: fr, H⟩ K) : Ua E N P ops (⟨some d, op, ty, pos, af, some (j, want)⟩ :: r) acc ⟨fr, H⟩ K := QD (g0 := true) hj hb (by simpa using hg) hop h
theorem Ql {c x y : Operand} {b g : Bool} {v w : Value} {u : Value} (hv : st.ev c = .c (.p (.v (.bool b))) := by exact rfl) (hx : st.ev x = gt g (.c (.p (.v v))) := by exact rfl) (hg : (b == true) = g := by exact rfl) (hy : st.ev y = .c (.p (.v w)) := by exact rfl) (hu : (bif b then v else w) = u := by exact rfl) (hb : Zr c = true := by exact rfl) (h1 : Zr x = true := by exact rfl) (h2 : Zr y = true := by exact rfl) :
    KC E N P ops ⟨some d, .pick c x y, ty, pos, af, gd⟩ st ⟨[], []⟩ ⟨.c (.p (.v u)), []⟩ := by
  refine Hv hb h1 h2 hv ?_
  subst hg hu
  cases b
  · rw [if_neg (by simp)]; exact hy
  · rw [if_pos rfl]; exact hx
theorem Qm {c x y : Operand} {b g : Bool} {v w : Value} {u : Value} (hv : st.ev c = .c (.p (.v (.bool b))) := by exact rfl) (hx : st.ev x = .c (.p (.v v)) := by exact rfl) (hg : (b == false) = g := by exact rfl) (hy : st.ev y = gt g (.c (.p (.v w))) := by exact rfl) (hu : (bif b then v else w) = u := by exact rfl) (hb : Zr c = true := by exact rfl) (h1 : Zr x = true := by exact rfl) (h2 : Zr y = true := by exact rfl) :
    KC E N P ops ⟨some d, .pick c x y, ty, pos, af, gd⟩ st ⟨[], []⟩ ⟨.c (.p (.v u)), []⟩ := by
  refine Hv hb h1 h2 hv ?_
  subst hg hu
  cases b
  · rw [if_neg (by simp)]; exact hy
  · rw [if_pos rfl]; exact hx
theorem Qw {b x y : Bool} : (bif b then Value.bool x else Value.bool y) = .bool (bif b then x else y) := by cases b <;> rfl
end
def QC (st st' : St) : Prop := ∀ (E : En) (N : Nat) (cx : Cx) (a : Act) (w : World), ZY E N cx st a w → ∃ cx', ZY E N cx' st' a w
def jn {α : Type} (k : α → Prop) (m : (α → Prop) → Prop) : Prop := m k
def lp {σ : Type} (step : (σ → Prop) → σ → Prop) (s : σ) : Prop := ∀ X : σ → Prop, (∀ s, step X s → X s) → X s
def ix {α : Type} (l : List α) (n : Int) (x : α) : Prop := 0 ≤ n ∧ l[n.toNat]? = some x
def GP (P : Program) (c : Code) (Q : Exit → Act → World → Prop) (a : Act) (w : World) : Prop :=
  ∀ (b : Frame) (kk : List Item) (cs : List Frame), ∃ e a' w', Q e a' w' ∧ Arrives P (lone (b.at a (.code c :: .inLoop c :: kk)) cs w) b kk cs e a' w'
theorem IQ {P : Program} {c : Code} {Q : Exit → Act → World → Prop} {a : Act} {w : World} (h : GP P c Q a w) : (Code.loop c).wp P Q a w := by
  intro b kk cs
  obtain ⟨e, a', w', hq, harr⟩ := h b kk cs
  exact ⟨e, a', w', hq, .of_steps (.one step_loop) harr⟩
theorem MX {P : Program} {c : Code} {Q : Exit → Act → World → Prop} {a : Act} {w : World} (h : c.wp P (Exit.then (GP P c Q) Q) a w) : GP P c Q a w := by
  intro b kk cs
  obtain ⟨e, a₁, w₁, hq, harr⟩ := h b (.inLoop c :: kk) cs
  cases e with
  | normal =>
    obtain ⟨e₂, a₂, w₂, hq₂, harr₂⟩ := hq b kk cs
    exact ⟨e₂, a₂, w₂, hq₂, .of_steps (Steps.trans harr (.one step_inLoop)) harr₂⟩
  | exit id => exact ⟨_, a₁, w₁, hq, .pass (x := .inLoop c) rfl (fun _ _ => .inl (by simp)) harr⟩
  | goto l => exact ⟨_, a₁, w₁, hq, .pass (x := .inLoop c) rfl (fun _ _ => .inl (by simp)) harr⟩
  | ret => exact ⟨_, a₁, w₁, hq, .pass (x := .inLoop c) rfl (fun _ _ => .inl (by simp)) harr⟩
  | panic ch => exact ⟨_, a₁, w₁, hq, .pass (x := .inLoop c) rfl (fun _ _ => .inl (by simp)) harr⟩
  | outgrown => exact ⟨_, a₁, w₁, hq, .pass (x := .inLoop c) rfl (fun _ _ => .inl (by simp)) harr⟩
section
variable {E : En} {N : Nat} {P : Program} {T : Tb P} {Q : Exit → St → Prop} {st st' st2 : St}
theorem QC.refl (st : St) : QC st st := fun _ _ cx _ _ h => ⟨cx, h⟩
theorem QC.trans (h : QC st st') (h2 : QC st' st2) : QC st st2 := fun E N cx a w hr => let ⟨cx', hr'⟩ := h E N cx a w hr; h2 E N cx' a w hr'
theorem QC.nm (ks : List Nat) (σ : List (QX × QX)) (h1 : okS σ = true := by exact rfl) (h : st.norm ks σ = st' := by exact rfl) : QC st st' := fun E N cx a w hr => by subst h; exact hr.norm h1
theorem QQ {c : Code} (h : QC st st') (h2 : AW E N P c Q st') : AW E N P c Q st := fun cx a w hr => let ⟨cx', hr'⟩ := h E N cx a w hr; h2 cx' a w hr'
def AL (E : En) (N : Nat) (P : Program) (c : Code) (Q : Exit → St → Prop) (st : St) : Prop :=
  ∀ cx a w, ZY E N cx st a w → GP P c (fun e a' w' => ∃ st' cx', Q e st' ∧ ZY E N cx' st' a' w') a w
theorem MY {c : Code} (h : AL E N P c Q st) : AW E N P (.loop c) Q st := fun cx a w hr => IQ (h cx a w hr)
theorem MZ {c : Code} (h : AW E N P c (Gn Q (AL E N P c Q)) st) : AL E N P c Q st := by
  intro cx a w hr
  refine MX (wp_mono (h cx a w hr) ?_)
  rintro e a' w' ⟨st', cx', h1, h2⟩
  cases e with
  | normal => exact h1 cx' a' w' h2
  | _ => exact ⟨st', cx', h1, h2⟩
theorem Pk {c : Code} (h : QC st st') (h2 : AL E N P c Q st') : AL E N P c Q st := fun cx a w hr => let ⟨cx', hr'⟩ := h E N cx a w hr; h2 cx' a w hr'
theorem Zn {σ : Type} {c : Code} {step : (σ → Prop) → σ → Prop} {s0 : σ} (S : σ → St) (h : lp step s0) (hs : QC st (S s0))
    (hb : ∀ (X : σ → Prop) (L : St → Prop), (∀ p st, X p → QC st (S p) → L st) → ∀ s, step X s → AW E N P c (Gn Q L) (S s)) : AW E N P (.loop c) Q st :=
  MY (h (fun s => ∀ st, QC st (S s) → AL E N P c Q st) (fun s hstep st hst => Pk hst (MZ (hb _ _ (fun p st hp hst => hp st hst) s hstep))) st hs)
theorem Z2 {α : Type} {x y : Code} {k : α → Prop} {m : (α → Prop) → Prop} (S : α → St) (h : jn k m) (hk : ∀ p, k p → AW E N P y Q (S p))
    (hm : ∀ (J : α → Prop) (L : St → Prop), (∀ p st, J p → QC st (S p) → L st) → m J → AW E N P x (Gn Q L) st) : AW E N P (.seq x y) Q st :=
  GJ (hm k _ (fun p st hp hst => QQ hst (hk p hp)) h)
theorem Z3 {c : Code} {Q0 : Exit → St → Prop} (h : ∀ Q : Exit → St → Prop, (∀ e st, Q0 e st → Q e st) → AW E N P c Q st) : AW E N P c Q0 st := h _ fun _ _ h => h
end
theorem BY (b b' : QX) (x : Option Bk) (fr : List (Nat × TV)) (H : List (QX × Option Bk)) : (⟨fr, (b, x) :: H⟩ : St).h b' = if b' = b then x else (⟨fr, H⟩ : St).h b' := by
  show (U8 ((b, x) :: H) b').getD none = _
  simp only [U8]
  by_cases h : b' = b
  · subst h; rw [K3.2 rfl, if_pos rfl]; rfl
  · have : XU b b' = false := by
      cases hb : XU b b' with
      | false => rfl
      | true => exact absurd (K3.1 hb).symm h
    rw [this, if_neg h]; rfl
theorem IR (s s' : Nat) (t : TV) (fr : List (Nat × TV)) (H : List (QX × Option Bk)) : (⟨(s, t) :: fr, H⟩ : St).g s' = if s' = s then t else (⟨fr, H⟩ : St).g s' := by
  show (ZA ((s, t) :: fr) s').getD (.c .any) = _
  simp only [ZA]
  by_cases h : s' = s
  · subst h; simp
  · have : Nat.beq s s' = false := by
      cases hb : Nat.beq s s' with
      | false => rfl
      | true => exact absurd (Nat.eq_of_beq_eq_true hb).symm h
    rw [this, if_neg h]; rfl
section
variable {E : En} {N : Nat} {P : Program} {T : Tb P} {Q : Exit → St → Prop} {st st' st2 : St} {cx : Cx} {a : Act} {w : World} {fr : List (Nat × TV)} {H : List (QX × Option Bk)}
theorem QC.blk (b : QX) (e : Nat) (he : Nat.blt 0 e = true := by exact rfl) (hb0 : Nat.blt b.1 65536 = true := by exact rfl) (hf : YX b ⟨fr, H⟩ = true := by exact rfl) : QC ⟨fr, H⟩ ⟨fr, (b, some (.row e [] true)) :: H⟩ := by
  intro E N cx a w hr
  have hf := Wg hf
  have hh := BY b (x := some (.row e [] true)) (fr := fr) (H := H)
  have hcmp : ∀ b', b' ≠ b → IA cx w (⟨fr, H⟩ : St).h (cx.upd b none) w (⟨fr, (b, some (.row e [] true)) :: H⟩ : St).h b' := by
    intro b' hne bk' hb
    rw [hh, if_neg hne] at hb
    exact ⟨bk', hb, rfl, Nat.le_refl _, by simp [Cx.upd, hne], fun g o c el fz _ h => ⟨c, el, fz, h, fun _ => rfl⟩⟩
  have hk : Ja cx.A w w := Ja.refl _ _
  refine ⟨cx.upd b none, hr.defers, hr.size, fun s' => ?_, fun b' bk hb => ?_, fun b1 b2 g o g' o' h1 h2 h3 h4 hne => ?_, fun b1 g o h1 h2 => ?_, hr.A, hr.A0, hr.kept, hr.sz, hr.os, hr.tape, hr.output, hr.hN, fun c hc => (Ez (Nat.le_of_ble_eq_true hb0) c hc).trans (hr.pin c hc)⟩
  · refine RT.tr (cx := cx) (fun _ h => h) hk (fun b' hb' => hcmp b' ?_) (hr.fr s')
    rintro rfl
    exact hf.2.1 s' hb'
  · rw [hh] at hb
    by_cases h : b' = b
    · rw [if_pos h] at hb
      cases hb
      subst h
      exact ⟨Nat.le_of_ble_eq_true he, by simp, by simp [Cx.upd]⟩
    · rw [if_neg h] at hb
      refine RB.tr (cx := cx) (fun _ h => h) hk (fun b2 hb2 => hcmp b2 ?_) (by simp [Cx.upd, h]) (fun g o _ => ⟨rfl, fun h => h⟩) (hr.bl b' bk hb)
      rintro rfl
      exact hf.2.2 b' bk hb hb2
  · rw [hh] at h1 h2
    simp only [Cx.upd] at h3 h4
    by_cases e1 : b1 = b
    · rw [if_pos e1] at h3; cases h3
    · by_cases e2 : b2 = b
      · rw [if_pos e2] at h4; cases h4
      · rw [if_neg e1] at h1 h3; rw [if_neg e2] at h2 h4
        exact hr.inj b1 b2 g o g' o' h1 h2 h3 h4 hne
  · rw [hh] at h1
    simp only [Cx.upd] at h2
    by_cases e1 : b1 = b
    · rw [if_pos e1] at h2; cases h2
    · rw [if_neg e1] at h1 h2
      exact hr.own b1 g o h1 h2
theorem ZY.frz {b : QX} {e : Nat} {rows : List (List PV)} {mu : Bool} (hb : st.h b = some (.row e rows mu)) (hr : ZY E N cx st a w) : ∃ cx', (∀ x, cx.A x → cx'.A x) ∧ cx'.ι = cx.ι ∧ ZY E N cx' ⟨st.fr, (b, some (.row e rows false)) :: st.H⟩ a w := by
  have hh := BY b (x := some (.row e rows false)) (fr := st.fr) (H := st.H)
  let cx' : Cx := ⟨cx.ι, fun x => cx.A x ∨ ∃ q, cx.ι b = some (x, q)⟩
  have hA : ∀ x, cx.A x → cx'.A x := fun x h => .inl h
  have hk : Ja cx.A w w := Ja.refl _ _
  have hcmp : ∀ b', IA cx w st.h cx' w (⟨st.fr, (b, some (.row e rows false)) :: st.H⟩ : St).h b' := by
    intro b' bk' hb'
    rw [hh] at hb'
    by_cases h : b' = b
    · rw [if_pos h] at hb'
      cases hb'
      subst h
      exact ⟨_, hb, rfl, Nat.le_refl _, rfl, fun g o c el fz _ h => ⟨c, el, fz, h, fun _ => rfl⟩⟩
    · rw [if_neg h] at hb'
      exact ⟨bk', hb', rfl, Nat.le_refl _, rfl, fun g o c el fz _ h => ⟨c, el, fz, h, fun _ => rfl⟩⟩
  have hlive : ∀ b', (⟨st.fr, (b, some (.row e rows false)) :: st.H⟩ : St).h b' ≠ none → st.h b' ≠ none := by
    intro b' h1
    rw [hh] at h1
    by_cases h : b' = b
    · rw [h, hb]; simp
    · rwa [if_neg h] at h1
  refine ⟨cx', hA, rfl, hr.defers, hr.size, fun s' => ?_, fun b' bk hb' => ?_, fun b1 b2 g o g' o' h1 h2 h3 h4 hne => ?_, fun b1 g o h1 h2 => ?_, fun g hg => ?_, fun g hg => hA g (hr.A0 g hg), hr.kept, hr.sz, hr.os, hr.tape, hr.output, hr.hN, hr.pin⟩
  · exact RT.tr (cx := cx) hA hk (fun b' _ => hcmp b') (hr.fr s')
  · rw [hh] at hb'
    by_cases h : b' = b
    · rw [if_pos h] at hb'
      cases hb'
      subst h
      obtain ⟨h1, h2, h3⟩ := hr.bl b' _ hb
      refine ⟨h1, h2, ?_⟩
      revert h3
      show (match cx.ι b' with | none => _ | some (g, o) => _) → (match cx.ι b' with | none => _ | some (g, o) => _)
      cases hι : cx.ι b' with
      | none => exact fun h => h
      | some x =>
        obtain ⟨g, o⟩ := x
        rintro ⟨h3, c, el, fz, capR, h4, h5, h6, h7, h8, h9, h10⟩
        exact ⟨h3, c, el, fz, capR, h4, (fun h => by cases h), fun _ => .inr ⟨o, hι⟩, h7, h8, h9, fun i r k p hi hk' => let ⟨cv, hc, hp⟩ := h10 i r k p hi hk'; ⟨cv, hc, hp.mono hA (Nat.le_refl _) (fun _ _ _ => rfl)⟩⟩
    · rw [if_neg h] at hb'
      refine RB.tr (cx := cx) hA hk (fun b2 _ => hcmp b2) rfl (fun g o hg => ⟨rfl, fun hn hA' => ?_⟩) (hr.bl b' bk hb')
      rcases hA' with hA' | ⟨q, hq⟩
      · exact hn hA'
      · exact hr.inj b' b g o g q (by rw [hb']; simp) (by rw [hb]; simp) hg hq h rfl
  · exact hr.inj b1 b2 g o g' o' (hlive b1 h1) (hlive b2 h2) h3 h4 hne
  · exact hr.own b1 g o (hlive b1 h1) h2
  · rcases hg with hg | ⟨q, hq⟩
    · exact hr.A g hg
    · obtain ⟨h1, h2⟩ := hr.own b g q (by rw [hb]; simp) hq
      exact ⟨h1, h2.elim (fun h => .inr (.inl h)) (fun h => .inr (.inr h))⟩
theorem QC.frz (b : QX) {e : Nat} {rows : List (List PV)} {mu : Bool} (hb : (⟨fr, H⟩ : St).h b = some (.row e rows mu) := by exact rfl) : QC ⟨fr, H⟩ ⟨fr, (b, some (.row e rows false)) :: H⟩ := fun E N cx a w hr =>
  let ⟨cx', _, _, h⟩ := hr.frz hb; ⟨cx', h⟩
inductive Ct (st : St) : CV → CV → Prop
  | k (c : CV) : Ct st c c
  | any (c : CV) : Ct st c .any
  | nil (e : Nat) : Ct st (.p (.v (.slice none 0 0))) (.p (.l e []))
  | nilo {b : QX} {bk : Bk} (hb : st.h b = some bk) : Ct st (.p (.v (.slice none 0 0))) (.sl b 0 0)
  | n {b : QX} {off n n' : Nat} (h : n = n') : Ct st (.sl b off n) (.sl b off n')
  | fr {b : QX} {e off n : Nat} {rows rows' : List (List PV)} (hb : st.h b = some (.row e rows false)) (hr : (rows.drop off).take n = rows') : Ct st (.sl b off n) (.p (.l e rows'))
theorem N0 {c c' : CV} {v : Value} (hr : ZY E N cx st a w) (h : Ct st c c') (hc : RC cx w st.h c v) : RC cx w st.h c' v := by
  cases h with
  | k => exact hc
  | any => trivial
  | nil e => cases hc with | v _ _ => exact MM e
  | n h => subst h; exact hc
  | nilo hb =>
    cases hc with
    | v _ _ =>
      intro bk hbk
      exact ⟨none, 0, rfl, Nat.le_refl _, Nat.zero_le _, Nat.zero_le _, .inl rfl⟩
  | @fr b e off n rows rows' hb hr' =>
    have hA : ∀ b' ∈ [b], ∀ g q, cx.ι b' = some (g, q) → cx.A g := by
      intro b' hb' g q hg
      rw [List.mem_singleton.1 hb'] at hg
      obtain ⟨_, _, h3⟩ := hr.bl b _ hb
      rw [hg] at h3
      obtain ⟨_, c, el, fz, capR, _, _, h6, _⟩ := h3
      exact h6 rfl
    exact GL (x := .p (.l e rows')) (o := none) hr (.fr hb hr') hc (fun _ h => h) hA (fun b h => by cases h)
inductive Mf (st : St) : List CV → List CV → Prop
  | nil : Mf st [] []
  | cons {c c' : CV} {cs cs' : List CV} (h : Ct st c c') (hs : Mf st cs cs') : Mf st (c :: cs) (c' :: cs')
theorem Mf.k (cs : List CV) : Mf st cs cs := by
  induction cs with
  | nil => exact .nil
  | cons c cs ih => exact .cons (.k c) ih
theorem Mf.at {cs cs' : List CV} (h : Mf st cs cs') : cs'.length = cs.length ∧ ∀ (k : Nat) (c' : CV), cs'[k]? = some c' → ∃ c, cs[k]? = some c ∧ Ct st c c' := by
  induction h with
  | nil => exact ⟨rfl, fun k c' h => by simp at h⟩
  | cons h hs ih =>
    refine ⟨by simp [ih.1], fun k c' hk => ?_⟩
    cases k with
    | zero => rw [List.getElem?_cons_zero] at hk; cases hk; exact ⟨_, rfl, h⟩
    | succ k => rw [List.getElem?_cons_succ] at hk; obtain ⟨c, h1, h2⟩ := ih.2 k c' hk; exact ⟨c, by rw [List.getElem?_cons_succ]; exact h1, h2⟩
theorem Pl {cs cs' : List CV} {vs : Array Value} (hr : ZY E N cx st a w) (h : Mf st cs cs') (hc : RL cx w st.h cs vs) : RL cx w st.h cs' vs := by
  obtain ⟨h1, h2⟩ := h.at
  refine ⟨by rw [h1]; exact hc.1, fun i c hi => ?_⟩
  obtain ⟨c0, h3, h4⟩ := h2 i c hi
  obtain ⟨u, hu, h5, h6⟩ := hc.2 i c0 h3
  exact ⟨u, hu, h5, N0 hr h4 h6⟩
theorem ZY.re (hr : ZY E N cx st a w) {s : Nat} {t : TV} (ht : RT cx w st.h t (a.tmps.getD s undef)) : ZY E N cx ⟨(s, t) :: st.fr, st.H⟩ a w := by
  refine ⟨hr.defers, hr.size, fun s' => ?_, hr.bl, hr.inj, hr.own, hr.A, hr.A0, hr.kept, hr.sz, hr.os, hr.tape, hr.output, hr.hN, hr.pin⟩
  rw [IR]
  by_cases h : s' = s
  · rw [if_pos h, h]; exact ht
  · rw [if_neg h]; exact hr.fr s'
theorem QC.slot (s : Nat) {c c' : CV} (hs : (⟨fr, H⟩ : St).g s = .c c := by exact rfl) (hc : Ct ⟨fr, H⟩ c c') : QC ⟨fr, H⟩ ⟨(s, .c c') :: fr, H⟩ := by
  intro E N cx a w hr
  refine ⟨cx, hr.re ?_⟩
  have := hr.fr s
  rw [hs] at this
  refine ⟨?_, N0 hr hc this.2⟩
  rcases this.1 with h | h
  · subst h; cases hc <;> exact .inl rfl
  · exact .inr h
theorem QC.cells (b : QX) {cs cs' : List CV} (hb : (⟨fr, H⟩ : St).h b = some (.box cs) := by exact rfl) (hc : Mf ⟨fr, H⟩ cs cs') : QC ⟨fr, H⟩ ⟨fr, (b, some (.box cs')) :: H⟩ := by
  intro E N cx a w hr
  have hh := BY b (x := some (.box cs')) (fr := fr) (H := H)
  obtain ⟨hl, hat⟩ := hc.at
  have hcmp : ∀ b', IA cx w (⟨fr, H⟩ : St).h cx w (⟨fr, (b, some (.box cs')) :: H⟩ : St).h b' := by
    intro b' bk' hb'
    rw [hh] at hb'
    by_cases h : b' = b
    · rw [if_pos h] at hb'
      cases hb'
      subst h
      exact ⟨_, hb, rfl, Nat.le_refl _, rfl, fun g o c el fz _ h => ⟨c, el, fz, h, fun _ => rfl⟩⟩
    · rw [if_neg h] at hb'
      exact ⟨bk', hb', rfl, Nat.le_refl _, rfl, fun g o c el fz _ h => ⟨c, el, fz, h, fun _ => rfl⟩⟩
  have hk : Ja cx.A w w := Ja.refl _ _
  have hlive : ∀ b', (⟨fr, (b, some (.box cs')) :: H⟩ : St).h b' ≠ none → (⟨fr, H⟩ : St).h b' ≠ none := by
    intro b' h1
    rw [hh] at h1
    by_cases h : b' = b
    · rw [h, hb]; simp
    · rwa [if_neg h] at h1
  refine ⟨cx, hr.defers, hr.size, fun s' => ?_, fun b' bk hb' => ?_, fun b1 b2 g o g' o' h1 h2 h3 h4 hne => ?_, fun b1 g o h1 h2 => ?_, hr.A, hr.A0, hr.kept, hr.sz, hr.os, hr.tape, hr.output, hr.hN, hr.pin⟩
  · exact RT.tr (cx := cx) (fun _ h => h) hk (fun b' _ => hcmp b') (hr.fr s')
  · rw [hh] at hb'
    by_cases h : b' = b
    · rw [if_pos h] at hb'
      cases hb'
      subst h
      obtain ⟨g, o, c, el, h1, h2, h3, h4, h5⟩ := hr.bl b' _ hb
      refine ⟨g, o, c, el, h1, h2, h3, by rw [hl]; exact h4, fun k x hx => ?_⟩
      obtain ⟨x0, h6, h7⟩ := hat k x hx
      obtain ⟨cv, h8, h9, h10⟩ := h5 k x0 h6
      exact ⟨cv, h8, h9, RC.tr (cx := cx) (fun _ h => h) hk (fun b' _ => hcmp b') (N0 hr h7 h10)⟩
    · rw [if_neg h] at hb'
      exact RB.tr (cx := cx) (fun _ h => h) hk (fun b2 _ => hcmp b2) rfl (fun g o _ => ⟨rfl, fun h => h⟩) (hr.bl b' bk hb')
  · exact hr.inj b1 b2 g o g' o' (hlive b1 h1) (hlive b2 h2) h3 h4 hne
  · exact hr.own b1 g o (hlive b1 h1) h2
theorem ZB {ops : Array Oper} {o : Oper} {rb al : List QX} {t : TV} {bl : List (QX × Option Bk)} {b : QX} {e : Nat} {rows : List (List PV)} {mu : Bool} (hb : (⟨fr, H⟩ : St).h b = some (.row e rows mu) := by exact rfl) (hal : Ht al [b] = true := by exact rfl)
    (h : KC E N P ops o ⟨fr, (b, some (.row e rows false)) :: H⟩ ⟨rb, al⟩ ⟨t, bl⟩) : KC E N P ops o ⟨fr, H⟩ ⟨b :: rb, al⟩ ⟨t, bl ++ [(b, some (.row e rows false))]⟩ := by
  intro st' ha hf hd cx a w Q hr
  have hb' : st'.h b = some (.row e rows mu) := by rw [ha.2 b (by simp)]; exact hb
  obtain ⟨cx', hA, hι, hr'⟩ := hr.frz hb'
  have hh := BY b (x := some (.row e rows false)) (fr := st'.fr) (H := st'.H)
  refine Oper.wp_mono (fun a' w' ⟨cx2, h2⟩ => ⟨cx2, ?_⟩) (h ⟨st'.fr, (b, some (.row e rows false)) :: st'.H⟩ ⟨ha.1, fun b' hb2 => ?_⟩ (fun b' hb2 => ?_) hd cx' a w Q hr')
  · rw [hh, BY]
    by_cases hbb : b' = b
    · rw [if_pos hbb, if_pos hbb]
    · rw [if_neg hbb, if_neg hbb]; exact ha.2 b' (List.mem_cons_of_mem _ hb2)
  · obtain ⟨h1, h2, h3⟩ := hf b' hb2
    have hne : b' ≠ b := by have := YU hal b' hb2; simpa using this
    refine ⟨by rw [hh, if_neg hne]; exact h1, h2, fun b2 bk hbk => ?_⟩
    rw [hh] at hbk
    by_cases h4 : b2 = b
    · rw [if_pos h4] at hbk; cases hbk; simp [Bk.ment]
    · rw [if_neg h4] at hbk; exact h3 b2 bk hbk
  · have e1 : (Ef.ap ⟨t, bl ++ [(b, some (.row e rows false))]⟩ o st') = Ef.ap ⟨t, bl⟩ o ⟨st'.fr, (b, some (.row e rows false)) :: st'.H⟩ := by
      unfold Ef.ap; simp
    rw [e1]; exact h2
end
def eI (k : IntKind) (n : Int) : List PV := [.v (.int k n)]
def eS (s : ByteArray) : List PV := [.v (.string s)]
def bx (s : ByteArray) (n v : Int) : Prop := 0 ≤ n ∧ ∃ b : UInt8, s[n.toNat]? = some b ∧ v = (b.toNat : Int)
def bOr (k : IntKind) (a b : Int) : Int := k.wrap (BitVec.ofInt k.bits a ||| BitVec.ofInt k.bits b).toNat
def Zg (k : IntKind) (a b : Int) : Int := k.wrap (BitVec.ofInt k.bits a &&& BitVec.ofInt k.bits b).toNat
def F1 (k : IntKind) (a b : Int) : Int := k.wrap (BitVec.ofInt k.bits a ^^^ BitVec.ofInt k.bits b).toNat
def Oi (k : IntKind) (a b : Int) : Int := k.wrap (BitVec.ofInt k.bits a &&& ~~~ BitVec.ofInt k.bits b).toNat
def Wi (k : IntKind) (a b : Int) : Int := k.wrap (a * 2 ^ (min b.toNat k.bits))
def QT (k : IntKind) (a b : Int) : Int := a.fdiv (2 ^ (min b.toNat k.bits))
def XW (a b : Int) : Int := if b < a then b else a
def CO (a b : Int) : Int := if b > a then b else a
def eqV : Value → Value → Bool
  | .int _ a, .int _ b => a == b
  | .bool a, .bool b => a == b
  | .string a, .string b => a.toList == b.toList
  | _, _ => false
def IS : List Value → List Value → Bool
  | [], [] => true
  | a :: l, b :: m => eqV a b && IS l m
  | _, _ => false
section
variable {α : Type} {f : α → List PV} {L L' : List α} {E : En} {N : Nat} {P : Program} {T : Tb P} {ops : Array Oper} {o : Oper} {st : St} {d : Nat} {ty : Nat} {pos : String} {af : Array Edge} {gd : Option (Nat × Bool)} {cx : Cx} {a : Act} {w w' : World}
theorem tn {n : Int} (h : 0 ≤ n) : n = (n.toNat : Int) := (Int.toNat_of_nonneg h).symm
theorem QB [T : Tb P] {x y : Operand} {t el e : Nat} {k : IntKind} {n : Int} {v : α} {tt te : TE} (hv : ix L n v) (h1 : st.ev x = .c (.p (.l e (L.map f))) := by exact rfl) (h2 : st.ev y = .c (.p (.v (.int k n))) := by exact rfl) (ht : ZA T.ty t = some tt := by exact rfl) (hk : tt.kd = .slice el := by exact rfl) (hel : ZA T.ty el = some te := by exact rfl) (he : te.size = e := by exact rfl) (hx : Zr x = true := by exact rfl) (hy : Zr y = true := by exact rfl) :
    KC E N P ops ⟨some d, .indexAddr t x y, ty, pos, af, gd⟩ st ⟨[], []⟩ ⟨.c (.ep (f v) 0), []⟩ := Hz h1 h2 (tn hv.1) (gm hv.2) ht hk hel he hx hy
theorem QV [T : Tb P] {x y : Operand} {t el e m : Nat} {b : QX} {mu : Bool} {k : IntKind} {n : Int} {v : α} {tt te : TE} (hv : ix L n v) (h1 : st.ev x = .c (.sl b 0 m) := by exact rfl) (hb : st.h b = some (.row e (L.map f) mu) := by exact rfl) (hm : (L.map f).length = m := by exact rfl) (h2 : st.ev y = .c (.p (.v (.int k n))) := by exact rfl) (ht : ZA T.ty t = some tt := by exact rfl) (hk : tt.kd = .slice el := by exact rfl) (hel : ZA T.ty el = some te := by exact rfl) (he : te.size = e := by exact rfl) (hx : Zr x = true := by exact rfl) (hy : Zr y = true := by exact rfl) :
    KC E N P ops ⟨some d, .indexAddr t x y, ty, pos, af, gd⟩ st ⟨[b], []⟩ ⟨.c (.ptr b n.toNat 0), []⟩ :=
  GG h1 hb h2 (tn hv.1) (by rw [← hm, List.length_map]; exact (List.getElem?_eq_some_iff.1 hv.2).1) ht hk hel he (Nat.zero_add _) hx hy
theorem Vr [T : Tb P] {x y : Operand} {t : Nat} {s : ByteArray} {k : IntKind} {n v : Int} {tt : TE} (hv : bx s n v) (h1 : st.ev x = .c (.p (.v (.string s))) := by exact rfl) (h2 : st.ev y = .c (.p (.v (.int k n))) := by exact rfl) (ht : ZA T.ty t = some tt := by exact rfl) (hk : tt.kd = .string := by exact rfl) (hx : Zr x = true := by exact rfl) (hy : Zr y = true := by exact rfl) :
    KC E N P ops ⟨some d, .index t x y, ty, pos, af, gd⟩ st ⟨[], []⟩ ⟨.c (.p (.v (.int .u8 v))), []⟩ := by
  obtain ⟨h0, b, hb, rfl⟩ := hv
  exact FE h1 h2 (tn h0) hb ht hk hx hy
theorem QA [T : Tb P] {x : Operand} {t e : TypeId} {tt : TE} {k : Nat} (h1 : st.ev x = .c (.p (.l k (L.map f))) := by exact rfl) (ht : ZA T.ty t = some tt := by exact rfl) (hk : tt.kd = .slice e := by exact rfl) (hx : Zr x = true := by exact rfl) :
    KC E N P ops ⟨some d, .call { callee := .builtin .len, args := #[x], argTypes := #[t] }, ty, pos, af, gd⟩ st ⟨[], []⟩ ⟨.c (.p (.v (.int .i64 (L.length : Int)))), []⟩ := by
  have := M1 (E := E) (N := N) (ops := ops) (d := d) (ty := ty) (pos := pos) (af := af) (gd := gd) h1 ht hk hx
  rwa [List.length_map] at this
theorem ZN [T : Tb P] {x : Operand} {t e e' : TypeId} {tt : TE} {b : QX} {m : Nat} {mu : Bool} (h1 : st.ev x = .c (.sl b 0 m) := by exact rfl) (hb : st.h b = some (.row e' (L.map f) mu) := by exact rfl) (hm : (L.map f).length = m := by exact rfl) (ht : ZA T.ty t = some tt := by exact rfl) (hk : tt.kd = .slice e := by exact rfl) (hx : Zr x = true := by exact rfl) :
    KC E N P ops ⟨some d, .call { callee := .builtin .len, args := #[x], argTypes := #[t] }, ty, pos, af, gd⟩ st ⟨[b], []⟩ ⟨.c (.p (.v (.int .i64 (L.length : Int)))), []⟩ := by
  have := ID (E := E) (N := N) (ops := ops) (d := d) (ty := ty) (pos := pos) (af := af) (gd := gd) h1 (by rw [hb]; rfl) ht hk hx
  rwa [← hm, List.length_map] at this
theorem HU {xt yt : TypeId} {x y : Operand} {k k' : IntKind} {a b : Int} (hb : 0 ≤ b) (h1 : st.ev x = .c (.p (.v (.int k a))) := by exact rfl) (h2 : st.ev y = .c (.p (.v (.int k' b))) := by exact rfl) (hx : Zr x = true := by exact rfl) (hy : Zr y = true := by exact rfl) :
    KC E N P ops ⟨some d, .binOp .shl xt x y yt, ty, pos, af, gd⟩ st ⟨[], []⟩ ⟨.c (.p (.v (.int k (Wi k a b)))), []⟩ := O2 h1 h2 hb rfl hx hy
theorem F2 {xt yt : TypeId} {x y : Operand} {k k' : IntKind} {a b : Int} (hb : 0 ≤ b) (h1 : st.ev x = .c (.p (.v (.int k a))) := by exact rfl) (h2 : st.ev y = .c (.p (.v (.int k' b))) := by exact rfl) (hx : Zr x = true := by exact rfl) (hy : Zr y = true := by exact rfl) :
    KC E N P ops ⟨some d, .binOp .shr xt x y yt, ty, pos, af, gd⟩ st ⟨[], []⟩ ⟨.c (.p (.v (.int k (QT k a b)))), []⟩ := O3 h1 h2 hb rfl hx hy
theorem OU {xt yt : TypeId} {x y : Operand} {k : IntKind} {a b : Int} (hb : b ≠ 0) (h1 : st.ev x = .c (.p (.v (.int k a))) := by exact rfl) (h2 : st.ev y = .c (.p (.v (.int k b))) := by exact rfl) (hx : Zr x = true := by exact rfl) (hy : Zr y = true := by exact rfl) :
    KC E N P ops ⟨some d, .binOp .quo xt x y yt, ty, pos, af, gd⟩ st ⟨[], []⟩ ⟨.c (.p (.v (.int k (k.wrap (a.tdiv b))))), []⟩ := WH h1 h2 (by simp [CI, hb]) hx hy
theorem F3 {xt yt : TypeId} {x y : Operand} {k : IntKind} {a b : Int} (hb : b ≠ 0) (h1 : st.ev x = .c (.p (.v (.int k a))) := by exact rfl) (h2 : st.ev y = .c (.p (.v (.int k b))) := by exact rfl) (hx : Zr x = true := by exact rfl) (hy : Zr y = true := by exact rfl) :
    KC E N P ops ⟨some d, .binOp .rem xt x y yt, ty, pos, af, gd⟩ st ⟨[], []⟩ ⟨.c (.p (.v (.int k (a.tmod b)))), []⟩ := WH h1 h2 (by simp [CI, hb]) hx hy
theorem Oj {lo hi : Nat} : ((L.map f).take hi).drop lo = ((L.take hi).drop lo).map f := by simp
theorem Gt {x : Operand} {y z : Option Operand} {t el e lo hi : Nat} {tt te : TE} (h1 : st.ev x = .c (.p (.l e (L.map f)))) (hlo : Bd st y 0 lo) (hhi : Bd st z L.length hi) (hlh : lo ≤ hi) (hhl : hi ≤ L.length) (ht : ZA T.ty t = some tt) (hk : tt.kd = .slice el) (hel : ZA T.ty el = some te) (he : te.size = e) (hx : Zr x = true) :
    KC E N P ops ⟨some d, .slice t x y z none, ty, pos, af, gd⟩ st ⟨[], []⟩ ⟨.c (.p (.l e (((L.take hi).drop lo).map f))), []⟩ := by
  have := HA (E := E) (N := N) (ops := ops) (d := d) (ty := ty) (pos := pos) (af := af) (gd := gd) (T := T) (lo := lo) (hi := hi) h1 hlo (by rw [List.length_map]; exact hhi) hlh (by rw [List.length_map]; exact hhl) ht hk hel he hx
  rwa [Oj] at this
theorem EC {n : Nat} : Bd st none n n := rfl
theorem ED {x : Operand} {k : IntKind} {z : Int} {m : Nat} (h0 : 0 ≤ z) (h : st.ev x = .c (.p (.v (.int k z)))) (hc : Zr x = true) : Bd st (some x) m z.toNat := ⟨hc, k, z, h, tn h0⟩
theorem BZ [T : Tb P] {x y : Operand} {t el e : Nat} {k : IntKind} {p : Int} {tt te : TE} (hp : 0 ≤ p ∧ p ≤ L.length) (h1 : st.ev x = .c (.p (.l e (L.map f))) := by exact rfl) (h2 : st.ev y = .c (.p (.v (.int k p))) := by exact rfl) (ht : ZA T.ty t = some tt := by exact rfl) (hk : tt.kd = .slice el := by exact rfl) (hel : ZA T.ty el = some te := by exact rfl) (he : te.size = e := by exact rfl) (hx : Zr x = true := by exact rfl) (hy : Zr y = true := by exact rfl) :
    KC E N P ops ⟨some d, .slice t x (some y) none none, ty, pos, af, gd⟩ st ⟨[], []⟩ ⟨.c (.p (.l e ((L.drop p.toNat).map f))), []⟩ := by
  have := Gt (E := E) (N := N) (ops := ops) (d := d) (ty := ty) (pos := pos) (af := af) (gd := gd) (T := T) h1 (ED hp.1 h2 hy) EC (by have := hp.2; omega) (Nat.le_refl _) ht hk hel he hx
  rwa [List.take_length] at this
theorem F4 [T : Tb P] {x z : Operand} {t el e : Nat} {k : IntKind} {q : Int} {tt te : TE} (hp : 0 ≤ q ∧ q ≤ L.length) (h1 : st.ev x = .c (.p (.l e (L.map f))) := by exact rfl) (h2 : st.ev z = .c (.p (.v (.int k q))) := by exact rfl) (ht : ZA T.ty t = some tt := by exact rfl) (hk : tt.kd = .slice el := by exact rfl) (hel : ZA T.ty el = some te := by exact rfl) (he : te.size = e := by exact rfl) (hx : Zr x = true := by exact rfl) (hy : Zr z = true := by exact rfl) :
    KC E N P ops ⟨some d, .slice t x none (some z) none, ty, pos, af, gd⟩ st ⟨[], []⟩ ⟨.c (.p (.l e ((L.take q.toNat).map f))), []⟩ := by
  have := Gt (E := E) (N := N) (ops := ops) (d := d) (ty := ty) (pos := pos) (af := af) (gd := gd) (T := T) h1 EC (ED hp.1 h2 hy) (Nat.zero_le _) (by have := hp.2; omega) ht hk hel he hx
  simpa using this
theorem Ol [T : Tb P] {x y : Operand} {t el e off m : Nat} {b : QX} {mu : Bool} {rows : List (List PV)} {k : IntKind} {p : Int} {tt te : TE} (hp : 0 ≤ p ∧ p ≤ m) (h1 : st.ev x = .c (.sl b off m) := by exact rfl) (hb : st.h b = some (.row e rows mu) := by exact rfl) (h2 : st.ev y = .c (.p (.v (.int k p))) := by exact rfl) (ht : ZA T.ty t = some tt := by exact rfl) (hk : tt.kd = .slice el := by exact rfl) (hel : ZA T.ty el = some te := by exact rfl) (he : te.size = e := by exact rfl) (hx : Zr x = true := by exact rfl) (hy : Zr y = true := by exact rfl) :
    KC E N P ops ⟨some d, .slice t x (some y) none none, ty, pos, af, gd⟩ st ⟨[b], []⟩ ⟨.c (.sl b (off + p.toNat) (m - p.toNat)), []⟩ := CL h1 hb (ED hp.1 h2 hy) EC (by have := hp.2; omega) (Nat.le_refl _) ht hk hel he rfl rfl hx
theorem Ly [T : Tb P] {x z : Operand} {t el e off m : Nat} {b : QX} {mu : Bool} {rows : List (List PV)} {k : IntKind} {q : Int} {tt te : TE} (hp : 0 ≤ q ∧ q ≤ m) (h1 : st.ev x = .c (.sl b off m) := by exact rfl) (hb : st.h b = some (.row e rows mu) := by exact rfl) (h2 : st.ev z = .c (.p (.v (.int k q))) := by exact rfl) (ht : ZA T.ty t = some tt := by exact rfl) (hk : tt.kd = .slice el := by exact rfl) (hel : ZA T.ty el = some te := by exact rfl) (he : te.size = e := by exact rfl) (hx : Zr x = true := by exact rfl) (hy : Zr z = true := by exact rfl) :
    KC E N P ops ⟨some d, .slice t x none (some z) none, ty, pos, af, gd⟩ st ⟨[b], []⟩ ⟨.c (.sl b off q.toNat), []⟩ := CL h1 hb EC (ED hp.1 h2 hy) (Nat.zero_le _) (by have := hp.2; omega) ht hk hel he (Nat.add_zero _) (Nat.sub_zero _) hx
def N1 (E : En) (N : Nat) (P : Program) (ops : Array Oper) (o : Oper) (st : St) (rb : List QX) (tx : TypeId) (e : Nat) (y : Operand) (f : α → List PV) (L : List α) : Prop := M5 E N P ops o st rb tx e y (L.map f)
theorem Vv [T : Tb P] {y : Operand} {tx e' : TypeId} {e : Nat} {tt : TE} (hm : y ∈ o.op.operands.toList) (hy : Zr y = true := by exact rfl) (h1 : st.ev y = .c (.p (.l e (L.map f))) := by exact rfl) (he : Nat.blt 0 e = true := by exact rfl) (ht : ZA T.ty tx = some tt := by exact rfl) (hk : tt.kd = .slice e' := by exact rfl) : N1 E N P ops o st [] tx e y f L := Pf hm hy h1 (Nat.le_of_ble_eq_true he) ht hk
theorem QZ [T : Tb P] {y : Operand} {tx e' : TypeId} {e m : Nat} {b : QX} {tt : TE} {mu : Bool} (hm : y ∈ o.op.operands.toList) (hy : Zr y = true := by exact rfl) (h1 : st.ev y = .c (.sl b 0 m) := by exact rfl) (hb : st.h b = some (.row e (L.map f) mu) := by exact rfl) (hl : (L.map f).length = m := by exact rfl) (ht : ZA T.ty tx = some tt := by exact rfl) (hk : tt.kd = .slice e' := by exact rfl) : N1 E N P ops o st [b] tx e y f L := by
  have := O6 (E := E) (N := N) (P := P) (ops := ops) hm hy h1 hb ht hk
  rw [List.drop_zero, ← hl, List.take_length] at this
  exact this
theorem N2 [T : Tb P] {y : Operand} {tx : TypeId} {tt : TE} {s : ByteArray} (hm : y ∈ o.op.operands.toList) (hy : Zr y = true := by exact rfl) (h1 : st.ev y = .c (.p (.v (.string s))) := by exact rfl) (ht : ZA T.ty tx = some tt := by exact rfl) (hk : tt.kd = .string := by exact rfl) : N1 E N P ops o st [] tx 1 y (eI .u8) (sI s) := MK hm hy h1 ht hk
theorem VP [T : Tb P] {x y : Operand} {t tx el : TypeId} {te tt : TE} {e by' : Nat} {rb : List QX} (hb : L.length * by' ≤ 140737488355328) (hx : st.ev x = .c (.p (.v (.slice none 0 0))) := by exact rfl) (hcx : Zr x = true := by exact rfl) (ht : ZA T.ty t = some tt := by exact rfl) (hk : tt.kd = .slice el := by exact rfl) (hel : ZA T.ty el = some te := by exact rfl) (hes : te.size = e := by exact rfl) (hbt : te.bytes = by' := by exact rfl) (hpos : Nat.blt 0 by' = true := by exact rfl) (he : Nat.blt 0 e = true := by exact rfl) (hz : te.zero.cells.size = e := by exact rfl)
    (hsrc : N1 E N P ops ⟨some d, .call { callee := .builtin .append, args := #[x, y], argTypes := #[t, tx] }, ty, pos, af, gd⟩ st rb tx e y f L) :
    KC E N P ops ⟨some d, .call { callee := .builtin .append, args := #[x, y], argTypes := #[t, tx] }, ty, pos, af, gd⟩ st ⟨rb, [(d, 0)]⟩ ⟨.c (.sl (d, 0) 0 (L.map f).length), [((d, 0), some (.row e (L.map f) true))]⟩ :=
  HG hx hcx ht hk hel hes (Nat.le_of_ble_eq_true he) hz hsrc (by rw [List.length_map]; exact Nat.le_trans (Nat.le_mul_of_pos_right _ (Nat.le_of_ble_eq_true hpos)) hb) (by rw [List.length_map, hbt]; exact hb)
theorem QI [T : Tb P] {x y : Operand} {t tx el : TypeId} {te tt : TE} {e m by' : Nat} {b : QX} {rb : List QX} (hby : (L.length + L'.length) * by' ≤ 140737488355328) (hx : st.ev x = .c (.sl b 0 m) := by exact rfl) (hcx : Zr x = true := by exact rfl) (hb : st.h b = some (.row e (L.map f) true) := by exact rfl) (hm : (L.map f).length = m := by exact rfl) (ht : ZA T.ty t = some tt := by exact rfl) (hk : tt.kd = .slice el := by exact rfl) (hel : ZA T.ty el = some te := by exact rfl) (hes : te.size = e := by exact rfl) (hbt : te.bytes = by' := by exact rfl) (hpos : Nat.blt 0 by' = true := by exact rfl) (hz : te.zero.cells.size = e := by exact rfl)
    (hsrc : N1 E N P ops ⟨some d, .call { callee := .builtin .append, args := #[x, y], argTypes := #[t, tx] }, ty, pos, af, gd⟩ st rb tx e y f L') :
    KC E N P ops ⟨some d, .call { callee := .builtin .append, args := #[x, y], argTypes := #[t, tx] }, ty, pos, af, gd⟩ st ⟨b :: rb, [(d, 0)]⟩ ⟨.c (.sl (d, 0) 0 ((L ++ L').map f).length), [((d, 0), some (.row e ((L ++ L').map f) true)), (b, none)]⟩ := by
  have hb2 : L.length + L'.length ≤ 140737488355328 := Nat.le_trans (Nat.le_mul_of_pos_right _ (Nat.le_of_ble_eq_true hpos)) hby
  exact IK hx hcx hb hm ht hk hel hes hz hsrc (List.map_append).symm (by rw [← hm]; simp) (by simpa using hb2) (by rw [hbt]; simpa using hby)
theorem YY [T : Tb P] {x : Operand} {s t e : TypeId} {ts te tt : TE} {l : List Int} (h1 : st.ev x = .c (.p (.l 1 (l.map (eI .u8)))) := by exact rfl) (hs : ZA T.ty s = some ts := by exact rfl) (hsk : ts.kd = .slice e := by exact rfl) (he : ZA T.ty e = some te := by exact rfl) (hek : te.kd = .int .u8 := by exact rfl) (ht : ZA T.ty t = some tt := by exact rfl) (htk : tt.kd = .string := by exact rfl) (hx : Zr x = true := by exact rfl) :
    KC E N P ops ⟨some d, .convert s t x, ty, pos, af, gd⟩ st ⟨[], []⟩ ⟨.c (.p (.v (.string (strOfNums l)))), []⟩ := GI h1 rfl hs hsk he hek ht htk hx
theorem HW [T : Tb P] {x : Operand} {s t e : TypeId} {ts te tt : TE} {b : QX} {m : Nat} {mu : Bool} {l : List Int} (h1 : st.ev x = .c (.sl b 0 m) := by exact rfl) (hb : st.h b = some (.row 1 (l.map (eI .u8)) mu) := by exact rfl) (hm : (l.map (eI .u8)).length = m := by exact rfl) (hs : ZA T.ty s = some ts := by exact rfl) (hsk : ts.kd = .slice e := by exact rfl) (he : ZA T.ty e = some te := by exact rfl) (hek : te.kd = .int .u8 := by exact rfl) (ht : ZA T.ty t = some tt := by exact rfl) (htk : tt.kd = .string := by exact rfl) (hx : Zr x = true := by exact rfl) :
    KC E N P ops ⟨some d, .convert s t x, ty, pos, af, gd⟩ st ⟨[b], []⟩ ⟨.c (.p (.v (.string (strOfNums l)))), []⟩ := by
  have := FF (E := E) (N := N) (ops := ops) (d := d) (ty := ty) (pos := pos) (af := af) (gd := gd) (T := T) h1 hb rfl hs hsk he hek ht htk hx
  rw [List.length_map] at hm
  rwa [List.drop_zero, ← hm, List.take_length] at this
theorem Lz {n : Nat} {x : α} : (L.map f).set n (f x) = (L.set n x).map f := by rw [List.map_set]
theorem ZC {n : Nat} {x y : α} (h : L[n]? = some y) : (L.set n x)[n]? = some x := by
  rw [List.getElem?_set, if_pos rfl, if_pos (List.getElem?_eq_some_iff.1 h).1]
theorem Zf [T : Tb P] {x y : Operand} {t : TypeId} {te : TE} {b : QX} {i k e : Nat} {x0 x1 : α} {ps : List PV} {v : TV} {dst : Option Nat} (hi : L[i]? = some x0 := by exact rfl) (hx : st.ev x = .c (.ptr b i k) := by exact rfl) (hb : st.h b = some (.row e (L.map f) true) := by exact rfl) (hv : st.ev y = v := by exact rfl) (hk : v.known = true := by exact rfl) (hps : pvs v.cells = some ps := by exact rfl)
    (ht : ZA T.ty t = some te := by exact rfl) (hsz : ps.length = te.size := by exact rfl) (hin : Nat.ble (k + ps.length) e = true := by exact rfl) (hr' : setAt (f x0) k ps = f x1 := by exact rfl) (hcx : Zr x = true := by exact rfl) (hcy : Zr y = true := by exact rfl) :
    KC E N P ops ⟨dst, .store t x y, ty, pos, af, gd⟩ st ⟨[b], []⟩ ⟨.c .any, [(b, some (.row e ((L.set i x1).map f) true))]⟩ :=
  FG hx hb (gm hi) hv hk (IP hps) ht hsz (Nat.le_of_ble_eq_true hin) hr' Lz hcx hcy
end
theorem QH {α : Type} {l : List α} {n : Nat} (h : l.length = n) : (l.drop 0).take n = l := by subst h; simp
theorem Pm {α β : Type} {f : α → β} {l : List α} {i n : Nat} : ((l.map f).drop i).take n = ((l.drop i).take n).map f := by simp
theorem LA {α β : Type} {f : α → β} {l : List α} {n : Nat} : ((l.map f).drop 0).take n = (l.take n).map f := by simp
theorem Zd {st : St} {g : Bool} {t : TV} {x : AV} {bs : List QX} (hg : g = true) (h : ToA st t x bs) : ToA st (gt g t) x bs := by rw [Qa hg]; exact h
theorem QL {a b : Bool} : (a && (b == true)) = (a && b) := by cases b <;> simp
theorem K5 {a b : Bool} : (a && (b == false)) = (a && !b) := by cases b <;> simp
theorem Jy {a b : Bool} (h : a = true) : (b == true) = (a && b) := by subst h; cases b <;> rfl
theorem UQ {a b : Bool} (h : a = true) : (b == false) = (a && !b) := by subst h; cases b <;> rfl
theorem QJ {x y : Operand} {ats : Array TypeId} : y ∈ (Op.call { callee := .builtin .append, args := #[x, y], argTypes := ats }).operands.toList := by simp [Op.operands, Call.operands]
def eL {α : Type} (e : Nat) (f : α → List PV) (l : List α) : List PV := [.l e (l.map f)]
theorem N3 {k : IntKind} (n : Int) : (eI k n).all NR = true := rfl
theorem nl_eS (s : ByteArray) : (eS s).all NR = true := rfl
theorem Ub {α : Type} {f : α → List PV} (h : ∀ x, (f x).all NR = true) {L : List α} : ∀ r ∈ L.map f, ∀ p ∈ r, NR p = true := by
  intro r hr p hp
  obtain ⟨x, _, rfl⟩ := List.mem_map.1 hr
  exact List.all_eq_true.1 (h x) p hp
inductive Pn : RV → Prop
  | p {x : PV} (h : NR x = true) : Pn (.p x)
  | o {e : Nat} {rows : List (List PV)} (h : ∀ r ∈ rows, ∀ p ∈ r, NR p = true) : Pn (.own e rows)
inductive K8 : List RV → Prop
  | nil : K8 []
  | cons {x : RV} {l : List RV} (h : Pn x) (hs : K8 l) : K8 (x :: l)
theorem YC {cs : List RV} (h : K8 cs) : NoLs cs := by
  induction h with
  | nil => exact fun x hx => by cases hx
  | cons h hs ih =>
    intro x hx
    rcases List.mem_cons.1 hx with rfl | hx
    · cases h with
      | p h => exact h
      | o h => exact h
    · exact ih x hx
section
variable {P : Program} {T : Tb P} {st : St} {k0 : Nat}
theorem FH.p {x : PV} (h : st.g k0 = .c (.p x)) : FH T st (.tmp k0) (.c (.p x)) := .tmpc h (by simp)
theorem FH.s {b : QX} {off n : Nat} (h : st.g k0 = .c (.sl b off n)) : FH T st (.tmp k0) (.c (.sl b off n)) := .tmpc h (by simp)
end
section
variable {α : Type} {f : α → List PV} {L L' : List α} {E : En} {N : Nat} {P : Program} {T : Tb P} {ops : Array Oper} {o : Oper} {st : St} {d : Nat} {ty : Nat} {pos : String} {af : Array Edge} {gd : Option (Nat × Bool)} {cx : Cx} {a : Act} {w w' : World} {fr : List (Nat × TV)} {H : List (QX × Option Bk)}
theorem QN {f : FuncId} {xs : Array Operand} {tys : Array TypeId} {avs : List AV} {r : List RS} {t : TV} (hcon : Qp P f avs r []) (hn : avs.any AV.isRef = false := by exact rfl) (hok : xs.toList.all Zr = true := by exact rfl) (hargs : EX st (xs.toList.map st.ev) avs []) (hids : (BU d 0 (Zz r)).map (·.1) = [] := by exact rfl) (hbl : BU d 0 (Zz r) ++ Ak st [] = [] := by exact rfl) (ht : Lw d r = t := by exact rfl) :
    KC E N P ops ⟨some d, .call { callee := .value (.func f), args := xs, argTypes := tys }, ty, pos, af, gd⟩ st ⟨[], []⟩ ⟨t, []⟩ := YB hcon hn hok hargs hids hbl ht
theorem Dr [T : Tb P] {xt yt : TypeId} {x y : Operand} {b c : Bool} {te : TE} (h1 : st.ev x = .c (.p (.v (.bool b))) := by exact rfl) (h2 : st.ev y = .c (.p (.v (.bool c))) := by exact rfl) (ht : ZA T.ty xt = some te := by exact rfl) (hk : te.kd = .bool := by exact rfl) (hx : Zr x = true := by exact rfl) (hy : Zr y = true := by exact rfl) :
    KC E N P ops ⟨some d, .binOp .eql xt x y yt, ty, pos, af, gd⟩ st ⟨[], []⟩ ⟨.c (.p (.v (.bool (b == c)))), []⟩ :=
  Zc fun st' cx a' w ha hr => by
    obtain ⟨e1, w1⟩ := BB h1 hx ha (by simp [Op.operands]) hr
    obtain ⟨e2, w2⟩ := BB h2 hy ha (by simp [Op.operands]) hr
    obtain ⟨dd, i, g1, g2, g3, g4, g5, g6⟩ := Vs (T.ok _ _ ht)
    have hu : P.underlying xt = some .bool := by rw [g1]; rw [hk] at g3; cases dd <;> simp_all [EO]
    refine ⟨.bool (b == c), ?_, .inr rfl, .v _ rfl⟩
    simp only [execOp, e1, e2, Sem.run_bind, AG, Result.andThen_ok, binOp, Op.equal, Op.maxDepth, run_equalIn_bool' w _ _ _ _ hu, Sem.run_pure]
theorem N4 [T : Tb P] {xt yt : TypeId} {x y : Operand} {b c : Bool} {te : TE} (h1 : st.ev x = .c (.p (.v (.bool b))) := by exact rfl) (h2 : st.ev y = .c (.p (.v (.bool c))) := by exact rfl) (ht : ZA T.ty xt = some te := by exact rfl) (hk : te.kd = .bool := by exact rfl) (hx : Zr x = true := by exact rfl) (hy : Zr y = true := by exact rfl) :
    KC E N P ops ⟨some d, .binOp .neq xt x y yt, ty, pos, af, gd⟩ st ⟨[], []⟩ ⟨.c (.p (.v (.bool (!(b == c))))), []⟩ :=
  Zc fun st' cx a' w ha hr => by
    obtain ⟨e1, w1⟩ := BB h1 hx ha (by simp [Op.operands]) hr
    obtain ⟨e2, w2⟩ := BB h2 hy ha (by simp [Op.operands]) hr
    obtain ⟨dd, i, g1, g2, g3, g4, g5, g6⟩ := Vs (T.ok _ _ ht)
    have hu : P.underlying xt = some .bool := by rw [g1]; rw [hk] at g3; cases dd <;> simp_all [EO]
    refine ⟨.bool (!(b == c)), ?_, .inr rfl, .v _ rfl⟩
    simp only [execOp, e1, e2, Sem.run_bind, AG, Result.andThen_ok, binOp, Op.equal, Op.maxDepth, run_equalIn_bool' w _ _ _ _ hu, Sem.run_pure]
def C0 (P : Program) : Nat → List Field → List Value → List Value → Bool
  | _, [], [], [] => true
  | i, f :: fs, x :: xs, y :: ys => f.name != "_" && Nat.beq f.offset i && (match P.underlying f.type, x, y with
    | some (.int _), .int k _, .int k' _ => decide (k = k')
    | some .bool, .bool _, .bool _ => true
    | some .string, .string _, .string _ => true
    | _, _, _ => false) && C0 P (i + 1) fs xs ys
  | _, _, _, _ => false
def LB (P : Program) (t : TypeId) (xs ys : List Value) : Bool := match P.underlying t with
  | some (.struct fs) => C0 P 0 fs.toList xs ys && !P.stoodInHeld t && !P.eqGuardType P.depth t
  | _ => false
def IT : TypeDesc → Bool
  | .int _ | .bool | .string => true
  | _ => false
theorem Gu {e : TypeId} {dsc : TypeDesc} (hu : P.underlying e = some dsc) (ha : IT dsc = true) {xs : Array Value} {i : Nat} {v : Value} (hx : xs[i]? = some v) : (part e xs i).run P w = .ok v w := by
  cases dsc <;> simp [IT] at ha <;> simp [part, isAgg, run_underlying hu, hx]
theorem GQ {xs ys : Array Value} : ∀ (fs : List Field) (i : Nat) (us vs : List Value), C0 P i fs us vs = true → xs.toList.drop i = us → ys.toList.drop i = vs → (Op.eqFields 9999 xs ys fs).run P w = .ok (IS us vs) w := by
  intro fs
  induction fs with
  | nil =>
    intro i us vs h h1 h2
    cases us <;> cases vs <;> simp [C0] at h
    simp [Op.eqFields, IS, Sem.run_pure]
  | cons f fs ih =>
    intro i us vs h h1 h2
    cases us with
    | nil => simp [C0] at h
    | cons u us =>
      cases vs with
      | nil => simp [C0] at h
      | cons v vs =>
        simp only [C0, Bool.and_eq_true] at h
        obtain ⟨⟨⟨hn, hi⟩, hk⟩, hr⟩ := h
        have hi := Nat.eq_of_beq_eq_true hi
        have hu : xs[i]? = some u := by have := congrArg (·[0]?) h1; simpa [List.getElem?_drop] using this
        have hv : ys[i]? = some v := by have := congrArg (·[0]?) h2; simpa [List.getElem?_drop] using this
        have h1' : xs.toList.drop (i + 1) = us := by rw [← List.drop_drop, h1]; rfl
        have h2' : ys.toList.drop (i + 1) = vs := by rw [← List.drop_drop, h2]; rfl
        have hih := ih (i + 1) us vs hr h1' h2'
        have hne : f.name ≠ "_" := by simpa using hn
        have key : ∃ dsc, P.underlying f.type = some dsc ∧ IT dsc = true ∧ (Op.equalIn 9999 f.type u v).run P w = .ok (eqV u v) w := by
          split at hk
          · rename_i k0 k a k' b hd
            have := of_decide_eq_true hk; subst this
            exact ⟨_, hd, rfl, run_equalIn_int w 9998 _ _ _ _ _ hd⟩
          · rename_i a b hd
            exact ⟨_, hd, rfl, run_equalIn_bool' w 9998 _ _ _ hd⟩
          · rename_i a b hd
            exact ⟨_, hd, rfl, run_equalIn_string w 9998 _ _ _ hd⟩
          · cases hk
        obtain ⟨dsc, hd, ha, he⟩ := key
        simp only [Op.eqFields, if_pos hne, Sem.run_bind, hi, Gu hd ha hu, Gu hd ha hv, Result.andThen_ok, he, IS]
        cases heq : eqV u v
        · simp [Sem.run_pure]
        · simp [hih]
theorem LC {t : TypeId} {us vs : List Value} (h : LB P t us vs = true) : (Op.equalIn 10000 t (.agg us.toArray) (.agg vs.toArray)).run P w = .ok (IS us vs) w ∧ P.eqGuardType P.depth t = false := by
  unfold LB at h
  split at h
  · rename_i fs hu
    simp only [Bool.and_eq_true, Bool.not_eq_true'] at h
    obtain ⟨⟨h1, h2⟩, h3⟩ := h
    have hfo : P.fieldsOf t = fs := by unfold Program.fieldsOf; rw [hu]
    refine ⟨?_, h3⟩
    rw [run_equalIn_struct w 9999 t _ _ (by rw [hfo]; exact hu) h2, hfo]
    exact GQ fs.toList 0 us vs h1 rfl rfl
  · cases h
theorem CP {st' : St} {x : Operand} {us : List Value} {f : Fp} (hx : st.ev x = .agg (us.map fun v => .p (.v v))) (hc : Zr x = true) (ha : Agree ops o f st st') (hm : x ∈ o.op.operands.toList) (hr : ZY E N cx st' a w) : a.eval x = .agg us.toArray := by
  have := hr.ev hc
  rw [Ji ha hm, hx] at this
  obtain ⟨vs, h1, h2, h3⟩ := this
  rw [h1]
  have key : vs = us.toArray := by
    apply Array.ext_getElem?
    intro i
    cases hu : us[i]? with
    | none =>
      have h4 : us.length ≤ i := by simpa using hu
      rw [Array.getElem?_eq_none (by rw [h2]; simpa using h4), List.getElem?_toArray, hu]
    | some u =>
      obtain ⟨v, h5, h6, h7⟩ := h3 i (.p (.v u)) (by rw [List.getElem?_map, hu]; rfl)
      rw [h5, List.getElem?_toArray, hu]
      cases h7 with | v _ _ => rfl
  rw [key]
theorem IV {xt yt : TypeId} {x y : Operand} {us vs : List Value} {c : Bool} {cx1 cy1 : List CV} (h1 : st.ev x = .agg cx1 := by exact rfl) (h2 : st.ev y = .agg cy1 := by exact rfl) (hf : LB P xt us vs = true := by exact rfl) (he : IS us vs = c := by exact rfl) (hcx : cx1 = us.map fun v => .p (.v v) := by exact rfl) (hcy : cy1 = vs.map fun v => .p (.v v) := by exact rfl) (hx : Zr x = true := by exact rfl) (hy : Zr y = true := by exact rfl) (htr : true = true := by exact rfl) :
    KC E N P ops ⟨some d, .binOp .eql xt x y yt, ty, pos, af, gd⟩ st ⟨[], []⟩ ⟨.c (.p (.v (.bool c))), []⟩ :=
  Zc fun st' cx a' w ha hr => by
    subst hcx hcy he
    have e1 := CP h1 hx ha (by simp [Op.operands]) hr
    have e2 := CP h2 hy ha (by simp [Op.operands]) hr
    obtain ⟨h3, h4⟩ := LC (w := w) hf
    refine ⟨_, ?_, .inr rfl, .v _ rfl⟩
    simp only [execOp, e1, e2, Sem.run_bind, run_eqGuard_agg w _ _ _ _ _ _ h4, Result.andThen_ok, run_eql_struct, h3, Sem.run_pure]
theorem AI {xt yt : TypeId} {x y : Operand} {us vs : List Value} {c : Bool} {cx1 cy1 : List CV} (h1 : st.ev x = .agg cx1 := by exact rfl) (h2 : st.ev y = .agg cy1 := by exact rfl) (hf : LB P xt us vs = true := by exact rfl) (he : (!IS us vs) = c := by exact rfl) (hcx : cx1 = us.map fun v => .p (.v v) := by exact rfl) (hcy : cy1 = vs.map fun v => .p (.v v) := by exact rfl) (hx : Zr x = true := by exact rfl) (hy : Zr y = true := by exact rfl) (htr : true = true := by exact rfl) :
    KC E N P ops ⟨some d, .binOp .neq xt x y yt, ty, pos, af, gd⟩ st ⟨[], []⟩ ⟨.c (.p (.v (.bool c))), []⟩ :=
  Zc fun st' cx a' w ha hr => by
    subst hcx hcy he
    have e1 := CP h1 hx ha (by simp [Op.operands]) hr
    have e2 := CP h2 hy ha (by simp [Op.operands]) hr
    obtain ⟨h3, h4⟩ := LC (w := w) hf
    refine ⟨_, ?_, .inr rfl, .v _ rfl⟩
    simp only [execOp, e1, e2, Sem.run_bind, run_eqGuard_agg w _ _ _ _ _ _ h4, Result.andThen_ok, run_neq_struct, h3, Sem.run_pure]
end
inductive Cr (st : St) : CV → PV → Prop
  | k (x : PV) : Cr st (.p x) x
  | nil (e : Nat) : Cr st (.p (.v (.slice none 0 0))) (.l e [])
  | fr {b : QX} {e off n : Nat} {rows rows' : List (List PV)} (hb : st.h b = some (.row e rows false)) (hr : (rows.drop off).take n = rows') : Cr st (.sl b off n) (.l e rows')
inductive GR (st : St) : List CV → List PV → Prop
  | nil : GR st [] []
  | cons {c : CV} {x : PV} {cs : List CV} {xs : List PV} (h : Cr st c x) (hs : GR st cs xs) : GR st (c :: cs) (x :: xs)
theorem GR.agree {st st' : St} {cs : List CV} {xs : List PV} (h : GR st cs xs) (ha : ∀ b ∈ YR cs, st'.h b = st.h b) : GR st' cs xs := by
  induction h with
  | nil => exact .nil
  | @cons c x cs xs h hs ih =>
    have h1 : ∀ b ∈ c.ment, st'.h b = st.h b := fun b hb => ha b (by unfold YR; rw [List.flatMap_cons]; exact List.mem_append_left _ hb)
    refine .cons ?_ (ih fun b hb => ha b (by unfold YR at hb ⊢; rw [List.flatMap_cons]; exact List.mem_append_right _ hb))
    cases h with
    | k => exact .k _
    | nil e => exact .nil e
    | @fr b e off n rows rows' hb hr => exact .fr (by rw [h1 b (by simp [CV.ment])]; exact hb) hr
theorem GR.cts {st : St} {cs : List CV} {xs : List PV} (h : GR st cs xs) : Mf st cs (xs.map .p) := by
  induction h with
  | nil => exact .nil
  | cons h hs ih =>
    refine .cons ?_ ih
    cases h with
    | k => exact .k _
    | nil e => exact .nil e
    | fr hb hr => exact .fr hb hr
section
variable {E : En} {N : Nat} {P : Program} {T : Tb P} {ops : Array Oper} {o : Oper} {st : St} {d : Nat} {ty : Nat} {pos : String} {af : Array Edge} {gd : Option (Nat × Bool)} {cx : Cx} {a : Act} {w w' : World}
theorem IW {cs : List CV} {xs : List PV} {vs : Array Value} (hr : ZY E N cx st a w) (h : GR st cs xs) (hc : RL cx w st.h cs vs) : RL cx w st.h (xs.map .p) vs := Pl hr h.cts hc
theorem Xi [T : Tb P] {parts : Array (Nat × Operand)} {t e n sz : Nat} {tt te : TE} {zs : List Value} {cs : List CV} {ps : List PV} {rows : List (List PV)} (ht : ZA T.ty t = some tt := by exact rfl) (hk : tt.kd = .slice e := by exact rfl) (hel : ZA T.ty e = some te := by exact rfl) (hsz : te.size = sz := by exact rfl) (hpos : Nat.blt 0 (n * sz) = true := by exact rfl) (hsm : Nat.ble (n * sz) 16777216 = true := by exact rfl)
    (hz : te.zero.cells.toList = zs := by exact rfl) (hat : zs.all KE = true := by exact rfl) (hf : E5 (fun i => some (i * sz, sz)) ((List.range (n * sz)).map fun i => .p (.v (zs.getD (i % zs.length) undef))) (parts.toList.map fun x => (x.1, st.ev x.2)) = some cs := by exact rfl) (hct : GR st cs ps) (hrows : AH sz n ps = rows := by exact rfl)
    (hzl : zs.length = sz := by exact rfl) (hok : parts.toList.all (fun x => Zr x.2) = true := by exact rfl) :
    KC E N P ops ⟨some d, .buildSlice t n parts, ty, pos, af, gd⟩ st ⟨YR cs, [(d, 0)]⟩ ⟨.c (.sl (d, 0) 0 n), [((d, 0), some (.row sz rows true))]⟩ := by
  intro st' ha hfr hd cx a w Q hr
  have hpos := Nat.le_of_ble_eq_true hpos
  have hsm := Nat.le_of_ble_eq_true hsm
  have hn0 : 0 < n := Nat.pos_of_ne_zero (fun h => by rw [h] at hpos; omega)
  have hsz0 : 0 < sz := Nat.pos_of_ne_zero (fun h => by rw [h] at hpos; omega)
  have hu := Kr ht hk
  obtain ⟨dd', i', h1', h2', h3', h4', h5', h6'⟩ := Vs (T.ok _ _ hel)
  have hm : ∀ x ∈ parts.toList, x.2 ∈ (Op.buildSlice t n parts).operands.toList := fun x hx => by
    simp only [Op.operands, Array.toList_map, List.mem_map]; exact ⟨x, hx, rfl⟩
  have hz0 : RL cx w st'.h ((List.range (n * sz)).map fun i => .p (.v (zs.getD (i % zs.length) undef))) ((Array.range (n * te.size)).map (te.zero.cells[· % te.zero.cells.size]!)) := by
    have hzs : te.zero.cells.size = sz := by rw [← hzl, ← hz]; simp
    refine ⟨by simp [hsz], fun i c hi => ?_⟩
    rw [List.getElem?_map, Option.map_eq_some_iff] at hi
    obtain ⟨j, hj, rfl⟩ := hi
    have hil : i < n * sz := by simpa using (List.getElem?_eq_some_iff.1 hj).1
    rw [List.getElem?_range hil] at hj
    cases hj
    have hmod : i % sz < sz := Nat.mod_lt _ hsz0
    have hat' : KE (zs.getD (i % zs.length) undef) = true := by
      rw [hzl, List.getD_eq_getElem?_getD, List.getElem?_eq_getElem (by omega)]
      exact List.all_eq_true.1 hat _ (List.getElem_mem _)
    refine ⟨zs.getD (i % zs.length) undef, ?_, Jr hat', .v _ hat'⟩
    rw [Array.getElem?_map, Array.getElem?_range, hsz, if_pos hil, Option.map_some, hzs, hzl]
    congr 1
    have hbd : i % sz < te.zero.cells.size := by rw [hzs]; exact hmod
    have hg : zs[i % sz]? = some (te.zero.cells[i % sz]'hbd) := by rw [← hz, Array.getElem?_toList, Array.getElem?_eq_getElem]
    rw [getElem!_pos te.zero.cells _ hbd, List.getD_eq_getElem?_getD, hg]
    rfl
  obtain ⟨cells', h7, h8⟩ := CN (cx := cx) (w := w) (h := st'.h) hf hz0 (vs := (parts.map fun (i, x) => (i, a.eval x)).toList) (by simp) (Bf hr ha (fun x hx => hm x hx) hok)
  replace h8 := IW hr (hct.agree ha.2) h8
  have hlen : cells'.size = n * sz := by
    rw [Dq h7]; simp [hsz]
  have hpl : ps.length = n * sz := by
    have := h8.1; rw [List.length_map] at this; omega
  obtain ⟨c1, c2, c3⟩ := BX sz n ps hpl
  rw [hrows] at c1 c2 c3
  have hrun := run_buildSlice (P := P) w t e n (parts.map fun (i, x) => (i, a.eval x)) cells' i' te.zero hu h2' h6' (by rw [h4', hsz]; omega) (by rw [h4', hsz]; omega) (by rw [h4', hsz]; rw [hsz] at h7; exact h7)
  refine Y8 (v := .slice (some ⟨w.heap.size, 0, none⟩) n n) (w' := w.alloc (.cells cells' e)) (by simp only [execOp, Sem.run_bind, hrun]; rfl) ⟨_, YW (w' := w.alloc (.cells cells' e)) (bk := .row sz rows true) (t := .c (.sl (d, 0) 0 n)) hr hd (b := (d, 0)) (hd d rfl) (hfr (d, 0) (by simp)) (ob := .cells cells' e) rfl rfl rfl rfl ?_ ?_⟩
  · refine ⟨hsz0, c2, ?_⟩
    simp only [Cx.upd, if_true]
    refine ⟨trivial, cells', e, (0, 0), n, VI rfl, fun _ => ⟨rfl, fun h => ?_⟩, (fun h => by cases h), hlen, by omega, by unfold maxLen; have := Nat.le_mul_of_pos_right n hsz0; omega, fun i r k p hi hk => ?_⟩
    · have := (hr.A _ h).1; omega
    · have hp := c3 i r k p hi hk
      obtain ⟨u, hu, h9, h10⟩ := h8.2 (i * sz + k) (.p p) (by rw [List.getElem?_map, hp]; rfl)
      exact ⟨u, by simpa using hu, RP.keeps h10 (fun _ h => h) (Xh rfl)⟩
  · refine ⟨.inr rfl, fun bk hbk => ?_⟩
    rw [Xg, if_pos rfl] at hbk
    cases hbk
    refine ⟨_, n, rfl, Nat.le_refl _, by unfold maxLen; have := Nat.le_mul_of_pos_right n hsz0; omega, by simp [Bk.len, c1], .inr ⟨w.heap.size, cells', e, (0, 0), by simp [Cx.upd], by simp [Bk.e], VI rfl, fun _ => by simp [Bk.e, hlen]⟩⟩
theorem F5 {x y : Operand} {t : TypeId} {te : TE} {b : QX} {i k e : Nat} {rows rows' : List (List PV)} {r r' ps : List PV} {v : TV} {dst : Option Nat} (hx : st.ev x = .c (.ptr b i k)) (hb : st.h b = some (.row e rows true)) (hi : rows[i]? = some r) (hv : st.ev y = v) (hk : v.known = true) (hct : GR st v.cells ps)
    (ht : ZA T.ty t = some te) (hsz : ps.length = te.size) (hin : k + ps.length ≤ e) (hr' : setAt r k ps = r') (hrows : rows.set i r' = rows') (hcx : Zr x = true) (hcy : Zr y = true) :
    KC E N P ops ⟨dst, .store t x y, ty, pos, af, gd⟩ st ⟨b :: YR v.cells, []⟩ ⟨.c .any, [(b, some (.row e rows' true))]⟩ := by
  intro st' ha hf hd cx a w Q hr
  have he := hr.ev hcy
  rw [Ji ha (by simp [Op.operands]), hv] at he
  have hrl := UA hk he
  replace hrl := IW hr (hct.agree fun b' hb' => ha.2 b' (List.mem_cons_of_mem _ hb')) hrl
  obtain ⟨-, h4⟩ := FB hx hcx ha (by simp [Op.operands]) hr
  have hb' : st'.h b = some (.row e rows true) := by rw [ha.2 b (by simp)]; exact hb
  obtain ⟨g, q, h5, h6⟩ := h4 _ hb'
  have hbl := hr.bl b _ hb'
  obtain ⟨h7, h8, h9⟩ := hbl
  rw [h5] at h9
  obtain ⟨rfl, c, el, fz, capR, h10, h11, h12, h13, h14, h15, h16⟩ := h9
  obtain ⟨rfl, hnA⟩ := h11 rfl
  have hil := (List.getElem?_eq_some_iff.1 hi).1
  have hrl2 := h8 r (List.mem_of_getElem? hi)
  have h6' : a.eval x = .pointer (some ⟨g, i * e + k, none⟩) := by simpa [Bk.e] using h6
  have hcl : (a.eval y).cells.size = ps.length := by have := hrl.1; simpa using this
  have hbig : i * e + e ≤ c.size := by
    have : (i + 1) * e ≤ capR * e := Nat.mul_le_mul_right e (by omega)
    rw [Nat.add_mul] at this
    omega
  have hrun := UP (w := w) (g := g) (q := i * e + k) (u := a.eval y) ht (by rw [hcl, hsz]) h10 (by omega) (II hrl)
  obtain ⟨c2, hc2⟩ : ∃ c2, c2 = (c.toList.take (i * e + k) ++ (a.eval y).cells.toList ++ c.toList.drop (i * e + k + (a.eval y).cells.size)).toArray := ⟨_, rfl⟩
  rw [← hc2] at hrun
  have hlen : c2.size = c.size := by rw [hc2]; simp; omega
  refine upon_skip (w' := w.setRow g c2) (by simp only [execOp, h6', Sem.run_bind, Instr.storeAt, Instr.sureAddr, Sem.run_pure, Result.andThen_ok, hrun]) ⟨cx, ?_⟩
  have hkeep : Ja cx.A w (w.setRow g c2) := ⟨by simp, fun g' hA _ => setRow_other w g g' c2 (fun e => hnA (e ▸ hA))⟩
  have hr'l : r'.length = e := by rw [← hr', Be r k ps (by omega)]; exact hrl2
  refine BR (t := .c .any) (bk' := .row e rows' true) hr hd hb' rfl (by simp [Bk.len, ← hrows]) h5 hnA h10 rfl hlen ⟨h7, ?_, ?_⟩ ⟨.inl rfl, trivial⟩
  · intro r2 hr2
    rw [← hrows] at hr2
    rcases List.mem_or_eq_of_mem_set hr2 with h | h
    · exact h8 r2 h
    · rw [h]; exact hr'l
  · rw [h5]
    refine ⟨rfl, c2, el, (0, 0), capR, setRow_heap w g c c2 el _ h10, fun _ => ⟨rfl, hnA⟩, (fun h => by cases h), by rw [hlen]; exact h13, by rw [← hrows]; simpa using h14, h15, fun i2 r2 k2 p2 hi2 hk2 => ?_⟩
    have hidx : ∀ j, c2[j]? = if j < i * e + k ∨ i * e + k + ps.length ≤ j then c[j]? else (a.eval y).cells[j - (i * e + k)]? := by
      intro j
      have h17 := WP c.toList (i * e + k) (a.eval y).cells.toList (by simp; omega)
      rw [hc2, show i * e + k + (a.eval y).cells.size = i * e + k + (a.eval y).cells.toList.length by simp, ← h17, List.getElem?_toArray, WQ _ _ _ (by simp; omega)]
      simp only [Array.length_toList, hcl, Array.getElem?_toList]
    have hk2l : k2 < e := by
      have h1 := (List.getElem?_eq_some_iff.1 hk2).1
      have : r2.length = e := by
        rw [← hrows] at hi2
        rcases List.mem_or_eq_of_mem_set (List.mem_of_getElem? hi2) with h | h
        · exact h8 r2 h
        · rw [h]; exact hr'l
      omega
    rw [← hrows, List.getElem?_set] at hi2
    rw [hidx]
    by_cases e1 : i = i2
    · rw [if_pos e1, if_pos hil] at hi2
      cases hi2
      subst e1
      rw [← hr', WQ r k ps (by omega)] at hk2
      by_cases h17 : k2 < k ∨ k + ps.length ≤ k2
      · rw [if_pos h17] at hk2
        rw [if_pos (by omega)]
        obtain ⟨cv, h18, h19⟩ := h16 i r k2 p2 hi hk2
        exact ⟨cv, h18, h19.keeps (fun _ h => h) hkeep⟩
      · rw [if_neg h17] at hk2
        rw [if_neg (by omega)]
        obtain ⟨u, h18, h19, h20⟩ := hrl.2 (k2 - k) (.p p2) (by rw [List.getElem?_map, hk2]; rfl)
        refine ⟨u, ?_, RP.keeps h20 (fun _ h => h) hkeep⟩
        rw [← h18]
        congr 1
        omega
    · rw [if_neg e1] at hi2
      have hi2l := (List.getElem?_eq_some_iff.1 hi2).1
      have hout : i2 * e + k2 < i * e + k ∨ i * e + k + ps.length ≤ i2 * e + k2 := by
        rcases Nat.lt_or_gt_of_ne e1 with h | h
        · right
          have : (i + 1) * e ≤ i2 * e := Nat.mul_le_mul_right e h
          rw [Nat.add_mul] at this
          omega
        · left
          have : (i2 + 1) * e ≤ i * e := Nat.mul_le_mul_right e h
          rw [Nat.add_mul] at this
          omega
      rw [if_pos hout]
      obtain ⟨cv, h18, h19⟩ := h16 i2 r2 k2 p2 hi2 hk2
      exact ⟨cv, h18, h19.keeps (fun _ h => h) hkeep⟩
theorem K0 [T : Tb P] {α : Type} {f : α → List PV} {L : List α} {x y : Operand} {t : TypeId} {te : TE} {b : QX} {i k e : Nat} {x0 x1 : α} {ps : List PV} {v : TV} {dst : Option Nat} (hi : L[i]? = some x0 := by exact rfl) (hx : st.ev x = .c (.ptr b i k) := by exact rfl) (hb : st.h b = some (.row e (L.map f) true) := by exact rfl) (hv : st.ev y = v := by exact rfl) (hk : v.known = true := by exact rfl) (hct : GR st v.cells ps)
    (ht : ZA T.ty t = some te := by exact rfl) (hsz : ps.length = te.size := by exact rfl) (hin : Nat.ble (k + ps.length) e = true := by exact rfl) (hr' : setAt (f x0) k ps = f x1 := by exact rfl) (hcx : Zr x = true := by exact rfl) (hcy : Zr y = true := by exact rfl) :
    KC E N P ops ⟨dst, .store t x y, ty, pos, af, gd⟩ st ⟨b :: YR v.cells, []⟩ ⟨.c .any, [(b, some (.row e ((L.set i x1).map f) true))]⟩ :=
  F5 hx hb (gm hi) hv hk hct ht hsz (Nat.le_of_ble_eq_true hin) hr' Lz hcx hcy
theorem Wx [T : Tb P] {α : Type} {f : α → List PV} {z : α} {x y : Operand} {t el e by' : Nat} {tt te : TE} {k k' : IntKind} {n : Int} {zs : List Value} (hn : 0 ≤ n ∧ n * (by' : Nat) ≤ 140737488355328) (h1 : st.ev x = .c (.p (.v (.int k n))) := by exact rfl) (h2 : st.ev y = .c (.p (.v (.int k' n))) := by exact rfl) (ht : ZA T.ty t = some tt := by exact rfl) (hk : tt.kd = .slice el := by exact rfl) (hel : ZA T.ty el = some te := by exact rfl) (hes : te.size = e := by exact rfl) (hbt : te.bytes = by' := by exact rfl) (hpos : (Nat.blt 0 by' && Nat.blt 0 e) = true := by exact rfl) (hz : te.zero.cells.toList = zs := by exact rfl)
    (hct : GR (⟨[], []⟩ : St) (zs.map fun v => .p (.v v)) (f z)) (hat : zs.all KE = true := by exact rfl) (hok : (Zr x && Zr y && Nat.beq zs.length e) = true := by exact rfl) :
    KC E N P ops ⟨some d, .makeSlice t x y, ty, pos, af, gd⟩ st ⟨[], [(d, 0)]⟩ ⟨.c (.sl (d, 0) 0 ((List.replicate n.toNat z).map f).length), [((d, 0), some (.row e ((List.replicate n.toNat z).map f) true))]⟩ := by
  intro st' ha hfr hd cx a w Q hr
  simp only [Bool.and_eq_true] at hok hpos
  have he0 : 0 < e := Nat.le_of_ble_eq_true hpos.2
  have hb0 : 0 < by' := Nat.le_of_ble_eq_true hpos.1
  have e1 := (BB h1 hok.1.1 ha (by simp [Op.operands]) hr).1
  have e2 := (BB h2 hok.1.2 ha (by simp [Op.operands]) hr).1
  obtain ⟨i, hi1, hi2, hi3, hi4⟩ := EA hel
  have hzl : te.zero.cells.size = e := by have := Nat.eq_of_beq_eq_true hok.2; rw [← hz] at this; simpa using this
  have hnb : n ≤ 140737488355328 := by
    have h3 : n * 1 ≤ n * (by' : Nat) := Int.mul_le_mul_of_nonneg_left (by omega) hn.1
    omega
  have hrun := run_make (P := P) (w := w) t el i te.zero (Kr ht hk) hi1 hi4 k k' n n hn.1 (Int.le_refl _) (by rw [hi3, hbt, Int.mul_comm]; omega) (by omega)
  rw [hi2, hes] at hrun
  have hct' : GR st' (zs.map fun v => .p (.v v)) (f z) := by
    refine (GR.agree hct (fun b hb => ?_) : GR st' _ _)
    simp only [YR, List.mem_flatMap, List.mem_map] at hb
    obtain ⟨c, ⟨y, _, rfl⟩, h2⟩ := hb
    simp [CV.ment] at h2
  have hrz := IW hr hct' (F0 (cx := cx) (w := w) (h := st'.h) hz hat)
  have hfl : (f z).length = e := by have := hrz.1; rw [List.length_map] at this; omega
  have hmk : ∀ (i : Nat) (r : List PV) (k : Nat) (p : PV), ((List.replicate n.toNat z).map f)[i]? = some r → r[k]? = some p → ∃ cv, (madeCells te.zero.cells (n.toNat * e))[i * e + k]? = some cv ∧ RP w cx.A p cv := by
    intro i r k p hi hk
    rw [List.getElem?_map, Option.map_eq_some_iff] at hi
    obtain ⟨z', hz', rfl⟩ := hi
    have hil : i < n.toNat := by have := (List.getElem?_eq_some_iff.1 hz').1; simpa using this
    have : z' = z := by have := List.mem_of_getElem? hz'; exact (List.mem_replicate.1 this).2
    subst this
    obtain ⟨u, hu, h3, h4⟩ := hrz.2 k (.p p) (by rw [List.getElem?_map, hk]; rfl)
    have hkl : k < e := by have := (List.getElem?_eq_some_iff.1 hk).1; omega
    refine ⟨u, ?_, h4⟩
    have hlt : i * e + k < n.toNat * e := by
      have : (i + 1) * e ≤ n.toNat * e := Nat.mul_le_mul_right e hil
      rw [Nat.add_mul] at this
      omega
    have hmod : (i * e + k) % e = k := by rw [Nat.mul_comm, Nat.mul_add_mod]; exact Nat.mod_eq_of_lt hkl
    unfold madeCells
    rw [Array.getElem?_map, Array.getElem?_range, if_pos hlt, Option.map_some, hzl, hmod, ← hu]
    have hb : k < te.zero.cells.size := by omega
    rw [getElem!_pos te.zero.cells _ hb, Array.getElem?_eq_getElem hb]
  have hsz : (madeCells te.zero.cells (n.toNat * e)).size = n.toNat * e := size_madeCells _ _
  have hlen : ((List.replicate n.toNat z).map f).length = n.toNat := by simp
  refine Y8 (v := .slice (some ⟨w.heap.size, 0, none⟩) n.toNat n.toNat) (w' := w.alloc (.cells (madeCells te.zero.cells (n.toNat * e)) el)) (by simp only [execOp, e1, e2, Sem.run_bind, hrun]; rfl) ⟨_, YW (w' := w.alloc (.cells (madeCells te.zero.cells (n.toNat * e)) el)) (bk := .row e ((List.replicate n.toNat z).map f) true) (t := .c (.sl (d, 0) 0 ((List.replicate n.toNat z).map f).length)) hr hd (b := (d, 0)) (hd d rfl) (hfr (d, 0) (by simp)) (ob := .cells (madeCells te.zero.cells (n.toNat * e)) el) rfl rfl rfl rfl ?_ ?_⟩
  · refine ⟨he0, fun r hr' => ?_, ?_⟩
    · obtain ⟨z', hz', rfl⟩ := List.mem_map.1 hr'
      rw [(List.mem_replicate.1 hz').2]; exact hfl
    · simp only [Cx.upd, if_true]
      refine ⟨trivial, _, el, (0, 0), n.toNat, VI rfl, fun _ => ⟨rfl, fun h => ?_⟩, (fun h => by cases h), hsz, by rw [hlen]; exact Nat.le_refl _, by unfold maxLen; omega, fun i r k p hi hk => ?_⟩
      · have := (hr.A _ h).1; omega
      · obtain ⟨cv, h3, h4⟩ := hmk i r k p hi hk
        exact ⟨cv, h3, RP.keeps h4 (fun _ h => h) (Xh rfl)⟩
  · refine ⟨.inr rfl, fun bk hbk => ?_⟩
    rw [Xg, if_pos rfl] at hbk
    cases hbk
    refine ⟨_, n.toNat, by rw [hlen], by rw [hlen]; exact Nat.le_refl _, by unfold maxLen; omega, by simp [Bk.len], .inr ⟨w.heap.size, _, el, (0, 0), by simp [Cx.upd], by simp [Bk.e], VI rfl, fun _ => by simp [Bk.e, hsz]⟩⟩
theorem AJ {op : Op} {f : Fp} {t : TV} {fr : List (Nat × TV)} {H : List (QX × Option Bk)} {bl : List (QX × Option Bk)} {r : List Oper} {acc : List (Fp × Ef)} {K : List (Fp × Ef) → St → Prop} (hw : wn ops ⟨none, op, ty, pos, af, gd⟩ ⟨fr, H⟩ = some true) (hop : KC E N P ops ⟨none, op, ty, pos, af, gd⟩ ⟨fr, H⟩ f ⟨t, bl⟩) (h : Ua E N P ops r ((f, ⟨t, bl⟩) :: acc) ⟨fr, bl ++ H⟩ K) : Ua E N P ops (⟨none, op, ty, pos, af, gd⟩ :: r) acc ⟨fr, H⟩ K := ⟨f, ⟨t, bl⟩, .inl ⟨hw, hop⟩, h⟩
theorem Wj [T : Tb P] {α : Type} {f : α → List PV} {t e sz : Nat} {tt te : TE} (ht : ZA T.ty t = some tt := by exact rfl) (hk : tt.kd = .slice e := by exact rfl) (hel : ZA T.ty e = some te := by exact rfl) (hsz : te.size = sz := by exact rfl) (hpos : Nat.blt 0 sz = true := by exact rfl) :
    KC E N P ops ⟨some d, .buildSlice t 0 #[], ty, pos, af, gd⟩ st ⟨[], [(d, 0)]⟩ ⟨.c (.sl (d, 0) 0 (([] : List α).map f).length), [((d, 0), some (.row sz (([] : List α).map f) true))]⟩ := by
  intro st' ha hfr hd cx a w Q hr
  have hpos := Nat.le_of_ble_eq_true hpos
  obtain ⟨i, hi1, hi2, hi3, hi4⟩ := EA hel
  have hrun : (Instr.buildSlice t 0 #[]).run P w = .ok (.slice (some ⟨w.heap.size, 0, none⟩) 0 0) (w.alloc (.cells #[] e)) := by
    simp [Instr.buildSlice, run_underlying (Kr ht hk), sizeOf, typeInfo, hi1, Instr.fill, newRow, Array.range_zero']
  refine Y8 (v := .slice (some ⟨w.heap.size, 0, none⟩) 0 0) (w' := w.alloc (.cells #[] e)) (by simp only [execOp, Sem.run_bind]; rw [show (#[] : Array (Nat × Operand)).map (fun x => (x.fst, a.eval x.snd)) = #[] from by simp, hrun]; rfl) ⟨_, YW (w' := w.alloc (.cells #[] e)) (bk := .row sz [] true) (t := .c (.sl (d, 0) 0 0)) hr hd (b := (d, 0)) (hd d rfl) (hfr (d, 0) (by simp)) (ob := .cells #[] e) rfl rfl rfl rfl ?_ ?_⟩
  · refine ⟨hpos, by simp, ?_⟩
    simp only [Cx.upd, if_true]
    exact ⟨trivial, #[], e, (0, 0), 0, VI rfl, fun _ => ⟨rfl, fun h => by have := (hr.A _ h).1; omega⟩, (fun h => by cases h), by simp, by simp, by unfold maxLen; omega, fun i r k p hi hk => by simp at hi⟩
  · refine ⟨.inr rfl, fun bk hbk => ?_⟩
    rw [Xg, if_pos rfl] at hbk
    cases hbk
    exact ⟨_, 0, rfl, Nat.le_refl _, by unfold maxLen; omega, by simp [Bk.len], .inl rfl⟩
end
section
variable {E : En} {N : Nat} {P : Program} {Q : Exit → St → Prop} {st : St}
end
section
variable {P : Program} {w w' : World}
theorem HX {A : Nat → Prop} {gs : Nat → Option Nat} {g q g' q' : Nat} (hg : w.grownBy w' none) (hA : ∀ x, A x → x < w.heap.size) : ∀ {avs : List AV} {vs : List Value}, avs.any AV.isRef = false → Mr w A gs g q avs vs → Mr w' A gs g' q' avs vs := by
  intro avs
  induction avs with
  | nil => intro vs _ h; cases vs with | nil => trivial | cons v vs => exact h.elim
  | cons a avs ih =>
    intro vs hn h
    cases vs with
    | nil => exact h.elim
    | cons v vs =>
      simp only [List.any_cons, Bool.or_eq_false_iff] at hn
      refine ⟨?_, ih hn.2 h.2⟩
      have hm : ∀ {p : PV} {u : Value}, RP w A p u → RP w' A p u := fun h => h.mono (fun _ h => h) hg.size (fun x hx hl => hg.block x hl (by simp))
      have hcs : ∀ {n : Nat} {xs : List PV} {us : List Value}, Do w A (fun _ => none) n (xs.map .p) us → Do w' A (fun _ => none) n (xs.map .p) us := by
        intro n xs
        induction xs generalizing n with
        | nil => intro us h; cases us with | nil => trivial | cons u us => exact h.elim
        | cons x xs ih2 =>
          intro us h
          cases us with
          | nil => exact h.elim
          | cons u us => exact ⟨h.1, hm h.2.1, ih2 h.2.2⟩
      cases a with
      | c x => exact hm h.1
      | agg xs => obtain ⟨us, h1, h2⟩ := h.1; exact ⟨us, h1, hcs h2⟩
      | ref cs => exact absurd hn.1 (by simp [AV.isRef])
theorem Uc {f : FuncId} {avs : List AV} {x : Value} {vs : Array Value} {A : Nat → Prop} {g q : Nat} (hc : Qp P f avs [.c (.p (.v x))] []) (hn : avs.any AV.isRef = false) (hA : ∀ x, A x → x < w.heap.size) (hR : Mr w A (fun _ => none) g q avs vs.toList) :
    Calls P f vs w fun e w' => e = .returned x ∧ w.grownBy w' none := by
  refine (hc.run A (fun _ => none) w.heap.size 0 w vs hA (fun n m x h => by cases h) (fun n x h => by cases h) (fun _ => ⟨fun _ => rfl, rfl⟩) (HX ⟨rfl, rfl, rfl, Nat.le_refl _, fun _ _ _ => rfl⟩ hA hn hR)).mono ?_
  rintro e w' ⟨v, A', gs', h1, h2, h3, h4, h5, h6, h7, h8, h9, h10, h11, h12⟩
  have hv : v = x := by
    have := h11.2.1
    cases this with | v _ _ => rfl
  subst hv
  exact ⟨h1, h6, h7, h8, h4, fun k hk _ => h5 k hk (by omega) (fun n h => by cases h)⟩
theorem F6 {f : FuncId} {avs : List AV} {x : Value} (he : M6 P f = true) (hx : KE x = true) (hn : avs.any AV.isRef = false) (h : ∀ A q w vs, (∀ x, A x → x < w.heap.size) → Mr w A (fun _ => none) w.heap.size q avs vs.toList → Calls P f vs w fun e w' => e = .returned x ∧ w.grownBy w' none) : Qp P f avs [.c (.p (.v x))] [] := by
  refine ⟨he, fun A gs g q w vs hA hinj hgs hg hR => ?_⟩
  obtain ⟨hg1, rfl⟩ := hg hn
  have e : gs = fun _ => none := funext hg1
  subst e
  refine (h A q w vs hA hR).mono ?_
  rintro _ w' ⟨rfl, hgr⟩
  exact ⟨x, A, fun _ => none, rfl, fun _ h => h, fun _ h => .inl h, hgr.size, fun y hy _ _ => hgr.block y hy (by simp), hgr.os, hgr.tape, hgr.output, fun n m y h => (by cases h), fun n y h => (by cases h), ⟨Jr hx, .v x hx, trivial⟩, fun h => by rw [hn] at h; cases h⟩
end
end Go.Proofs.YtpnpodbihdiegaaGreat
namespace Go.Proofs.YtpnpodbihdiegaaGreat
open Go.RowKit Go.ChangeShapes Go.WideShapes
theorem ret_b {x y : Bool} (h : x = y) : Ending.returned (.bool x) = .returned (.bool y) := by rw [h]
end Go.Proofs.YtpnpodbihdiegaaGreat
namespace Go.Proofs.YtpnpodbihdiegaaGreat
open Go.RowKit Go.ChangeShapes Go.WideShapes
theorem Kl {σ : Type} {step : (σ → Prop) → σ → Prop} (I : Nat → σ → Prop) (h : ∀ k s, I k s → ∀ X : σ → Prop, (∀ k' s', k' < k → I k' s' → X s') → step X s) {k : Nat} {s : σ} (h0 : I k s) : lp step s := by
  intro X hX
  have key : ∀ k s, I k s → X s := by
    intro k
    induction k using Nat.strongRecOn with
    | _ k ih => exact fun s hs => hX s (h k s hs X fun k' s' hk hs' => ih k' hk s' hs')
  exact key k s h0
theorem V2 {α : Type} {l : List α} {n : Int} {j : Nat} {x : α} (hn : n = (j : Int)) (h : l[j]? = some x) : ix l n x := by
  subst hn; exact ⟨by omega, by simpa using h⟩
theorem bx_of {s : ByteArray} {n v : Int} {j : Nat} (hn : n = (j : Int)) (hj : j < s.size) (h : v = (s[j].toNat : Int)) : bx s n v := by
  subst hn; exact ⟨by omega, s[j], by simp [hj], h⟩
theorem Zs {n : Int} (h : -9223372036854775808 ≤ n ∧ n ≤ 9223372036854775807) : IntKind.i64.wrap n = n := by rw [IntKind.wrap_i64]; omega
def wI (n lo hi : Int) : Bool := decide (lo ≤ n ∧ n ≤ hi)
def GM {R : Type} (G G' : (R → Prop) → Prop) : Prop := ∀ Post : R → Prop, G Post → ∃ r, G' (fun x => r = x) ∧ Post r
section
variable {R α σ : Type}
theorem GM.ret (e : R) : GM (fun Q => Q e) (fun Q => Q e) := fun Post h => ⟨e, rfl, h⟩
theorem GM.and {p : Prop} {G G' : (R → Prop) → Prop} (h : GM G G') : GM (fun Q => p ∧ G Q) (fun Q => p ∧ G' Q) := fun Post ⟨hp, hg⟩ => let ⟨r, h1, h2⟩ := h Post hg; ⟨r, ⟨hp, h1⟩, h2⟩
theorem GM.ex {p : α → Prop} {G G' : α → (R → Prop) → Prop} (h : ∀ a, GM (G a) (G' a)) : GM (fun Q => ∃ a, p a ∧ G a Q) (fun Q => ∃ a, p a ∧ G' a Q) := fun Post ⟨a, hp, hg⟩ => let ⟨r, h1, h2⟩ := h a Post hg; ⟨r, ⟨a, hp, h1⟩, h2⟩
theorem GM.cond {c : Bool} {A A' B B' : (R → Prop) → Prop} (h1 : GM A A') (h2 : GM B B') : GM (fun Q => (c = true → A Q) ∧ (c = false → B Q)) (fun Q => (c = true → A' Q) ∧ (c = false → B' Q)) := fun Post h => by
  cases c with
  | true => obtain ⟨r, h3, h4⟩ := h1 Post (h.1 rfl); exact ⟨r, ⟨fun _ => h3, (fun h => by cases h)⟩, h4⟩
  | false => obtain ⟨r, h3, h4⟩ := h2 Post (h.2 rfl); exact ⟨r, ⟨(fun h => by cases h), fun _ => h3⟩, h4⟩
theorem GM.join {k k' : α → (R → Prop) → Prop} {m m' : (α → Prop) → (R → Prop) → Prop} (h1 : ∀ p, GM (k p) (k' p)) (h2 : ∀ K K' : α → (R → Prop) → Prop, (∀ p, GM (K p) (K' p)) → GM (fun Q => m (fun p => K p Q) Q) (fun Q => m' (fun p => K' p Q) Q)) :
    GM (fun Q => jn (fun p => k p Q) (fun J => m J Q)) (fun Q => jn (fun p => k' p Q) (fun J => m' J Q)) := h2 k k' h1
theorem GM.loop {step step' : (σ → Prop) → σ → (R → Prop) → Prop} {s0 : σ} (hm : ∀ (X Y : σ → Prop) (Q : R → Prop) (s : σ), (∀ s, X s → Y s) → step' X s Q → step' Y s Q)
    (h : ∀ K K' : σ → (R → Prop) → Prop, (∀ s, GM (K s) (K' s)) → ∀ s, GM (fun Q => step (fun s => K s Q) s Q) (fun Q => step' (fun s => K' s Q) s Q)) :
    GM (fun Q => lp (fun (X : σ → Prop) (s : σ) => step X s Q) s0) (fun Q => lp (fun (X : σ → Prop) (s : σ) => step' X s Q) s0) := by
  intro Post hl
  have hl : lp (fun (X : σ → Prop) (s : σ) => step X s Post) s0 := hl
  refine hl (fun (s : σ) => ∃ r, lp (fun (X : σ → Prop) (s : σ) => step' X s (fun x => r = x)) s ∧ Post r) fun s hs => ?_
  obtain ⟨r, h1, h2⟩ := h (fun s Q => ∃ r, lp (fun (X : σ → Prop) (s : σ) => step' X s (fun x => r = x)) s ∧ Q r) (fun s Q => lp (fun (X : σ → Prop) (s : σ) => step' X s Q) s) (fun s P ⟨r, h1, h2⟩ => ⟨r, h1, h2⟩) s Post hs
  exact ⟨r, fun X hX => hX s (hm _ _ _ s (fun s' h' => h' X hX) h1), h2⟩
end
theorem Yd {α : Type} {k k' : α → Prop} {m m' : (α → Prop) → Prop} (h : jn k m) (h1 : ∀ p, k p → k' p) (h2 : ∀ J J' : α → Prop, (∀ p, J p → J' p) → m J → m' J') : jn k' m' := h2 k k' h1 h
theorem C1 {σ : Type} {step step' : (σ → Prop) → σ → Prop} {s0 : σ} (h : lp step s0) (hi : ∀ X Y : σ → Prop, (∀ s, X s → Y s) → ∀ s, step X s → step' Y s) : lp step' s0 := fun Y hY => h Y fun s hs => hY s (hi Y Y (fun _ h => h) s hs)
section
variable {E : En} {N : Nat} {P : Program} {T : Tb P} {ops : Array Oper} {o : Oper} {st : St} {r : List Oper} {acc : List (Fp × Ef)} {K : List (Fp × Ef) → St → Prop} {d : Nat} {ty : Nat} {pos : String} {af : Array Edge} {op : Op} {f : Fp} {t : TV} {fr : List (Nat × TV)} {H : List (QX × Option Bk)} {Q : Exit → St → Prop}
theorem u0 (hop : KC E N P ops ⟨some d, op, ty, pos, af, none⟩ ⟨fr, H⟩ f ⟨t, []⟩) (h : Ua E N P ops r ((f, ⟨t, []⟩) :: acc) ⟨(d, t) :: fr, H⟩ K) : Ua E N P ops (⟨some d, op, ty, pos, af, none⟩ :: r) acc ⟨fr, H⟩ K := NW rfl hop h
theorem u1 {b1 : QX × Option Bk} (hop : KC E N P ops ⟨some d, op, ty, pos, af, none⟩ ⟨fr, H⟩ f ⟨t, [b1]⟩) (h : Ua E N P ops r ((f, ⟨t, [b1]⟩) :: acc) ⟨(d, t) :: fr, b1 :: H⟩ K) : Ua E N P ops (⟨some d, op, ty, pos, af, none⟩ :: r) acc ⟨fr, H⟩ K := NX rfl hop h
theorem un {b1 : QX × Option Bk} (hop : KC E N P ops ⟨none, op, ty, pos, af, none⟩ ⟨fr, H⟩ f ⟨t, [b1]⟩) (h : Ua E N P ops r ((f, ⟨t, [b1]⟩) :: acc) ⟨fr, b1 :: H⟩ K) : Ua E N P ops (⟨none, op, ty, pos, af, none⟩ :: r) acc ⟨fr, H⟩ K := NY rfl hop h
theorem ul {bl : List (QX × Option Bk)} (hop : KC E N P ops ⟨some d, op, ty, pos, af, none⟩ ⟨fr, H⟩ f ⟨t, bl⟩) (h : Ua E N P ops r ((f, ⟨t, bl⟩) :: acc) ⟨(d, t) :: fr, bl ++ H⟩ K) : Ua E N P ops (⟨some d, op, ty, pos, af, none⟩ :: r) acc ⟨fr, H⟩ K := Oh rfl hop h
theorem rt {L : St → Prop} (h : L st) (h1 : GC acc.reverse = true := by kernel_rfl) {st0 : St} (h2 : Yc st0 acc = true := by kernel_rfl) : Ua E N P ops [] acc st fun acc st' => GC acc.reverse = true ∧ Yc st0 acc = true ∧ L st' := GD ⟨h1, h2, h⟩
theorem rd {L : St → Prop} {l : List Oper} (h : L st) (h1 : Ix l acc.reverse = true := by kernel_rfl) {st0 : St} (h2 : Yc st0 acc = true := by kernel_rfl) : Ua E N P ops [] acc st fun acc st' => Ix l acc.reverse = true ∧ Yc st0 acc = true ∧ L st' := GD ⟨h1, h2, h⟩
theorem tk {x : List Oper} {id : Nat} {y : Code} (h : ∀ L : St → Prop, (∀ st, AW E N P y Q st → L st) → Ua E N P x.toArray x [] st fun acc st' => GC acc.reverse = true ∧ Yc st acc = true ∧ L st') (hN : Iy N x = true := by kernel_rfl) : AW E N P (.seq (.region id x.toArray false) y) Q st := MU hN h
theorem dk (hm : P.follows .mixedOrders = true) {x : List Oper} {id : Nat} {y : Code} (h : ∀ L : St → Prop, (∀ st, AW E N P y Q st → L st) → Ua E N P x.toArray x [] st fun acc st' => Ix x acc.reverse = true ∧ Yc st acc = true ∧ L st') (hS : My N x = true := by kernel_rfl) : AW E N P (.seq (.region id x.toArray true) y) Q st := MV hm hS h
theorem tl {x : List Oper} {id : Nat} (h : ∀ L : St → Prop, (∀ st, Q .normal st → L st) → Ua E N P x.toArray x [] st fun acc st' => GC acc.reverse = true ∧ Yc st acc = true ∧ L st') (hN : Iy N x = true := by kernel_rfl) : AW E N P (.region id x.toArray false) Q st := EB hN (h _ fun _ h => h)
theorem dl (hm : P.follows .mixedOrders = true) {x : List Oper} {id : Nat} (h : ∀ L : St → Prop, (∀ st, Q .normal st → L st) → Ua E N P x.toArray x [] st fun acc st' => Ix x acc.reverse = true ∧ Yc st acc = true ∧ L st') (hS : My N x = true := by kernel_rfl) : AW E N P (.region id x.toArray true) Q st := Lr hm hS (h _ fun _ h => h)
theorem sk {x y : Code} (h : ∀ K : St → Prop, (∀ st, AW E N P y Q st → K st) → AW E N P x (Gn Q K) st) : AW E N P (.seq x y) Q st := GO h
end
section
variable {E : En} {N : Nat} {P : Program} {T : Tb P} {ops : Array Oper} {o : Oper} {st : St} {d : Nat} {ty : Nat} {pos : String} {af : Array Edge} {gd : Option (Nat × Bool)} {cx : Cx} {a : Act} {w w' : World} {v : Value}
theorem Wk {Q : Exit → St → Prop} {id d1 d2 k t t' ty1 ty2 e el : Nat} {pos1 pos2 : String} {af1 af2 : Array Edge} {fr : List (Nat × TV)} {H : List (QX × Option Bk)} {rows : List (List PV)} {tt : TE}
    (h1 : (⟨fr, H⟩ : St).g k = .c (.p (.l e rows))) (ht : ZA T.ty t = some tt) (hk : tt.kd = .slice el) (hd1 : Nat.blt d1 N = true) (hd2 : Nat.blt d2 N = true)
    (hT : rows = [] → Q .normal ⟨(d2, .c (.p (.v (.bool true)))) :: (d1, .c (.p (.l e rows))) :: fr, H⟩)
    (hF : Q .normal ⟨(d2, .c (.p (.v (.bool false)))) :: (d1, .c (.p (.l e rows))) :: fr, H⟩) :
    AW E N P (.region id #[⟨some d1, .move (.tmp k), ty1, pos1, af1, none⟩, ⟨some d2, .binOp .eql t (.tmp d1) (.const (.slice none 0 0)) t', ty2, pos2, af2, none⟩] false) Q ⟨fr, H⟩ := by
  intro cx a w hr
  have hd1 := Nat.le_of_ble_eq_true hd1
  have hd2 := Nat.le_of_ble_eq_true hd2
  have r0 := hr.fr k
  rw [h1] at r0
  refine wp_region ?_
  show wpOps P _ _ [0, 1] a w
  rw [wpOps_cons]
  unfold wpOp
  simp only [List.getElem?_toArray, List.getElem?_cons_zero]
  have hr1 : ZY E N cx ⟨(d1, .c (.p (.l e rows))) :: fr, H⟩ (a.put (some d1) (a.eval (.tmp k))) w :=
    hr.put (o := ⟨some d1, .move (.tmp k), ty1, pos1, af1, none⟩) (fun d h => by cases h; exact hd1) r0
  have step2 : wpOps P #[⟨some d1, .move (.tmp k), ty1, pos1, af1, none⟩, ⟨some d2, .binOp .eql t (.tmp d1) (.const (.slice none 0 0)) t', ty2, pos2, af2, none⟩] (fun e a' w' => ∃ st' cx', Q e st' ∧ ZY E N cx' st' a' w') [1] (a.put (some d1) (a.eval (.tmp k))) w := by
    rw [wpOps_cons]
    unfold wpOp
    simp only [List.getElem?_toArray, List.getElem?_cons_succ, List.getElem?_cons_zero]
    have r1 : RT cx w (⟨(d1, .c (.p (.l e rows))) :: fr, H⟩ : St).h (.c (.p (.l e rows))) ((a.put (some d1) (a.eval (.tmp k))).tmps.getD d1 undef) := by
      have h := hr1.fr d1
      have hg : (⟨(d1, .c (.p (.l e rows))) :: fr, H⟩ : St).g d1 = .c (.p (.l e rows)) := by simp [St.g, ZA]
      rwa [hg] at h
    generalize a.put (some d1) (a.eval (.tmp k)) = a1 at hr1 r1
    have r2 : RP w cx.A (.l e rows) (a1.eval (.tmp d1)) := r1.2
    have hw : Region.wanted (⟨some d2, .binOp .eql t (.tmp d1) (.const (.slice none 0 0)) t', ty2, pos2, af2, none⟩ : Oper) (yielded #[⟨some d1, .move (.tmp k), ty1, pos1, af1, none⟩, ⟨some d2, .binOp .eql t (.tmp d1) (.const (.slice none 0 0)) t', ty2, pos2, af2, none⟩] a1.tmps) = true := rfl
    rw [if_pos hw]
    revert r2
    generalize hv : a1.eval (.tmp d1) = v
    intro r2
    have hrun : ∀ x n c, v = .slice x n c → (execOp a1.eval ⟨some d2, .binOp .eql t (.tmp d1) (.const (.slice none 0 0)) t', ty2, pos2, af2, none⟩).run P w = .ok (.value (.bool x.isNone)) w := by
      intro x n c e1
      have hb := Lib.run_eql_slice_nil w t el x n c 0 0 (Kr ht hk)
      have hg : (eqGuard .eql t (.tmp d1) (.const (.slice none 0 0)) (.slice x n c) (.slice none 0 0)).run P w = .ok () w := Wa (fun cs => by simp) (by simp) w
      simp only [execOp, hv, e1, Sem.run_bind]
      rw [show a1.eval (.const (.slice none 0 0)) = .slice none 0 0 from rfl, hg]
      simp only [Result.andThen_ok, hb, Sem.run_pure]
    refine .inl ?_
    cases r2 with
    | l _ _ x cap c q1 q2 q3 q4 q5 =>
      refine Y8 (v := .bool x.isNone) (w' := w) (hrun x _ _ rfl) ?_
      have hput : ∀ b : Bool, ZY E N cx ⟨(d2, .c (.p (.v (.bool b)))) :: (d1, .c (.p (.l e rows))) :: fr, H⟩ (a1.put (some d2) (.bool b)) w := fun b =>
        hr1.put (o := ⟨some d2, .binOp .eql t (.tmp d1) (.const (.slice none 0 0)) t', ty2, pos2, af2, none⟩) (fun d h => by cases h; exact hd2) ⟨.inr rfl, .v _ rfl⟩
      cases x with
      | none =>
        have h0 : rows = [] := by
          rcases q4 with h | ⟨g, off, h, _⟩
          · exact h
          · cases h
        exact ⟨_, cx, hT h0, hput true⟩
      | some x => exact ⟨_, cx, hF, hput false⟩
  have hw : Region.wanted (⟨some d1, .move (.tmp k), ty1, pos1, af1, none⟩ : Oper) (yielded #[⟨some d1, .move (.tmp k), ty1, pos1, af1, none⟩, ⟨some d2, .binOp .eql t (.tmp d1) (.const (.slice none 0 0)) t', ty2, pos2, af2, none⟩] a.tmps) = true := rfl
  rw [if_pos hw]
  refine .inl (Y8 (v := a.eval (.tmp k)) (w' := w) ?_ step2)
  simp only [execOp, Sem.run_bind, Sem.run_pure]
end
section
variable {E : En} {N : Nat} {P : Program} {T : Tb P} {ops : Array Oper} {o : Oper} {st : St} {d : Nat} {ty : Nat} {pos : String} {af : Array Edge} {gd : Option (Nat × Bool)} {cx : Cx} {a : Act} {w w' : World} {v : Value}
theorem N5 {a b : Bool} (h : (bif a then b else false) = true) : a = true := by cases a; exact h; rfl
end
def gd {α : Type} : Bool → Option α → Option α
  | true, x => x
  | false, _ => none
theorem Ks {α : Type} {b : Bool} {x : Option α} {y : α} (h : gd b x = some y) : b = true ∧ x = some y := by
  cases b
  · cases h
  · exact ⟨rfl, h⟩
def CQ {α : Type} : List α → Nat → Nat → Option (List α)
  | _, 0, 0 => some []
  | [], _, _ => none
  | a :: l, 0, n + 1 => match CQ l 0 n with
    | some r => some (a :: r)
    | none => none
  | _ :: l, k + 1, n => CQ l k n
theorem UR {α : Type} : ∀ {l : List α} {k n : Nat} {r : List α}, CQ l k n = some r → (l.drop k).take n = r ∧ r.length = n
  | l, 0, 0, r, h => by
    have : r = [] := by cases l <;> simp [CQ] at h <;> exact h
    subst this; simp
  | [], 0, n + 1, r, h => by simp [CQ] at h
  | [], k + 1, n, r, h => by cases n <;> simp [CQ] at h
  | a :: l, 0, n + 1, r, h => by
    simp only [CQ] at h
    cases h1 : CQ l 0 n with
    | none => rw [h1] at h; cases h
    | some r' =>
      rw [h1] at h; cases h
      have := UR h1
      simp only [List.drop_zero] at this
      simp [this.1, this.2]
  | a :: l, k + 1, n, r, h => by
    have h1 : CQ l k n = some r := by cases n <;> exact h
    simpa using UR h1
def Ee {α : Type} : List α → Nat → List α → Option (List α)
  | l, 0, [] => some l
  | _ :: l, 0, v :: vs => match Ee l 0 vs with
    | some r => some (v :: r)
    | none => none
  | c :: l, k + 1, vs => match Ee l k vs with
    | some r => some (c :: r)
    | none => none
  | [], _, _ => none
theorem EE {α : Type} : ∀ {l : List α} {k : Nat} {vs r : List α}, Ee l k vs = some r → setAt l k vs = r
  | l, 0, [], r, h => by cases l <;> simp [Ee] at h <;> subst h <;> rfl
  | [], 0, v :: vs, r, h => by simp [Ee] at h
  | [], k + 1, vs, r, h => by cases vs <;> simp [Ee] at h
  | c :: l, 0, v :: vs, r, h => by
    simp only [Ee] at h
    cases h1 : Ee l 0 vs with
    | none => rw [h1] at h; cases h
    | some r' => rw [h1] at h; cases h; simp only [setAt, EE h1]
  | c :: l, k + 1, vs, r, h => by
    have h2 : (match Ee l k vs with | some r => some (c :: r) | none => none) = some r := by cases vs <;> exact h
    cases h1 : Ee l k vs with
    | none => rw [h1] at h2; cases h2
    | some r' => rw [h1] at h2; cases h2; simp only [setAt, EE h1]
def intW : BinOp → IntKind → Int → Int → Option Value
  | .and, k, a, b => some (.int k (Zg k a b))
  | .or, k, a, b => some (.int k (bOr k a b))
  | .xor, k, a, b => some (.int k (F1 k a b))
  | .andNot, k, a, b => some (.int k (Oi k a b))
  | o, k, a, b => CI o k a b
theorem Om {o : BinOp} {k : IntKind} {a b : Int} : intW o k a b = CI o k a b := by cases o <;> rfl
def shW : BinOp → IntKind → Int → Int → Option Value
  | .shl, k, a, b => gd (decide (0 ≤ b)) (some (.int k (Wi k a b)))
  | .shr, k, a, b => gd (decide (0 ≤ b)) (some (.int k (QT k a b)))
  | _, _, _, _ => none
def OV : BinOp → Bool → Bool → Option Bool
  | .eql, a, b => some (a == b)
  | .neq, a, b => some (!(a == b))
  | _, _, _ => none
def isSh : BinOp → Bool
  | .shl | .shr => true
  | _ => false
variable {P : Program}
def N6 (T : Tb P) (st : St) : Op → Option (List QX × TV)
  | .move x => gd (Zr x) (match st.ev x with
    | .c y => some ([], .c y)
    | .agg y => some ([], .agg y)
    | .tup y => some ([], .tup y))
  | .assign x => gd (Zr x) (match st.ev x with
    | .c y => some ([], .c y)
    | .agg y => some ([], .agg y)
    | .tup y => some ([], .tup y))
  | .nilCheck x => match st.ev x with
    | .c (.ptr b i k) => gd (Zr x && (st.h b).isSome) (some ([b], .c (.ptr b i k)))
    | _ => none
  | .fieldAddr s x f => match ZA T.ty s with
    | none => none
    | some ts => match ts.kd with
      | .struct fs => match fs[f]? with
        | none => none
        | some (off, ft) => match ZA T.ty ft with
          | none => none
          | some tf => gd (Zr x && !(Nat.beq tf.size 0)) (match st.ev x with
            | .c (.ptr b i k) => gd (st.h b).isSome (some ([b], .c (.ptr b i (Nat.add k off))))
            | .c (.ep r k) => some ([], .c (.ep r (Nat.add k off)))
            | _ => none)
      | _ => none
  | .load t x => match ZA T.ty t with
    | none => none
    | some te => gd (Zr x) (match st.ev x with
      | .c (.ptr b 0 k) => match st.h b with
        | some (.box all) => match te.kd.agg with
          | false => match all[k]? with
            | some c => some ([b], .c c)
            | none => none
          | true => match Nat.beq k 0 && Nat.beq all.length te.size with
            | true => some ([b], .agg all)
            | false => match CQ all k te.size with
              | some cs => some ([b], .agg cs)
              | none => none
        | _ => none
      | .c (.ep r k) => match te.kd.agg with
        | false => match r[k]? with
          | some p => some ([], .c (.p p))
          | none => none
        | true => match Nat.beq k 0 && Nat.beq r.length te.size with
          | true => some ([], .agg (r.map .p))
          | false => match CQ r k te.size with
            | some ps => some ([], .agg (ps.map .p))
            | none => none
      | _ => none)
  | .extract x i => gd (Zr x) (match st.ev x with
    | .tup ts => match ts[i]? with
      | some (.c y) => some ([], .c y)
      | some (.agg y) => some ([], .agg y)
      | _ => none
    | _ => none)
  | .unOp .not _ x => gd (Zr x) (match st.ev x with
    | .c (.p (.v (.bool b))) => some ([], .c (.p (.v (.bool (!b)))))
    | _ => none)
  | .unOp .neg _ x => gd (Zr x) (match st.ev x with
    | .c (.p (.v (.int k a))) => some ([], .c (.p (.v (.int k (k.wrap (0 - a))))))
    | _ => none)
  | .binOp o xt x y _ => gd (Zr x && Zr y) (match st.ev x, st.ev y with
    | .c (.p (.v (.int k a))), .c (.p (.v (.int k' b))) => match isSh o with
      | true => match shW o k a b with
        | some z => some ([], .c (.p (.v z)))
        | none => none
      | false => match decide (k = k') with
        | true => match intW o k a b with
          | some z => some ([], .c (.p (.v z)))
          | none => none
        | false => none
    | .c (.p (.v (.string a))), .c (.p (.v (.string b))) => match MF o a b with
      | some c => some ([], .c (.p (.v (.bool c))))
      | none => none
    | .c (.p (.v (.bool a))), .c (.p (.v (.bool b))) => match (ZA T.ty xt).map (·.kd) with
      | some KD.bool => match OV o a b with
        | some c => some ([], .c (.p (.v (.bool c))))
        | none => none
      | _ => none
    | _, _ => none)
  | .convert s t x => match ZA T.ty s with
    | none => none
    | some ts => match ZA T.ty t with
      | none => none
      | some te => match te.kd with
        | .int k' => gd (Zr x) (match st.ev x with
          | .c (.p (.v (.int k a))) => some ([], .c (.p (.v (.int k' (k'.wrap a)))))
          | _ => none)
        | _ => none
  | .build t parts => match ZA T.ty t with
    | none => none
    | some tt => match tt.kd with
      | .struct fs => match IO T.ty fs with
        | none => none
        | some pl => gd (tt.zero.cells.toList.all KE && parts.toList.all (fun x => Zr x.2)) (match E5 (fun i => pl[i]?) (tt.zero.cells.toList.map fun v => .p (.v v)) (parts.toList.map fun x => (x.1, st.ev x.2)) with
          | none => none
          | some cs => gd (Nat.beq cs.length tt.size) (match CQ cs 0 tt.size with
            | some cs' => some ([], .agg cs')
            | none => none))
      | _ => none
  | _ => none
variable {E : En} {N : Nat} {T : Tb P} {ops : Array Oper} {st : St} {d : Nat} {ty : Nat} {pos : String} {af : Array Edge} {gg : Option (Nat × Bool)}
theorem LD {α : Type} {l r : List α} {n : Nat} (h : CQ l 0 n = some r) (hl : Nat.beq l.length n = true) : l = r := by
  have := (UR h).1
  rw [← this, List.drop_zero, ← Nat.eq_of_beq_eq_true hl, List.take_length]
theorem N7 {op : Op} {rb : List QX} {t : TV} (h : N6 T st op = some (rb, t)) : KC E N P ops ⟨some d, op, ty, pos, af, gg⟩ st ⟨rb, []⟩ ⟨t, []⟩ := by
  unfold N6 at h
  split at h
  · obtain ⟨hc, h⟩ := Ks h
    split at h <;> cases h <;> exact EP hc (by assumption)
  · obtain ⟨hc, h⟩ := Ks h
    split at h <;> cases h <;> exact EQ hc (by assumption)
  · split at h
    · rename_i hx
      obtain ⟨hc, h⟩ := Ks h
      cases h
      simp only [Bool.and_eq_true] at hc
      exact GE hx hc.2 hc.1
    · cases h
  · split at h
    · cases h
    · rename_i ts hs
      split at h
      · rename_i fs hk
        split at h
        · cases h
        · rename_i off ft hf
          split at h
          · cases h
          · rename_i tf hft
            obtain ⟨hc, h⟩ := Ks h
            simp only [Bool.and_eq_true, Bool.not_eq_true'] at hc
            split at h
            · rename_i hx
              obtain ⟨hb, h⟩ := Ks h
              cases h
              exact Q7 hx hb hs hk hf hft hc.2 rfl hc.1
            · rename_i hx
              cases h
              exact ZM hx hs hk hf hft hc.2 rfl hc.1
            · cases h
      · cases h
  · split at h
    · cases h
    · rename_i te ht
      obtain ⟨hc, h⟩ := Ks h
      split at h
      · rename_i hx
        split at h
        · rename_i all hb
          split at h
          · rename_i hk
            split at h
            · rename_i hc3; cases h; exact Q3 hx hb hc3 ht hk hc
            · cases h
          · rename_i hk
            split at h
            · rename_i h0
              simp only [Bool.and_eq_true] at h0
              have e1 := Nat.eq_of_beq_eq_true h0.1
              have e2 := Nat.eq_of_beq_eq_true h0.2
              cases h
              refine QO hx hb ht hk ?_ e2 hc
              rw [e1, List.drop_zero, ← e2, List.take_length]
            · split at h
              · rename_i hcut; cases h; exact QO hx hb ht hk (UR hcut).1 (UR hcut).2 hc
              · cases h
        · cases h
      · rename_i hx
        split at h
        · rename_i hk
          split at h
          · rename_i hp; cases h; exact Zl hx hp ht hk hc
          · cases h
        · rename_i hk
          split at h
          · rename_i h0
            simp only [Bool.and_eq_true] at h0
            have e1 := Nat.eq_of_beq_eq_true h0.1
            have e2 := Nat.eq_of_beq_eq_true h0.2
            cases h
            refine Vu hx ht hk (ps := _) ?_ rfl (by rw [List.length_map]; exact e2) hc
            rw [e1, List.drop_zero, ← e2, List.take_length]
          · split at h
            · rename_i hcut; cases h; exact Vu hx ht hk (UR hcut).1 rfl (by rw [List.length_map]; exact (UR hcut).2) hc
            · cases h
      · cases h
  · obtain ⟨hc, h⟩ := Ks h
    split at h
    · rename_i hx
      split at h
      · rename_i hi; cases h; exact Uk hx hi hc
      · rename_i hi; cases h; exact FI hx hi hc
      · cases h
    · cases h
  · obtain ⟨hc, h⟩ := Ks h
    split at h
    · rename_i hx; cases h; exact QY hx rfl hc
    · cases h
  · obtain ⟨hc, h⟩ := Ks h
    split at h
    · rename_i hx; cases h; exact O4 hx rfl hc
    · cases h
  · obtain ⟨hc, h⟩ := Ks h
    simp only [Bool.and_eq_true] at hc
    split at h
    · rename_i hx hy
      split at h
      · split at h
        · rename_i hz
          cases h
          unfold shW at hz
          split at hz
          · obtain ⟨hb, hz⟩ := Ks hz; cases hz; exact HU (of_decide_eq_true hb) hx hy hc.1 hc.2
          · obtain ⟨hb, hz⟩ := Ks hz; cases hz; exact F2 (of_decide_eq_true hb) hx hy hc.1 hc.2
          · cases hz
        · cases h
      · split at h
        · rename_i hk
          have hk := of_decide_eq_true hk
          subst hk
          split at h
          · rename_i hz; cases h; exact WH hx hy (by rw [← hz, Om]) hc.1 hc.2
          · cases h
        · cases h
    · rename_i hx hy
      split at h
      · rename_i hz; cases h; exact Vt hx hy hz hc.1 hc.2
      · cases h
    · rename_i hx hy
      split at h
      · rename_i hk
        obtain ⟨te, ht, hk⟩ := Option.map_eq_some_iff.1 hk
        split at h
        · rename_i hz
          cases h
          unfold OV at hz
          split at hz
          · cases hz; exact Dr hx hy ht hk hc.1 hc.2
          · cases hz; exact N4 hx hy ht hk hc.1 hc.2
          · cases hz
        · cases h
      · cases h
    · cases h
  · split at h
    · cases h
    · rename_i ts hs
      split at h
      · cases h
      · rename_i te ht
        split at h
        · rename_i hk
          obtain ⟨hc, h⟩ := Ks h
          split at h
          · rename_i hx; cases h; exact Hw hx hs ht hk rfl hc
          · cases h
        · cases h
  · split at h
    · cases h
    · rename_i tt ht
      split at h
      · rename_i fs hk
        split at h
        · cases h
        · rename_i pl hpl
          obtain ⟨hc, h⟩ := Ks h
          simp only [Bool.and_eq_true] at hc
          split at h
          · cases h
          · rename_i cs hf
            obtain ⟨hl, h⟩ := Ks h
            split at h
            · rename_i cs' hcut
              cases h
              have := LD hcut hl
              subst this
              exact Wh ht hk hpl rfl hc.1 hf hc.2
            · cases h
      · cases h
  · cases h
def Po (T : Tb P) (st : St) : Oper → Option (Fp × Ef)
  | ⟨some d, .alloc el, _, _, _, none⟩ => match ZA T.ty el with
    | none => none
    | some te => gd (te.zero.cells.toList.all KE) (match CQ (te.zero.cells.toList.map fun v => CV.p (.v v)) 0 te.size with
      | some cs => gd (Nat.beq te.zero.cells.toList.length te.size) (some (⟨[], [(d, 0)]⟩, ⟨.c (.ptr (d, 0) 0 0), [((d, 0), some (.box cs))]⟩))
      | none => none)
  | ⟨some d, .box el x, _, _, _, none⟩ => gd (Zr x) (match st.ev x with
    | .c y => gd (TV.known (.c y)) (some (⟨[], [(d, 0)]⟩, ⟨.c (.ptr (d, 0) 0 0), [((d, 0), some (.box [y]))]⟩))
    | .agg cs => some (⟨[], [(d, 0)]⟩, ⟨.c (.ptr (d, 0) 0 0), [((d, 0), some (.box cs))]⟩)
    | _ => none)
  | ⟨some _, op, _, _, _, none⟩ => match N6 T st op with
    | some (rb, t) => some (⟨rb, []⟩, ⟨t, []⟩)
    | none => none
  | ⟨none, .store t x y, _, _, _, none⟩ => match ZA T.ty t with
    | none => none
    | some te => gd (Zr x && Zr y) (match st.ev x with
      | .c (.ptr b 0 k) => match st.h b with
        | some (.box all) => match st.ev y with
          | .c v => gd (TV.known (.c v) && Nat.beq 1 te.size && Nat.ble (k + 1) all.length) (match Ee all k [v] with
            | some all' => some (⟨[b], []⟩, ⟨.c .any, [(b, some (.box all'))]⟩)
            | none => none)
          | .agg cs => gd (Nat.beq cs.length te.size && Nat.ble (k + cs.length) all.length) (match Nat.beq k 0 && Nat.beq all.length te.size with
            | true => some (⟨[b], []⟩, ⟨.c .any, [(b, some (.box cs))]⟩)
            | false => match Ee all k cs with
              | some all' => some (⟨[b], []⟩, ⟨.c .any, [(b, some (.box all'))]⟩)
              | none => none)
          | _ => none
        | _ => none
      | _ => none)
  | _ => none
theorem Gv {α : Type} : ∀ {l cs : List α}, l.length = cs.length → setAt l 0 cs = cs
  | [], [], _ => rfl
  | [], _ :: _, h => by simp at h
  | _ :: _, [], h => by simp at h
  | _ :: l, c :: cs, h => by simp only [setAt]; rw [Gv (by simpa using h)]
theorem GT {o : Oper} {f : Fp} {ef : Ef} (h : Po T st o = some (f, ef)) : o.guard = none ∧ KC E N P ops o st f ef := by
  unfold Po at h
  split at h
  · split at h
    · cases h
    · rename_i te he
      obtain ⟨ha, h⟩ := Ks h
      split at h
      · rename_i cs hcut
        obtain ⟨hl, h⟩ := Ks h
        cases h
        have := LD hcut (by rw [List.length_map]; exact hl)
        subst this
        exact ⟨rfl, M2 he rfl ha⟩
      · cases h
  · obtain ⟨hc, h⟩ := Ks h
    split at h
    · rename_i hx; obtain ⟨hk, h⟩ := Ks h; cases h; exact ⟨rfl, Md hx hk hc⟩
    · rename_i hx; cases h; exact ⟨rfl, Me hx hc⟩
    · cases h
  · split at h
    · rename_i hp; cases h; exact ⟨rfl, N7 hp⟩
    · cases h
  · split at h
    · cases h
    · rename_i te ht
      obtain ⟨hc, h⟩ := Ks h
      simp only [Bool.and_eq_true] at hc
      split at h
      · rename_i hx
        split at h
        · rename_i all hb
          split at h
          · rename_i v hv
            obtain ⟨hg, h⟩ := Ks h
            simp only [Bool.and_eq_true] at hg
            split at h
            · rename_i hs; cases h; exact ⟨rfl, MW hx hb hv hg.1.1 ht (Nat.eq_of_beq_eq_true hg.1.2) hg.2 (EE hs) hc.1 hc.2⟩
            · cases h
          · rename_i cs hv
            obtain ⟨hg, h⟩ := Ks h
            simp only [Bool.and_eq_true] at hg
            split at h
            · rename_i h0
              simp only [Bool.and_eq_true] at h0
              have e1 := Nat.eq_of_beq_eq_true h0.1
              have e2 := Nat.eq_of_beq_eq_true h0.2
              have e3 := Nat.eq_of_beq_eq_true hg.1
              cases h
              exact ⟨rfl, HR hx hb hv ht e3 hg.2 (by rw [e1]; exact Gv (by omega)) hc.1 hc.2⟩
            · split at h
              · rename_i hs; cases h; exact ⟨rfl, HR hx hb hv ht (Nat.eq_of_beq_eq_true hg.1) hg.2 (EE hs) hc.1 hc.2⟩
              · cases h
          · cases h
        · cases h
      · cases h
  · cases h
def GU (T : Tb P) : Nat → List Oper → St → List (Fp × Ef) → Option (List Oper × St × List (Fp × Ef))
  | 0, l, st, acc => some (l, st, acc)
  | n + 1, o :: r, ⟨fr, H⟩, acc => match Po T ⟨fr, H⟩ o, o.dst with
    | some (f, ⟨t, []⟩), some d => GU T n r ⟨(d, t) :: fr, H⟩ ((f, ⟨t, []⟩) :: acc)
    | some (f, ⟨t, [b]⟩), some d => GU T n r ⟨(d, t) :: fr, b :: H⟩ ((f, ⟨t, [b]⟩) :: acc)
    | some (f, ⟨t, [b]⟩), none => GU T n r ⟨fr, b :: H⟩ ((f, ⟨t, [b]⟩) :: acc)
    | _, _ => none
  | _ + 1, [], _, _ => none
theorem IX {o : Oper} {r : List Oper} {acc : List (Fp × Ef)} {f : Fp} {ef : Ef} {K : List (Fp × Ef) → St → Prop} (h : o.guard = none ∧ KC E N P ops o st f ef) (hk : Ua E N P ops r ((f, ef) :: acc) (ef.ap o st) K) : Ua E N P ops (o :: r) acc st K :=
  ⟨f, ef, .inl ⟨by simp [wn, h.1], h.2⟩, hk⟩
theorem CR {K : List (Fp × Ef) → St → Prop} : ∀ {n : Nat} {l l' : List Oper} {st st' : St} {acc acc' : List (Fp × Ef)}, GU T n l st acc = some (l', st', acc') → Ua E N P ops l' acc' st' K → Ua E N P ops l acc st K
  | 0, l, l', st, st', acc, acc', h, hk => by simp only [GU] at h; cases h; exact hk
  | n + 1, [], l', st, st', acc, acc', h, hk => by simp [GU] at h
  | n + 1, o :: r, l', ⟨fr, H⟩, st', acc, acc', h, hk => by
    simp only [GU] at h
    split at h
    · rename_i h1 h2
      refine IX (GT h1) ?_
      have := CR h hk
      simpa [Ef.ap, h2] using this
    · rename_i h1 h2
      refine IX (GT h1) ?_
      have := CR h hk
      simpa [Ef.ap, h2] using this
    · rename_i h1 h2
      refine IX (GT h1) ?_
      have := CR h hk
      simpa [Ef.ap, h2] using this
    · cases h
theorem dN [T : Tb P] (n : Nat) {l l' : List Oper} {st st' : St} {acc acc' : List (Fp × Ef)} {K : List (Fp × Ef) → St → Prop} (h : GU T n l st acc = some (l', st', acc')) (hk : Ua E N P ops l' acc' st' K) : Ua E N P ops l acc st K := CR h hk
def On (T : Tb P) (N : Nat) (l : List Oper) (st : St) : Option St := match GU T l.length l st [] with
  | some ([], st', acc) => gd (Iy N l && (GC acc.reverse && Yc st acc)) (some st')
  | _ => none
variable {Q : Exit → St → Prop}
theorem LE {l : List Oper} {st' : St} {K : St → Prop} (h : On T N l st = some st') (hk : K st') : Iy N l = true ∧ Ua E N P l.toArray l [] st fun acc s => GC acc.reverse = true ∧ Yc st acc = true ∧ K s := by
  unfold On at h
  split at h
  · rename_i hd
    obtain ⟨hg, h⟩ := Ks h
    cases h
    simp only [Bool.and_eq_true] at hg
    exact ⟨hg.1, CR hd (GD ⟨hg.2.1, hg.2.2, hk⟩)⟩
  · cases h
theorem tD [T : Tb P] {x : List Oper} {id : Nat} {y : Code} {st' : St} (h : On T N x st = some st') (k : AW E N P y Q st') : AW E N P (.seq (.region id x.toArray false) y) Q st :=
  have := LE (E := E) (K := AW E N P y Q) h k
  GJ (EB this.1 this.2)
theorem tE [T : Tb P] {x : List Oper} {id : Nat} {st' : St} (h : On T N x st = some st') (k : Q .normal st') : AW E N P (.region id x.toArray false) Q st :=
  have := LE (E := E) (K := Q .normal) h k
  EB this.1 this.2
theorem cn {c : Operand} {x y : Code} {b : Bool} {A B : Prop} (h : (b = true → A) ∧ (b = false → B)) (ht : A → AW E N P x Q st) (hf : B → AW E N P y Q st) (hb : st.ev c = .c (.p (.v (.bool b))) := by exact rfl) (hc : Zr c = true := by exact rfl) : AW E N P (.cond c x y) Q st := Y9 hb hc (fun e => ht (h.1 e)) (fun e => hf (h.2 e))
theorem QC.fit {st' : St} (h1 : okS (st'.H.map fun x => (x.1, x.1)) = true := by exact rfl) (h : st.norm (st'.fr.map (·.1)) (st'.H.map fun x => (x.1, x.1)) = st' := by kernel_rfl) : QC st st' := QC.nm _ _ h1 h
def FJ : List CV → Option (List PV)
  | [] => some []
  | .p x :: r => match FJ r with
    | some l => some (x :: l)
    | none => none
  | _ => none
def IY : List TV → Option (List AV)
  | [] => some []
  | .c (.p x) :: r => match IY r with
    | some l => some (.c x :: l)
    | none => none
  | .agg cs :: r => match FJ cs, IY r with
    | some a, some l => some (.agg a :: l)
    | _, _ => none
  | _ => none
theorem LF : ∀ {cs : List CV} {xs : List PV}, FJ cs = some xs → BV st cs xs []
  | [], xs, h => by simp only [FJ] at h; cases h; exact .nil
  | .p x :: r, xs, h => by
    simp only [FJ] at h
    split at h
    · rename_i l hl; cases h; exact .cons (.p _) (LF hl)
    · cases h
  | .any :: r, xs, h => by simp [FJ] at h
  | .ptr _ _ _ :: r, xs, h => by simp [FJ] at h
  | .sl _ _ _ :: r, xs, h => by simp [FJ] at h
  | .ep _ _ :: r, xs, h => by simp [FJ] at h
  | .mp _ :: r, xs, h => by simp [FJ] at h
theorem LG {ts : List TV} {avs : List AV} (h : IY ts = some avs) : EX st ts avs [] := by
  induction ts generalizing avs with
  | nil => simp only [IY] at h; cases h; exact .nil
  | cons t r ih =>
    unfold IY at h
    split at h
    · rename_i e; cases e
    · rename_i e
      cases e
      split at h
      · rename_i l hl; cases h; exact .cons (.c (.p _)) (ih hl)
      · cases h
    · rename_i e
      cases e
      split at h
      · rename_i a l ha hl; cases h; exact .cons (.agg (LF ha)) (ih hl)
      · cases h
    · cases h
theorem QR {f : FuncId} {xs : Array Operand} {tys : Array TypeId} {avs : List AV} {r : List RS} {t : TV} (hcon : Qp P f avs r []) (hn : avs.any AV.isRef = false := by exact rfl) (hok : xs.toList.all Zr = true := by exact rfl) (hargs : IY (xs.toList.map st.ev) = some avs := by exact rfl) (hids : (BU d 0 (Zz r)).map (·.1) = [] := by exact rfl) (hbl : BU d 0 (Zz r) ++ Ak st [] = [] := by exact rfl) (ht : Lw d r = t := by exact rfl) :
    KC E N P ops ⟨some d, .call { callee := .value (.func f), args := xs, argTypes := tys }, ty, pos, af, gg⟩ st ⟨[], []⟩ ⟨t, []⟩ := QN hcon hn hok (LG hargs) hids hbl ht
theorem Zt {f : FuncId} {xs : Array Operand} {tys : Array TypeId} {avs : List AV} {r : List RS} {ids : List QX} {bl : List (QX × Option Bk)} {t : TV} (hcon : Qp P f avs r []) (hn : avs.any AV.isRef = false := by exact rfl) (hok : xs.toList.all Zr = true := by exact rfl) (hargs : IY (xs.toList.map st.ev) = some avs := by exact rfl)
    (hids : (BU d 0 (Zz r)).map (·.1) = ids := by exact rfl) (hbl : BU d 0 (Zz r) ++ Ak st [] = bl := by exact rfl) (ht : Lw d r = t := by exact rfl) :
    KC E N P ops ⟨some d, .call { callee := .value (.func f), args := xs, argTypes := tys }, ty, pos, af, gg⟩ st ⟨[], ids⟩ ⟨t, bl⟩ := YB hcon hn hok (LG hargs) hids hbl ht
structure Q6 where
  fo : Int
  fg : Int
  fq : Int
  fu : Int
def Vw (x : Q6) : List PV := [.v (.int .i64 (x.fo)), .v (.int .i64 (x.fg)), .v (.int .i64 (x.fq)), .v (.int .u64 (x.fu))]
structure Qu where
  fo : Int
  fa1 : ByteArray
  f0 : Int
  fc0 : Int
  fb9 : Int
def Wl (x : Qu) : List PV := [.v (.int .i64 (x.fo)), .v (.string (x.fa1)), .v (.int .i64 (x.f0)), .v (.int .i64 (x.fc0)), .v (.int .i64 (x.fb9))]
structure Qi where
  fa1 : ByteArray
  fa7 : Int
def QK (x : Qi) : List PV := [.v (.string (x.fa1)), .v (.int .i64 (x.fa7))]
structure Qb where
  fq : Int
  fg : Int
  fu : Int
  fa8 : (List Int)
  fa : Bool
def Kf (x : Qb) : List PV := [.v (.int .i64 (x.fq)), .v (.int .i64 (x.fg)), .v (.int .u64 (x.fu)), .l 1 (List.map (eI .i64) (x.fa8)), .v (.bool (x.fa))]
structure Qj where
  f7 : Int
  fu : Int
  f3 : (List Int)
def Vx (x : Qj) : List PV := [.v (.int .i64 (x.f7)), .v (.int .u64 (x.fu)), .l 1 (List.map (eI .i64) (x.f3))]
structure Q1 where
  fa1 : ByteArray
  f0 : Int
  fc2 : Int
def Q9 (x : Q1) : List PV := [.v (.string (x.fa1)), .v (.int .i64 (x.f0)), .v (.int .i64 (x.fc2))]
theorem WK (x : Q1) : (Q9 x).all NR = true := rfl
structure Qt where
  fg : Int
  fm : Int
  fh : (List Q1)
  fa : Bool
def JM (x : Qt) : List PV := [.v (.int .i64 (x.fg)), .v (.int .i64 (x.fm)), .l 3 (List.map Q9 (x.fh)), .v (.bool (x.fa))]
structure Qe where
  fg : Int
  fm : Int
  fb3 : Int
  fh : (List Q1)
  fa : Bool
def Kt (x : Qe) : List PV := [.v (.int .i64 (x.fg)), .v (.int .i64 (x.fm)), .v (.int .i64 (x.fb3)), .l 3 (List.map Q9 (x.fh)), .v (.bool (x.fa))]
structure Qk where
  fg : Int
  fm : Int
  fa9 : Int
  fw : (List (List ByteArray))
  fa : Bool
def Z0 (x : Qk) : List PV := [.v (.int .i64 (x.fg)), .v (.int .i64 (x.fm)), .v (.int .i64 (x.fa9)), .l 1 (List.map (eL 1 eS) (x.fw)), .v (.bool (x.fa))]
structure Qo where
  fm : Int
  f8 : Int
  fa : Bool
def Wm (x : Qo) : List PV := [.v (.int .i64 (x.fm)), .v (.int .i64 (x.f8)), .v (.bool (x.fa))]
structure Qd where
  fb : Q6
  fx : Qo
  fc : Qb
  fy : Qj
  fa4 : Qt
  ff : Qe
  fp : Qk
def KZ (x : Qd) : List PV := [.v (.int .i64 (x.fb.fo)), .v (.int .i64 (x.fb.fg)), .v (.int .i64 (x.fb.fq)), .v (.int .u64 (x.fb.fu)), .v (.int .i64 (x.fx.fm)), .v (.int .i64 (x.fx.f8)), .v (.bool (x.fx.fa)), .v (.int .i64 (x.fc.fq)), .v (.int .i64 (x.fc.fg)), .v (.int .u64 (x.fc.fu)), .l 1 (List.map (eI .i64) (x.fc.fa8)), .v (.bool (x.fc.fa)), .v (.int .i64 (x.fy.f7)), .v (.int .u64 (x.fy.fu)), .l 1 (List.map (eI .i64) (x.fy.f3)), .v (.int .i64 (x.fa4.fg)), .v (.int .i64 (x.fa4.fm)), .l 3 (List.map Q9 (x.fa4.fh)), .v (.bool (x.fa4.fa)), .v (.int .i64 (x.ff.fg)), .v (.int .i64 (x.ff.fm)), .v (.int .i64 (x.ff.fb3)), .l 3 (List.map Q9 (x.ff.fh)), .v (.bool (x.ff.fa)), .v (.int .i64 (x.fp.fg)), .v (.int .i64 (x.fp.fm)), .v (.int .i64 (x.fp.fa9)), .l 1 (List.map (eL 1 eS) (x.fp.fw)), .v (.bool (x.fp.fa))]
structure Qq where
  fo : Int
  fb7 : ByteArray
  fj : ByteArray
  fa2 : (List ByteArray)
  fb : Q6
  f8 : (List Qi)
  fb5 : (List Int)
  fa3 : Int
  fb0 : Int
  fa5 : Int
  fb6 : Int
  fa6 : Int
  f0 : Int
  fv : Qu
  fb4 : (List Int)
def Zi (x : Qq) : List PV := [.v (.int .i64 (x.fo)), .v (.string (x.fb7)), .v (.string (x.fj)), .l 1 (List.map eS (x.fa2)), .v (.int .i64 (x.fb.fo)), .v (.int .i64 (x.fb.fg)), .v (.int .i64 (x.fb.fq)), .v (.int .u64 (x.fb.fu)), .l 2 (List.map QK (x.f8)), .l 1 (List.map (eI .u8) (x.fb5)), .v (.int .i64 (x.fa3)), .v (.int .i64 (x.fb0)), .v (.int .i64 (x.fa5)), .v (.int .i64 (x.fb6)), .v (.int .i64 (x.fa6)), .v (.int .i64 (x.f0)), .v (.int .i64 (x.fv.fo)), .v (.string (x.fv.fa1)), .v (.int .i64 (x.fv.f0)), .v (.int .i64 (x.fv.fc0)), .v (.int .i64 (x.fv.fb9)), .l 1 (List.map (eI .u8) (x.fb4))]
structure Ku where
  fe0 : Bool
  fe1 : Bool
  fe2 : Bool
  fe3 : Bool
  fe4 : Bool
  fe5 : Bool
  fe6 : Bool
  fe7 : Bool
  fe8 : Bool
  fe9 : Bool
  fe10 : Bool
  fe11 : Bool
  fe12 : Bool
def Ye (x : Ku) : List PV := [.v (.bool (x.fe0)), .v (.bool (x.fe1)), .v (.bool (x.fe2)), .v (.bool (x.fe3)), .v (.bool (x.fe4)), .v (.bool (x.fe5)), .v (.bool (x.fe6)), .v (.bool (x.fe7)), .v (.bool (x.fe8)), .v (.bool (x.fe9)), .v (.bool (x.fe10)), .v (.bool (x.fe11)), .v (.bool (x.fe12))]
structure Z7 where
  fb2 : Int
  fd1 : Int
structure Qy where
  fc6 : Int
  fc8 : Int
  fc3 : Bool
  fc1 : (List Int)
  fb2 : Int
  fi : Qd
  fj : Qd
  fc7 : Int
  fd0 : Int
  fa5 : Int
  fa6 : Int
  fAt : Z7
  fb4 : (List Int)
  fc4 : Bool
def JY (x : Qy) : List PV := [.v (.int .i64 (x.fc6)), .v (.int .i64 (x.fc8)), .v (.bool (x.fc3)), .l 1 (List.map (eI .i64) (x.fc1)), .v (.int .i64 (x.fb2)), .v (.int .i64 (x.fi.fb.fo)), .v (.int .i64 (x.fi.fb.fg)), .v (.int .i64 (x.fi.fb.fq)), .v (.int .u64 (x.fi.fb.fu)), .v (.int .i64 (x.fi.fx.fm)), .v (.int .i64 (x.fi.fx.f8)), .v (.bool (x.fi.fx.fa)), .v (.int .i64 (x.fi.fc.fq)), .v (.int .i64 (x.fi.fc.fg)), .v (.int .u64 (x.fi.fc.fu)), .l 1 (List.map (eI .i64) (x.fi.fc.fa8)), .v (.bool (x.fi.fc.fa)), .v (.int .i64 (x.fi.fy.f7)), .v (.int .u64 (x.fi.fy.fu)), .l 1 (List.map (eI .i64) (x.fi.fy.f3)), .v (.int .i64 (x.fi.fa4.fg)), .v (.int .i64 (x.fi.fa4.fm)), .l 3 (List.map Q9 (x.fi.fa4.fh)), .v (.bool (x.fi.fa4.fa)), .v (.int .i64 (x.fi.ff.fg)), .v (.int .i64 (x.fi.ff.fm)), .v (.int .i64 (x.fi.ff.fb3)), .l 3 (List.map Q9 (x.fi.ff.fh)), .v (.bool (x.fi.ff.fa)), .v (.int .i64 (x.fi.fp.fg)), .v (.int .i64 (x.fi.fp.fm)), .v (.int .i64 (x.fi.fp.fa9)), .l 1 (List.map (eL 1 eS) (x.fi.fp.fw)), .v (.bool (x.fi.fp.fa)), .v (.int .i64 (x.fj.fb.fo)), .v (.int .i64 (x.fj.fb.fg)), .v (.int .i64 (x.fj.fb.fq)), .v (.int .u64 (x.fj.fb.fu)), .v (.int .i64 (x.fj.fx.fm)), .v (.int .i64 (x.fj.fx.f8)), .v (.bool (x.fj.fx.fa)), .v (.int .i64 (x.fj.fc.fq)), .v (.int .i64 (x.fj.fc.fg)), .v (.int .u64 (x.fj.fc.fu)), .l 1 (List.map (eI .i64) (x.fj.fc.fa8)), .v (.bool (x.fj.fc.fa)), .v (.int .i64 (x.fj.fy.f7)), .v (.int .u64 (x.fj.fy.fu)), .l 1 (List.map (eI .i64) (x.fj.fy.f3)), .v (.int .i64 (x.fj.fa4.fg)), .v (.int .i64 (x.fj.fa4.fm)), .l 3 (List.map Q9 (x.fj.fa4.fh)), .v (.bool (x.fj.fa4.fa)), .v (.int .i64 (x.fj.ff.fg)), .v (.int .i64 (x.fj.ff.fm)), .v (.int .i64 (x.fj.ff.fb3)), .l 3 (List.map Q9 (x.fj.ff.fh)), .v (.bool (x.fj.ff.fa)), .v (.int .i64 (x.fj.fp.fg)), .v (.int .i64 (x.fj.fp.fm)), .v (.int .i64 (x.fj.fp.fa9)), .l 1 (List.map (eL 1 eS) (x.fj.fp.fw)), .v (.bool (x.fj.fp.fa)), .v (.int .i64 (x.fc7)), .v (.int .i64 (x.fd0)), .v (.int .i64 (x.fa5)), .v (.int .i64 (x.fa6)), .v (.int .i64 (x.fAt.fb2)), .v (.int .i64 (x.fAt.fd1)), .l 1 (List.map (eI .u8) (x.fb4)), .v (.bool (x.fc4))]
structure Qx where
  fc5 : Bool
  fb8 : Int
  fa2 : (List ByteArray)
def QE (x : Qx) : List PV := [.v (.bool (x.fc5)), .v (.int .i64 (x.fb8)), .l 1 (List.map eS (x.fa2))]
structure QG where
  fc5 : Bool
  fb8 : Int
  fb7 : ByteArray
  fd3 : Int
def QW (x : QG) : List PV := [.v (.bool (x.fc5)), .v (.int .i64 (x.fb8)), .v (.string (x.fb7)), .v (.int .i64 (x.fd3))]
structure Q5 where
  fb1 : Bool
  fOp : Qq
  fk : Qy
  f9 : Int
  f5 : (List Qx)
  fa0 : (List QG)
def Qv (x : Q5) : List PV := [.v (.bool (x.fb1)), .v (.int .i64 (x.fOp.fo)), .v (.string (x.fOp.fb7)), .v (.string (x.fOp.fj)), .l 1 (List.map eS (x.fOp.fa2)), .v (.int .i64 (x.fOp.fb.fo)), .v (.int .i64 (x.fOp.fb.fg)), .v (.int .i64 (x.fOp.fb.fq)), .v (.int .u64 (x.fOp.fb.fu)), .l 2 (List.map QK (x.fOp.f8)), .l 1 (List.map (eI .u8) (x.fOp.fb5)), .v (.int .i64 (x.fOp.fa3)), .v (.int .i64 (x.fOp.fb0)), .v (.int .i64 (x.fOp.fa5)), .v (.int .i64 (x.fOp.fb6)), .v (.int .i64 (x.fOp.fa6)), .v (.int .i64 (x.fOp.f0)), .v (.int .i64 (x.fOp.fv.fo)), .v (.string (x.fOp.fv.fa1)), .v (.int .i64 (x.fOp.fv.f0)), .v (.int .i64 (x.fOp.fv.fc0)), .v (.int .i64 (x.fOp.fv.fb9)), .l 1 (List.map (eI .u8) (x.fOp.fb4)), .v (.int .i64 (x.fk.fc6)), .v (.int .i64 (x.fk.fc8)), .v (.bool (x.fk.fc3)), .l 1 (List.map (eI .i64) (x.fk.fc1)), .v (.int .i64 (x.fk.fb2)), .v (.int .i64 (x.fk.fi.fb.fo)), .v (.int .i64 (x.fk.fi.fb.fg)), .v (.int .i64 (x.fk.fi.fb.fq)), .v (.int .u64 (x.fk.fi.fb.fu)), .v (.int .i64 (x.fk.fi.fx.fm)), .v (.int .i64 (x.fk.fi.fx.f8)), .v (.bool (x.fk.fi.fx.fa)), .v (.int .i64 (x.fk.fi.fc.fq)), .v (.int .i64 (x.fk.fi.fc.fg)), .v (.int .u64 (x.fk.fi.fc.fu)), .l 1 (List.map (eI .i64) (x.fk.fi.fc.fa8)), .v (.bool (x.fk.fi.fc.fa)), .v (.int .i64 (x.fk.fi.fy.f7)), .v (.int .u64 (x.fk.fi.fy.fu)), .l 1 (List.map (eI .i64) (x.fk.fi.fy.f3)), .v (.int .i64 (x.fk.fi.fa4.fg)), .v (.int .i64 (x.fk.fi.fa4.fm)), .l 3 (List.map Q9 (x.fk.fi.fa4.fh)), .v (.bool (x.fk.fi.fa4.fa)), .v (.int .i64 (x.fk.fi.ff.fg)), .v (.int .i64 (x.fk.fi.ff.fm)), .v (.int .i64 (x.fk.fi.ff.fb3)), .l 3 (List.map Q9 (x.fk.fi.ff.fh)), .v (.bool (x.fk.fi.ff.fa)), .v (.int .i64 (x.fk.fi.fp.fg)), .v (.int .i64 (x.fk.fi.fp.fm)), .v (.int .i64 (x.fk.fi.fp.fa9)), .l 1 (List.map (eL 1 eS) (x.fk.fi.fp.fw)), .v (.bool (x.fk.fi.fp.fa)), .v (.int .i64 (x.fk.fj.fb.fo)), .v (.int .i64 (x.fk.fj.fb.fg)), .v (.int .i64 (x.fk.fj.fb.fq)), .v (.int .u64 (x.fk.fj.fb.fu)), .v (.int .i64 (x.fk.fj.fx.fm)), .v (.int .i64 (x.fk.fj.fx.f8)), .v (.bool (x.fk.fj.fx.fa)), .v (.int .i64 (x.fk.fj.fc.fq)), .v (.int .i64 (x.fk.fj.fc.fg)), .v (.int .u64 (x.fk.fj.fc.fu)), .l 1 (List.map (eI .i64) (x.fk.fj.fc.fa8)), .v (.bool (x.fk.fj.fc.fa)), .v (.int .i64 (x.fk.fj.fy.f7)), .v (.int .u64 (x.fk.fj.fy.fu)), .l 1 (List.map (eI .i64) (x.fk.fj.fy.f3)), .v (.int .i64 (x.fk.fj.fa4.fg)), .v (.int .i64 (x.fk.fj.fa4.fm)), .l 3 (List.map Q9 (x.fk.fj.fa4.fh)), .v (.bool (x.fk.fj.fa4.fa)), .v (.int .i64 (x.fk.fj.ff.fg)), .v (.int .i64 (x.fk.fj.ff.fm)), .v (.int .i64 (x.fk.fj.ff.fb3)), .l 3 (List.map Q9 (x.fk.fj.ff.fh)), .v (.bool (x.fk.fj.ff.fa)), .v (.int .i64 (x.fk.fj.fp.fg)), .v (.int .i64 (x.fk.fj.fp.fm)), .v (.int .i64 (x.fk.fj.fp.fa9)), .l 1 (List.map (eL 1 eS) (x.fk.fj.fp.fw)), .v (.bool (x.fk.fj.fp.fa)), .v (.int .i64 (x.fk.fc7)), .v (.int .i64 (x.fk.fd0)), .v (.int .i64 (x.fk.fa5)), .v (.int .i64 (x.fk.fa6)), .v (.int .i64 (x.fk.fAt.fb2)), .v (.int .i64 (x.fk.fAt.fd1)), .l 1 (List.map (eI .u8) (x.fk.fb4)), .v (.bool (x.fk.fc4)), .v (.int .i64 (x.f9)), .l 3 (List.map QE (x.f5)), .l 4 (List.map QW (x.fa0))]
set_option maxRecDepth 20000
theorem te_2 : Zm Tryz.prog 2 = some ⟨.int .i64, 1, 8, .int .i64 0⟩ := by kernel_rfl
theorem te_3 : Zm Tryz.prog 3 = some ⟨.int .i64, 1, 8, .int .i64 0⟩ := by kernel_rfl
theorem te_4 : Zm Tryz.prog 4 = some ⟨.bool, 1, 1, .bool false⟩ := by kernel_rfl
theorem te_5 : Zm Tryz.prog 5 = some ⟨.int .u8, 1, 1, .int .u8 0⟩ := by kernel_rfl
theorem te_6 : Zm Tryz.prog 6 = some ⟨.int .u8, 1, 1, .int .u8 0⟩ := by kernel_rfl
theorem te_7 : Zm Tryz.prog 7 = some ⟨.struct [(0, 2), (1, 3), (2, 4), (3, 6)], 4, 24, .agg #[.int .i64 0, .int .i64 0, .bool false, .int .u8 0]⟩ := by kernel_rfl
theorem te_8 : Zm Tryz.prog 8 = some ⟨.struct [(0, 2), (1, 3), (2, 4), (3, 6)], 4, 24, .agg #[.int .i64 0, .int .i64 0, .bool false, .int .u8 0]⟩ := by kernel_rfl
theorem te_9 : Zm Tryz.prog 9 = some ⟨.string, 1, 16, .string ByteArray.empty⟩ := by kernel_rfl
theorem te_10 : Zm Tryz.prog 10 = some ⟨.string, 1, 16, .string ByteArray.empty⟩ := by kernel_rfl
theorem te_11 : Zm Tryz.prog 11 = some ⟨.string, 1, 16, .string ByteArray.empty⟩ := by kernel_rfl
theorem te_12 : Zm Tryz.prog 12 = some ⟨.int .u64, 1, 8, .int .u64 0⟩ := by kernel_rfl
theorem te_13 : Zm Tryz.prog 13 = some ⟨.struct [(0, 9), (1, 12)], 2, 24, .agg #[.string ByteArray.empty, .int .u64 0]⟩ := by kernel_rfl
theorem te_14 : Zm Tryz.prog 14 = some ⟨.struct [(0, 9), (1, 12)], 2, 24, .agg #[.string ByteArray.empty, .int .u64 0]⟩ := by kernel_rfl
theorem te_15 : Zm Tryz.prog 15 = some ⟨.ptr 207, 1, 8, .pointer none⟩ := by kernel_rfl
theorem te_16 : Zm Tryz.prog 16 = some ⟨.ptr 210, 1, 8, .pointer none⟩ := by kernel_rfl
theorem te_17 : Zm Tryz.prog 17 = some ⟨.ptr 219, 1, 8, .pointer none⟩ := by kernel_rfl
theorem te_18 : Zm Tryz.prog 18 = some ⟨.struct [(0, 17)], 1, 8, .agg #[.pointer none]⟩ := by kernel_rfl
theorem te_19 : Zm Tryz.prog 19 = some ⟨.struct [(0, 17)], 1, 8, .agg #[.pointer none]⟩ := by kernel_rfl
theorem te_21 : Zm Tryz.prog 21 = some ⟨.int .i32, 1, 4, .int .i32 0⟩ := by kernel_rfl
theorem te_22 : Zm Tryz.prog 22 = some ⟨.slice 3, 1, 24, .slice none 0 0⟩ := by kernel_rfl
theorem te_23 : Zm Tryz.prog 23 = some ⟨.slice 69, 1, 24, .slice none 0 0⟩ := by kernel_rfl
theorem te_25 : Zm Tryz.prog 25 = some ⟨.slice 9, 1, 24, .slice none 0 0⟩ := by kernel_rfl
theorem te_26 : Zm Tryz.prog 26 = some ⟨.int .u64, 1, 8, .int .u64 0⟩ := by kernel_rfl
theorem te_27 : Zm Tryz.prog 27 = some ⟨.struct [(0, 3), (1, 3), (2, 3), (3, 26)], 4, 32, .agg #[.int .i64 0, .int .i64 0, .int .i64 0, .int .u64 0]⟩ := by kernel_rfl
theorem te_28 : Zm Tryz.prog 28 = some ⟨.struct [(0, 3), (1, 3), (2, 3), (3, 26)], 4, 32, .agg #[.int .i64 0, .int .i64 0, .int .i64 0, .int .u64 0]⟩ := by kernel_rfl
theorem te_29 : Zm Tryz.prog 29 = some ⟨.slice 81, 1, 24, .slice none 0 0⟩ := by kernel_rfl
theorem te_30 : Zm Tryz.prog 30 = some ⟨.slice 5, 1, 24, .slice none 0 0⟩ := by kernel_rfl
theorem te_31 : Zm Tryz.prog 31 = some ⟨.struct [(0, 3), (1, 9), (2, 3), (3, 3), (4, 3)], 5, 48, .agg #[.int .i64 0, .string ByteArray.empty, .int .i64 0, .int .i64 0, .int .i64 0]⟩ := by kernel_rfl
theorem te_32 : Zm Tryz.prog 32 = some ⟨.struct [(0, 3), (1, 9), (2, 3), (3, 3), (4, 3)], 5, 48, .agg #[.int .i64 0, .string ByteArray.empty, .int .i64 0, .int .i64 0, .int .i64 0]⟩ := by kernel_rfl
theorem te_33 : Zm Tryz.prog 33 = some ⟨.struct [(0, 3), (1, 9), (2, 9), (3, 25), (4, 28), (8, 29), (9, 30), (10, 3), (11, 3), (12, 3), (13, 3), (14, 3), (15, 3), (16, 32), (21, 30)], 22, 264, .agg #[.int .i64 0, .string ByteArray.empty, .string ByteArray.empty, .slice none 0 0, .int .i64 0, .int .i64 0, .int .i64 0, .int .u64 0, .slice none 0 0, .slice none 0 0, .int .i64 0, .int .i64 0, .int .i64 0, .int .i64 0, .int .i64 0, .int .i64 0, .int .i64 0, .string ByteArray.empty, .int .i64 0, .int .i64 0, .int .i64 0, .slice none 0 0]⟩ := by kernel_rfl
theorem te_34 : Zm Tryz.prog 34 = some ⟨.struct [(0, 3), (1, 9), (2, 9), (3, 25), (4, 28), (8, 29), (9, 30), (10, 3), (11, 3), (12, 3), (13, 3), (14, 3), (15, 3), (16, 32), (21, 30)], 22, 264, .agg #[.int .i64 0, .string ByteArray.empty, .string ByteArray.empty, .slice none 0 0, .int .i64 0, .int .i64 0, .int .i64 0, .int .u64 0, .slice none 0 0, .slice none 0 0, .int .i64 0, .int .i64 0, .int .i64 0, .int .i64 0, .int .i64 0, .int .i64 0, .int .i64 0, .string ByteArray.empty, .int .i64 0, .int .i64 0, .int .i64 0, .slice none 0 0]⟩ := by kernel_rfl
theorem te_37 : Zm Tryz.prog 37 = some ⟨.int .i64, 1, 8, .int .i64 0⟩ := by kernel_rfl
theorem te_46 : Zm Tryz.prog 46 = some ⟨.struct [(0, 3), (1, 3), (2, 4)], 3, 24, .agg #[.int .i64 0, .int .i64 0, .bool false]⟩ := by kernel_rfl
theorem te_47 : Zm Tryz.prog 47 = some ⟨.struct [(0, 3), (1, 3), (2, 4)], 3, 24, .agg #[.int .i64 0, .int .i64 0, .bool false]⟩ := by kernel_rfl
theorem te_48 : Zm Tryz.prog 48 = some ⟨.struct [(0, 3), (1, 3), (2, 26), (3, 22), (4, 4)], 5, 56, .agg #[.int .i64 0, .int .i64 0, .int .u64 0, .slice none 0 0, .bool false]⟩ := by kernel_rfl
theorem te_49 : Zm Tryz.prog 49 = some ⟨.struct [(0, 3), (1, 3), (2, 26), (3, 22), (4, 4)], 5, 56, .agg #[.int .i64 0, .int .i64 0, .int .u64 0, .slice none 0 0, .bool false]⟩ := by kernel_rfl
theorem te_50 : Zm Tryz.prog 50 = some ⟨.struct [(0, 3), (1, 26), (2, 22)], 3, 40, .agg #[.int .i64 0, .int .u64 0, .slice none 0 0]⟩ := by kernel_rfl
theorem te_51 : Zm Tryz.prog 51 = some ⟨.struct [(0, 3), (1, 26), (2, 22)], 3, 40, .agg #[.int .i64 0, .int .u64 0, .slice none 0 0]⟩ := by kernel_rfl
theorem te_52 : Zm Tryz.prog 52 = some ⟨.slice 154, 1, 24, .slice none 0 0⟩ := by kernel_rfl
theorem te_53 : Zm Tryz.prog 53 = some ⟨.struct [(0, 3), (1, 3), (2, 52), (3, 4)], 4, 48, .agg #[.int .i64 0, .int .i64 0, .slice none 0 0, .bool false]⟩ := by kernel_rfl
theorem te_54 : Zm Tryz.prog 54 = some ⟨.struct [(0, 3), (1, 3), (2, 52), (3, 4)], 4, 48, .agg #[.int .i64 0, .int .i64 0, .slice none 0 0, .bool false]⟩ := by kernel_rfl
theorem te_55 : Zm Tryz.prog 55 = some ⟨.struct [(0, 3), (1, 3), (2, 3), (3, 52), (4, 4)], 5, 56, .agg #[.int .i64 0, .int .i64 0, .int .i64 0, .slice none 0 0, .bool false]⟩ := by kernel_rfl
theorem te_56 : Zm Tryz.prog 56 = some ⟨.struct [(0, 3), (1, 3), (2, 3), (3, 52), (4, 4)], 5, 56, .agg #[.int .i64 0, .int .i64 0, .int .i64 0, .slice none 0 0, .bool false]⟩ := by kernel_rfl
theorem te_57 : Zm Tryz.prog 57 = some ⟨.slice 25, 1, 24, .slice none 0 0⟩ := by kernel_rfl
theorem te_58 : Zm Tryz.prog 58 = some ⟨.struct [(0, 3), (1, 3), (2, 3), (3, 57), (4, 4)], 5, 56, .agg #[.int .i64 0, .int .i64 0, .int .i64 0, .slice none 0 0, .bool false]⟩ := by kernel_rfl
theorem te_59 : Zm Tryz.prog 59 = some ⟨.struct [(0, 3), (1, 3), (2, 3), (3, 57), (4, 4)], 5, 56, .agg #[.int .i64 0, .int .i64 0, .int .i64 0, .slice none 0 0, .bool false]⟩ := by kernel_rfl
theorem te_60 : Zm Tryz.prog 60 = some ⟨.struct [(0, 28), (4, 47), (7, 49), (12, 51), (15, 54), (19, 56), (24, 59)], 29, 312, .agg #[.int .i64 0, .int .i64 0, .int .i64 0, .int .u64 0, .int .i64 0, .int .i64 0, .bool false, .int .i64 0, .int .i64 0, .int .u64 0, .slice none 0 0, .bool false, .int .i64 0, .int .u64 0, .slice none 0 0, .int .i64 0, .int .i64 0, .slice none 0 0, .bool false, .int .i64 0, .int .i64 0, .int .i64 0, .slice none 0 0, .bool false, .int .i64 0, .int .i64 0, .int .i64 0, .slice none 0 0, .bool false]⟩ := by kernel_rfl
theorem te_61 : Zm Tryz.prog 61 = some ⟨.struct [(0, 28), (4, 47), (7, 49), (12, 51), (15, 54), (19, 56), (24, 59)], 29, 312, .agg #[.int .i64 0, .int .i64 0, .int .i64 0, .int .u64 0, .int .i64 0, .int .i64 0, .bool false, .int .i64 0, .int .i64 0, .int .u64 0, .slice none 0 0, .bool false, .int .i64 0, .int .u64 0, .slice none 0 0, .int .i64 0, .int .i64 0, .slice none 0 0, .bool false, .int .i64 0, .int .i64 0, .int .i64 0, .slice none 0 0, .bool false, .int .i64 0, .int .i64 0, .int .i64 0, .slice none 0 0, .bool false]⟩ := by kernel_rfl
theorem te_62 : Zm Tryz.prog 62 = some ⟨.struct [(0, 3), (1, 3)], 2, 16, .agg #[.int .i64 0, .int .i64 0]⟩ := by kernel_rfl
theorem te_63 : Zm Tryz.prog 63 = some ⟨.struct [(0, 3), (1, 3)], 2, 16, .agg #[.int .i64 0, .int .i64 0]⟩ := by kernel_rfl
theorem te_64 : Zm Tryz.prog 64 = some ⟨.struct [(0, 3), (1, 3), (2, 4), (3, 22), (4, 3), (5, 61), (34, 61), (63, 3), (64, 3), (65, 3), (66, 3), (67, 63), (69, 30), (70, 4)], 71, 760, .agg #[.int .i64 0, .int .i64 0, .bool false, .slice none 0 0, .int .i64 0, .int .i64 0, .int .i64 0, .int .i64 0, .int .u64 0, .int .i64 0, .int .i64 0, .bool false, .int .i64 0, .int .i64 0, .int .u64 0, .slice none 0 0, .bool false, .int .i64 0, .int .u64 0, .slice none 0 0, .int .i64 0, .int .i64 0, .slice none 0 0, .bool false, .int .i64 0, .int .i64 0, .int .i64 0, .slice none 0 0, .bool false, .int .i64 0, .int .i64 0, .int .i64 0, .slice none 0 0, .bool false, .int .i64 0, .int .i64 0, .int .i64 0, .int .u64 0, .int .i64 0, .int .i64 0, .bool false, .int .i64 0, .int .i64 0, .int .u64 0, .slice none 0 0, .bool false, .int .i64 0, .int .u64 0, .slice none 0 0, .int .i64 0, .int .i64 0, .slice none 0 0, .bool false, .int .i64 0, .int .i64 0, .int .i64 0, .slice none 0 0, .bool false, .int .i64 0, .int .i64 0, .int .i64 0, .slice none 0 0, .bool false, .int .i64 0, .int .i64 0, .int .i64 0, .int .i64 0, .int .i64 0, .int .i64 0, .slice none 0 0, .bool false]⟩ := by kernel_rfl
theorem te_65 : Zm Tryz.prog 65 = some ⟨.struct [(0, 3), (1, 3), (2, 4), (3, 22), (4, 3), (5, 61), (34, 61), (63, 3), (64, 3), (65, 3), (66, 3), (67, 63), (69, 30), (70, 4)], 71, 760, .agg #[.int .i64 0, .int .i64 0, .bool false, .slice none 0 0, .int .i64 0, .int .i64 0, .int .i64 0, .int .i64 0, .int .u64 0, .int .i64 0, .int .i64 0, .bool false, .int .i64 0, .int .i64 0, .int .u64 0, .slice none 0 0, .bool false, .int .i64 0, .int .u64 0, .slice none 0 0, .int .i64 0, .int .i64 0, .slice none 0 0, .bool false, .int .i64 0, .int .i64 0, .int .i64 0, .slice none 0 0, .bool false, .int .i64 0, .int .i64 0, .int .i64 0, .slice none 0 0, .bool false, .int .i64 0, .int .i64 0, .int .i64 0, .int .u64 0, .int .i64 0, .int .i64 0, .bool false, .int .i64 0, .int .i64 0, .int .u64 0, .slice none 0 0, .bool false, .int .i64 0, .int .u64 0, .slice none 0 0, .int .i64 0, .int .i64 0, .slice none 0 0, .bool false, .int .i64 0, .int .i64 0, .int .i64 0, .slice none 0 0, .bool false, .int .i64 0, .int .i64 0, .int .i64 0, .slice none 0 0, .bool false, .int .i64 0, .int .i64 0, .int .i64 0, .int .i64 0, .int .i64 0, .int .i64 0, .slice none 0 0, .bool false]⟩ := by kernel_rfl
theorem te_66 : Zm Tryz.prog 66 = some ⟨.slice 76, 1, 24, .slice none 0 0⟩ := by kernel_rfl
theorem te_67 : Zm Tryz.prog 67 = some ⟨.slice 78, 1, 24, .slice none 0 0⟩ := by kernel_rfl
theorem te_68 : Zm Tryz.prog 68 = some ⟨.struct [(0, 4), (1, 34), (23, 65), (94, 3), (95, 66), (96, 67)], 97, 1088, .agg #[.bool false, .int .i64 0, .string ByteArray.empty, .string ByteArray.empty, .slice none 0 0, .int .i64 0, .int .i64 0, .int .i64 0, .int .u64 0, .slice none 0 0, .slice none 0 0, .int .i64 0, .int .i64 0, .int .i64 0, .int .i64 0, .int .i64 0, .int .i64 0, .int .i64 0, .string ByteArray.empty, .int .i64 0, .int .i64 0, .int .i64 0, .slice none 0 0, .int .i64 0, .int .i64 0, .bool false, .slice none 0 0, .int .i64 0, .int .i64 0, .int .i64 0, .int .i64 0, .int .u64 0, .int .i64 0, .int .i64 0, .bool false, .int .i64 0, .int .i64 0, .int .u64 0, .slice none 0 0, .bool false, .int .i64 0, .int .u64 0, .slice none 0 0, .int .i64 0, .int .i64 0, .slice none 0 0, .bool false, .int .i64 0, .int .i64 0, .int .i64 0, .slice none 0 0, .bool false, .int .i64 0, .int .i64 0, .int .i64 0, .slice none 0 0, .bool false, .int .i64 0, .int .i64 0, .int .i64 0, .int .u64 0, .int .i64 0, .int .i64 0, .bool false, .int .i64 0, .int .i64 0, .int .u64 0, .slice none 0 0, .bool false, .int .i64 0, .int .u64 0, .slice none 0 0, .int .i64 0, .int .i64 0, .slice none 0 0, .bool false, .int .i64 0, .int .i64 0, .int .i64 0, .slice none 0 0, .bool false, .int .i64 0, .int .i64 0, .int .i64 0, .slice none 0 0, .bool false, .int .i64 0, .int .i64 0, .int .i64 0, .int .i64 0, .int .i64 0, .int .i64 0, .slice none 0 0, .bool false, .int .i64 0, .slice none 0 0, .slice none 0 0]⟩ := by kernel_rfl
theorem te_69 : Zm Tryz.prog 69 = some ⟨.struct [(0, 4), (1, 34), (23, 65), (94, 3), (95, 66), (96, 67)], 97, 1088, .agg #[.bool false, .int .i64 0, .string ByteArray.empty, .string ByteArray.empty, .slice none 0 0, .int .i64 0, .int .i64 0, .int .i64 0, .int .u64 0, .slice none 0 0, .slice none 0 0, .int .i64 0, .int .i64 0, .int .i64 0, .int .i64 0, .int .i64 0, .int .i64 0, .int .i64 0, .string ByteArray.empty, .int .i64 0, .int .i64 0, .int .i64 0, .slice none 0 0, .int .i64 0, .int .i64 0, .bool false, .slice none 0 0, .int .i64 0, .int .i64 0, .int .i64 0, .int .i64 0, .int .u64 0, .int .i64 0, .int .i64 0, .bool false, .int .i64 0, .int .i64 0, .int .u64 0, .slice none 0 0, .bool false, .int .i64 0, .int .u64 0, .slice none 0 0, .int .i64 0, .int .i64 0, .slice none 0 0, .bool false, .int .i64 0, .int .i64 0, .int .i64 0, .slice none 0 0, .bool false, .int .i64 0, .int .i64 0, .int .i64 0, .slice none 0 0, .bool false, .int .i64 0, .int .i64 0, .int .i64 0, .int .u64 0, .int .i64 0, .int .i64 0, .bool false, .int .i64 0, .int .i64 0, .int .u64 0, .slice none 0 0, .bool false, .int .i64 0, .int .u64 0, .slice none 0 0, .int .i64 0, .int .i64 0, .slice none 0 0, .bool false, .int .i64 0, .int .i64 0, .int .i64 0, .slice none 0 0, .bool false, .int .i64 0, .int .i64 0, .int .i64 0, .slice none 0 0, .bool false, .int .i64 0, .int .i64 0, .int .i64 0, .int .i64 0, .int .i64 0, .int .i64 0, .slice none 0 0, .bool false, .int .i64 0, .slice none 0 0, .slice none 0 0]⟩ := by kernel_rfl
theorem te_74 : Zm Tryz.prog 74 = some ⟨.int .u64, 1, 8, .int .u64 0⟩ := by kernel_rfl
theorem te_75 : Zm Tryz.prog 75 = some ⟨.struct [(0, 4), (1, 3), (2, 25)], 3, 40, .agg #[.bool false, .int .i64 0, .slice none 0 0]⟩ := by kernel_rfl
theorem te_76 : Zm Tryz.prog 76 = some ⟨.struct [(0, 4), (1, 3), (2, 25)], 3, 40, .agg #[.bool false, .int .i64 0, .slice none 0 0]⟩ := by kernel_rfl
theorem te_77 : Zm Tryz.prog 77 = some ⟨.struct [(0, 4), (1, 3), (2, 9), (3, 3)], 4, 40, .agg #[.bool false, .int .i64 0, .string ByteArray.empty, .int .i64 0]⟩ := by kernel_rfl
theorem te_78 : Zm Tryz.prog 78 = some ⟨.struct [(0, 4), (1, 3), (2, 9), (3, 3)], 4, 40, .agg #[.bool false, .int .i64 0, .string ByteArray.empty, .int .i64 0]⟩ := by kernel_rfl
theorem te_80 : Zm Tryz.prog 80 = some ⟨.struct [(0, 9), (1, 3)], 2, 24, .agg #[.string ByteArray.empty, .int .i64 0]⟩ := by kernel_rfl
theorem te_81 : Zm Tryz.prog 81 = some ⟨.struct [(0, 9), (1, 3)], 2, 24, .agg #[.string ByteArray.empty, .int .i64 0]⟩ := by kernel_rfl
theorem te_91 : Zm Tryz.prog 91 = some ⟨.ptr 69, 1, 8, .pointer none⟩ := by kernel_rfl
theorem Pp : Zm Tryz.prog 100 = some ⟨.array 14 4, 14, 14, .agg #[.bool false, .bool false, .bool false, .bool false, .bool false, .bool false, .bool false, .bool false, .bool false, .bool false, .bool false, .bool false, .bool false, .bool false]⟩ := by kernel_rfl
theorem Pq : Zm Tryz.prog 110 = some ⟨.array 13 4, 13, 13, .agg #[.bool false, .bool false, .bool false, .bool false, .bool false, .bool false, .bool false, .bool false, .bool false, .bool false, .bool false, .bool false, .bool false]⟩ := by kernel_rfl
theorem Pr : Zm Tryz.prog 153 = some ⟨.struct [(0, 9), (1, 3), (2, 3)], 3, 32, .agg #[.string ByteArray.empty, .int .i64 0, .int .i64 0]⟩ := by kernel_rfl
theorem Ps : Zm Tryz.prog 154 = some ⟨.struct [(0, 9), (1, 3), (2, 3)], 3, 32, .agg #[.string ByteArray.empty, .int .i64 0, .int .i64 0]⟩ := by kernel_rfl
theorem Pt : Zm Tryz.prog 155 = some ⟨.int .u32, 1, 4, .int .u32 0⟩ := by kernel_rfl
theorem Pu : Zm Tryz.prog 200 = some ⟨.slice 26, 1, 24, .slice none 0 0⟩ := by kernel_rfl
theorem Pv : Zm Tryz.prog 206 = some ⟨.struct [(0, 17), (1, 17), (2, 17), (3, 9)], 4, 40, .agg #[.pointer none, .pointer none, .pointer none, .string ByteArray.empty]⟩ := by kernel_rfl
theorem Pw : Zm Tryz.prog 207 = some ⟨.struct [(0, 17), (1, 17), (2, 17), (3, 9)], 4, 40, .agg #[.pointer none, .pointer none, .pointer none, .string ByteArray.empty]⟩ := by kernel_rfl
theorem Px : Zm Tryz.prog 208 = some ⟨.array 0 16, 0, 0, .agg #[]⟩ := by kernel_rfl
theorem Py : Zm Tryz.prog 209 = some ⟨.struct [(0, 208)], 0, 0, .agg #[]⟩ := by kernel_rfl
theorem Pz : Zm Tryz.prog 210 = some ⟨.struct [(0, 208)], 0, 0, .agg #[]⟩ := by kernel_rfl
theorem PC : Zm Tryz.prog 212 = some ⟨.int .u8, 1, 1, .int .u8 0⟩ := by kernel_rfl
theorem PD : Zm Tryz.prog 213 = some ⟨.int .u8, 1, 1, .int .u8 0⟩ := by kernel_rfl
theorem PE : Zm Tryz.prog 215 = some ⟨.ptr 5, 1, 8, .pointer none⟩ := by kernel_rfl
theorem PF : Zm Tryz.prog 216 = some ⟨.int .i32, 1, 4, .int .i32 0⟩ := by kernel_rfl
theorem PG : Zm Tryz.prog 217 = some ⟨.int .i32, 1, 4, .int .i32 0⟩ := by kernel_rfl
theorem PH : Zm Tryz.prog 218 = some ⟨.struct [(0, 12), (1, 12), (2, 155), (3, 212), (4, 5), (5, 5), (6, 213), (7, 214), (8, 215), (9, 216), (10, 217)], 11, 48, .agg #[.int .u64 0, .int .u64 0, .int .u32 0, .int .u8 0, .int .u8 0, .int .u8 0, .int .u8 0, .nilFunc, .pointer none, .int .i32 0, .int .i32 0]⟩ := by kernel_rfl
theorem PI : Zm Tryz.prog 219 = some ⟨.struct [(0, 12), (1, 12), (2, 155), (3, 212), (4, 5), (5, 5), (6, 213), (7, 214), (8, 215), (9, 216), (10, 217)], 11, 48, .agg #[.int .u64 0, .int .u64 0, .int .u32 0, .int .u8 0, .int .u8 0, .int .u8 0, .int .u8 0, .nilFunc, .pointer none, .int .i32 0, .int .i32 0]⟩ := by kernel_rfl
def tbl : List (Nat × TE) := [(2, ⟨.int .i64, 1, 8, .int .i64 0⟩),
  (3, ⟨.int .i64, 1, 8, .int .i64 0⟩),
  (4, ⟨.bool, 1, 1, .bool false⟩),
  (5, ⟨.int .u8, 1, 1, .int .u8 0⟩),
  (6, ⟨.int .u8, 1, 1, .int .u8 0⟩),
  (7, ⟨.struct [(0, 2), (1, 3), (2, 4), (3, 6)], 4, 24, .agg #[.int .i64 0, .int .i64 0, .bool false, .int .u8 0]⟩),
  (8, ⟨.struct [(0, 2), (1, 3), (2, 4), (3, 6)], 4, 24, .agg #[.int .i64 0, .int .i64 0, .bool false, .int .u8 0]⟩),
  (9, ⟨.string, 1, 16, .string ByteArray.empty⟩),
  (10, ⟨.string, 1, 16, .string ByteArray.empty⟩),
  (11, ⟨.string, 1, 16, .string ByteArray.empty⟩),
  (12, ⟨.int .u64, 1, 8, .int .u64 0⟩),
  (13, ⟨.struct [(0, 9), (1, 12)], 2, 24, .agg #[.string ByteArray.empty, .int .u64 0]⟩),
  (14, ⟨.struct [(0, 9), (1, 12)], 2, 24, .agg #[.string ByteArray.empty, .int .u64 0]⟩),
  (15, ⟨.ptr 207, 1, 8, .pointer none⟩),
  (16, ⟨.ptr 210, 1, 8, .pointer none⟩),
  (17, ⟨.ptr 219, 1, 8, .pointer none⟩),
  (18, ⟨.struct [(0, 17)], 1, 8, .agg #[.pointer none]⟩),
  (19, ⟨.struct [(0, 17)], 1, 8, .agg #[.pointer none]⟩),
  (21, ⟨.int .i32, 1, 4, .int .i32 0⟩),
  (22, ⟨.slice 3, 1, 24, .slice none 0 0⟩),
  (23, ⟨.slice 69, 1, 24, .slice none 0 0⟩),
  (25, ⟨.slice 9, 1, 24, .slice none 0 0⟩),
  (26, ⟨.int .u64, 1, 8, .int .u64 0⟩),
  (27, ⟨.struct [(0, 3), (1, 3), (2, 3), (3, 26)], 4, 32, .agg #[.int .i64 0, .int .i64 0, .int .i64 0, .int .u64 0]⟩),
  (28, ⟨.struct [(0, 3), (1, 3), (2, 3), (3, 26)], 4, 32, .agg #[.int .i64 0, .int .i64 0, .int .i64 0, .int .u64 0]⟩),
  (29, ⟨.slice 81, 1, 24, .slice none 0 0⟩),
  (30, ⟨.slice 5, 1, 24, .slice none 0 0⟩),
  (31, ⟨.struct [(0, 3), (1, 9), (2, 3), (3, 3), (4, 3)], 5, 48, .agg #[.int .i64 0, .string ByteArray.empty, .int .i64 0, .int .i64 0, .int .i64 0]⟩),
  (32, ⟨.struct [(0, 3), (1, 9), (2, 3), (3, 3), (4, 3)], 5, 48, .agg #[.int .i64 0, .string ByteArray.empty, .int .i64 0, .int .i64 0, .int .i64 0]⟩),
  (33, ⟨.struct [(0, 3), (1, 9), (2, 9), (3, 25), (4, 28), (8, 29), (9, 30), (10, 3), (11, 3), (12, 3), (13, 3), (14, 3), (15, 3), (16, 32), (21, 30)], 22, 264, .agg #[.int .i64 0, .string ByteArray.empty, .string ByteArray.empty, .slice none 0 0, .int .i64 0, .int .i64 0, .int .i64 0, .int .u64 0, .slice none 0 0, .slice none 0 0, .int .i64 0, .int .i64 0, .int .i64 0, .int .i64 0, .int .i64 0, .int .i64 0, .int .i64 0, .string ByteArray.empty, .int .i64 0, .int .i64 0, .int .i64 0, .slice none 0 0]⟩),
  (34, ⟨.struct [(0, 3), (1, 9), (2, 9), (3, 25), (4, 28), (8, 29), (9, 30), (10, 3), (11, 3), (12, 3), (13, 3), (14, 3), (15, 3), (16, 32), (21, 30)], 22, 264, .agg #[.int .i64 0, .string ByteArray.empty, .string ByteArray.empty, .slice none 0 0, .int .i64 0, .int .i64 0, .int .i64 0, .int .u64 0, .slice none 0 0, .slice none 0 0, .int .i64 0, .int .i64 0, .int .i64 0, .int .i64 0, .int .i64 0, .int .i64 0, .int .i64 0, .string ByteArray.empty, .int .i64 0, .int .i64 0, .int .i64 0, .slice none 0 0]⟩),
  (37, ⟨.int .i64, 1, 8, .int .i64 0⟩),
  (46, ⟨.struct [(0, 3), (1, 3), (2, 4)], 3, 24, .agg #[.int .i64 0, .int .i64 0, .bool false]⟩),
  (47, ⟨.struct [(0, 3), (1, 3), (2, 4)], 3, 24, .agg #[.int .i64 0, .int .i64 0, .bool false]⟩),
  (48, ⟨.struct [(0, 3), (1, 3), (2, 26), (3, 22), (4, 4)], 5, 56, .agg #[.int .i64 0, .int .i64 0, .int .u64 0, .slice none 0 0, .bool false]⟩),
  (49, ⟨.struct [(0, 3), (1, 3), (2, 26), (3, 22), (4, 4)], 5, 56, .agg #[.int .i64 0, .int .i64 0, .int .u64 0, .slice none 0 0, .bool false]⟩),
  (50, ⟨.struct [(0, 3), (1, 26), (2, 22)], 3, 40, .agg #[.int .i64 0, .int .u64 0, .slice none 0 0]⟩),
  (51, ⟨.struct [(0, 3), (1, 26), (2, 22)], 3, 40, .agg #[.int .i64 0, .int .u64 0, .slice none 0 0]⟩),
  (52, ⟨.slice 154, 1, 24, .slice none 0 0⟩),
  (53, ⟨.struct [(0, 3), (1, 3), (2, 52), (3, 4)], 4, 48, .agg #[.int .i64 0, .int .i64 0, .slice none 0 0, .bool false]⟩),
  (54, ⟨.struct [(0, 3), (1, 3), (2, 52), (3, 4)], 4, 48, .agg #[.int .i64 0, .int .i64 0, .slice none 0 0, .bool false]⟩),
  (55, ⟨.struct [(0, 3), (1, 3), (2, 3), (3, 52), (4, 4)], 5, 56, .agg #[.int .i64 0, .int .i64 0, .int .i64 0, .slice none 0 0, .bool false]⟩),
  (56, ⟨.struct [(0, 3), (1, 3), (2, 3), (3, 52), (4, 4)], 5, 56, .agg #[.int .i64 0, .int .i64 0, .int .i64 0, .slice none 0 0, .bool false]⟩),
  (57, ⟨.slice 25, 1, 24, .slice none 0 0⟩),
  (58, ⟨.struct [(0, 3), (1, 3), (2, 3), (3, 57), (4, 4)], 5, 56, .agg #[.int .i64 0, .int .i64 0, .int .i64 0, .slice none 0 0, .bool false]⟩),
  (59, ⟨.struct [(0, 3), (1, 3), (2, 3), (3, 57), (4, 4)], 5, 56, .agg #[.int .i64 0, .int .i64 0, .int .i64 0, .slice none 0 0, .bool false]⟩),
  (60, ⟨.struct [(0, 28), (4, 47), (7, 49), (12, 51), (15, 54), (19, 56), (24, 59)], 29, 312, .agg #[.int .i64 0, .int .i64 0, .int .i64 0, .int .u64 0, .int .i64 0, .int .i64 0, .bool false, .int .i64 0, .int .i64 0, .int .u64 0, .slice none 0 0, .bool false, .int .i64 0, .int .u64 0, .slice none 0 0, .int .i64 0, .int .i64 0, .slice none 0 0, .bool false, .int .i64 0, .int .i64 0, .int .i64 0, .slice none 0 0, .bool false, .int .i64 0, .int .i64 0, .int .i64 0, .slice none 0 0, .bool false]⟩),
  (61, ⟨.struct [(0, 28), (4, 47), (7, 49), (12, 51), (15, 54), (19, 56), (24, 59)], 29, 312, .agg #[.int .i64 0, .int .i64 0, .int .i64 0, .int .u64 0, .int .i64 0, .int .i64 0, .bool false, .int .i64 0, .int .i64 0, .int .u64 0, .slice none 0 0, .bool false, .int .i64 0, .int .u64 0, .slice none 0 0, .int .i64 0, .int .i64 0, .slice none 0 0, .bool false, .int .i64 0, .int .i64 0, .int .i64 0, .slice none 0 0, .bool false, .int .i64 0, .int .i64 0, .int .i64 0, .slice none 0 0, .bool false]⟩),
  (62, ⟨.struct [(0, 3), (1, 3)], 2, 16, .agg #[.int .i64 0, .int .i64 0]⟩),
  (63, ⟨.struct [(0, 3), (1, 3)], 2, 16, .agg #[.int .i64 0, .int .i64 0]⟩),
  (64, ⟨.struct [(0, 3), (1, 3), (2, 4), (3, 22), (4, 3), (5, 61), (34, 61), (63, 3), (64, 3), (65, 3), (66, 3), (67, 63), (69, 30), (70, 4)], 71, 760, .agg #[.int .i64 0, .int .i64 0, .bool false, .slice none 0 0, .int .i64 0, .int .i64 0, .int .i64 0, .int .i64 0, .int .u64 0, .int .i64 0, .int .i64 0, .bool false, .int .i64 0, .int .i64 0, .int .u64 0, .slice none 0 0, .bool false, .int .i64 0, .int .u64 0, .slice none 0 0, .int .i64 0, .int .i64 0, .slice none 0 0, .bool false, .int .i64 0, .int .i64 0, .int .i64 0, .slice none 0 0, .bool false, .int .i64 0, .int .i64 0, .int .i64 0, .slice none 0 0, .bool false, .int .i64 0, .int .i64 0, .int .i64 0, .int .u64 0, .int .i64 0, .int .i64 0, .bool false, .int .i64 0, .int .i64 0, .int .u64 0, .slice none 0 0, .bool false, .int .i64 0, .int .u64 0, .slice none 0 0, .int .i64 0, .int .i64 0, .slice none 0 0, .bool false, .int .i64 0, .int .i64 0, .int .i64 0, .slice none 0 0, .bool false, .int .i64 0, .int .i64 0, .int .i64 0, .slice none 0 0, .bool false, .int .i64 0, .int .i64 0, .int .i64 0, .int .i64 0, .int .i64 0, .int .i64 0, .slice none 0 0, .bool false]⟩),
  (65, ⟨.struct [(0, 3), (1, 3), (2, 4), (3, 22), (4, 3), (5, 61), (34, 61), (63, 3), (64, 3), (65, 3), (66, 3), (67, 63), (69, 30), (70, 4)], 71, 760, .agg #[.int .i64 0, .int .i64 0, .bool false, .slice none 0 0, .int .i64 0, .int .i64 0, .int .i64 0, .int .i64 0, .int .u64 0, .int .i64 0, .int .i64 0, .bool false, .int .i64 0, .int .i64 0, .int .u64 0, .slice none 0 0, .bool false, .int .i64 0, .int .u64 0, .slice none 0 0, .int .i64 0, .int .i64 0, .slice none 0 0, .bool false, .int .i64 0, .int .i64 0, .int .i64 0, .slice none 0 0, .bool false, .int .i64 0, .int .i64 0, .int .i64 0, .slice none 0 0, .bool false, .int .i64 0, .int .i64 0, .int .i64 0, .int .u64 0, .int .i64 0, .int .i64 0, .bool false, .int .i64 0, .int .i64 0, .int .u64 0, .slice none 0 0, .bool false, .int .i64 0, .int .u64 0, .slice none 0 0, .int .i64 0, .int .i64 0, .slice none 0 0, .bool false, .int .i64 0, .int .i64 0, .int .i64 0, .slice none 0 0, .bool false, .int .i64 0, .int .i64 0, .int .i64 0, .slice none 0 0, .bool false, .int .i64 0, .int .i64 0, .int .i64 0, .int .i64 0, .int .i64 0, .int .i64 0, .slice none 0 0, .bool false]⟩),
  (66, ⟨.slice 76, 1, 24, .slice none 0 0⟩),
  (67, ⟨.slice 78, 1, 24, .slice none 0 0⟩),
  (68, ⟨.struct [(0, 4), (1, 34), (23, 65), (94, 3), (95, 66), (96, 67)], 97, 1088, .agg #[.bool false, .int .i64 0, .string ByteArray.empty, .string ByteArray.empty, .slice none 0 0, .int .i64 0, .int .i64 0, .int .i64 0, .int .u64 0, .slice none 0 0, .slice none 0 0, .int .i64 0, .int .i64 0, .int .i64 0, .int .i64 0, .int .i64 0, .int .i64 0, .int .i64 0, .string ByteArray.empty, .int .i64 0, .int .i64 0, .int .i64 0, .slice none 0 0, .int .i64 0, .int .i64 0, .bool false, .slice none 0 0, .int .i64 0, .int .i64 0, .int .i64 0, .int .i64 0, .int .u64 0, .int .i64 0, .int .i64 0, .bool false, .int .i64 0, .int .i64 0, .int .u64 0, .slice none 0 0, .bool false, .int .i64 0, .int .u64 0, .slice none 0 0, .int .i64 0, .int .i64 0, .slice none 0 0, .bool false, .int .i64 0, .int .i64 0, .int .i64 0, .slice none 0 0, .bool false, .int .i64 0, .int .i64 0, .int .i64 0, .slice none 0 0, .bool false, .int .i64 0, .int .i64 0, .int .i64 0, .int .u64 0, .int .i64 0, .int .i64 0, .bool false, .int .i64 0, .int .i64 0, .int .u64 0, .slice none 0 0, .bool false, .int .i64 0, .int .u64 0, .slice none 0 0, .int .i64 0, .int .i64 0, .slice none 0 0, .bool false, .int .i64 0, .int .i64 0, .int .i64 0, .slice none 0 0, .bool false, .int .i64 0, .int .i64 0, .int .i64 0, .slice none 0 0, .bool false, .int .i64 0, .int .i64 0, .int .i64 0, .int .i64 0, .int .i64 0, .int .i64 0, .slice none 0 0, .bool false, .int .i64 0, .slice none 0 0, .slice none 0 0]⟩),
  (69, ⟨.struct [(0, 4), (1, 34), (23, 65), (94, 3), (95, 66), (96, 67)], 97, 1088, .agg #[.bool false, .int .i64 0, .string ByteArray.empty, .string ByteArray.empty, .slice none 0 0, .int .i64 0, .int .i64 0, .int .i64 0, .int .u64 0, .slice none 0 0, .slice none 0 0, .int .i64 0, .int .i64 0, .int .i64 0, .int .i64 0, .int .i64 0, .int .i64 0, .int .i64 0, .string ByteArray.empty, .int .i64 0, .int .i64 0, .int .i64 0, .slice none 0 0, .int .i64 0, .int .i64 0, .bool false, .slice none 0 0, .int .i64 0, .int .i64 0, .int .i64 0, .int .i64 0, .int .u64 0, .int .i64 0, .int .i64 0, .bool false, .int .i64 0, .int .i64 0, .int .u64 0, .slice none 0 0, .bool false, .int .i64 0, .int .u64 0, .slice none 0 0, .int .i64 0, .int .i64 0, .slice none 0 0, .bool false, .int .i64 0, .int .i64 0, .int .i64 0, .slice none 0 0, .bool false, .int .i64 0, .int .i64 0, .int .i64 0, .slice none 0 0, .bool false, .int .i64 0, .int .i64 0, .int .i64 0, .int .u64 0, .int .i64 0, .int .i64 0, .bool false, .int .i64 0, .int .i64 0, .int .u64 0, .slice none 0 0, .bool false, .int .i64 0, .int .u64 0, .slice none 0 0, .int .i64 0, .int .i64 0, .slice none 0 0, .bool false, .int .i64 0, .int .i64 0, .int .i64 0, .slice none 0 0, .bool false, .int .i64 0, .int .i64 0, .int .i64 0, .slice none 0 0, .bool false, .int .i64 0, .int .i64 0, .int .i64 0, .int .i64 0, .int .i64 0, .int .i64 0, .slice none 0 0, .bool false, .int .i64 0, .slice none 0 0, .slice none 0 0]⟩),
  (74, ⟨.int .u64, 1, 8, .int .u64 0⟩),
  (75, ⟨.struct [(0, 4), (1, 3), (2, 25)], 3, 40, .agg #[.bool false, .int .i64 0, .slice none 0 0]⟩),
  (76, ⟨.struct [(0, 4), (1, 3), (2, 25)], 3, 40, .agg #[.bool false, .int .i64 0, .slice none 0 0]⟩),
  (77, ⟨.struct [(0, 4), (1, 3), (2, 9), (3, 3)], 4, 40, .agg #[.bool false, .int .i64 0, .string ByteArray.empty, .int .i64 0]⟩),
  (78, ⟨.struct [(0, 4), (1, 3), (2, 9), (3, 3)], 4, 40, .agg #[.bool false, .int .i64 0, .string ByteArray.empty, .int .i64 0]⟩),
  (80, ⟨.struct [(0, 9), (1, 3)], 2, 24, .agg #[.string ByteArray.empty, .int .i64 0]⟩),
  (81, ⟨.struct [(0, 9), (1, 3)], 2, 24, .agg #[.string ByteArray.empty, .int .i64 0]⟩),
  (91, ⟨.ptr 69, 1, 8, .pointer none⟩),
  (100, ⟨.array 14 4, 14, 14, .agg #[.bool false, .bool false, .bool false, .bool false, .bool false, .bool false, .bool false, .bool false, .bool false, .bool false, .bool false, .bool false, .bool false, .bool false]⟩),
  (110, ⟨.array 13 4, 13, 13, .agg #[.bool false, .bool false, .bool false, .bool false, .bool false, .bool false, .bool false, .bool false, .bool false, .bool false, .bool false, .bool false, .bool false]⟩),
  (153, ⟨.struct [(0, 9), (1, 3), (2, 3)], 3, 32, .agg #[.string ByteArray.empty, .int .i64 0, .int .i64 0]⟩),
  (154, ⟨.struct [(0, 9), (1, 3), (2, 3)], 3, 32, .agg #[.string ByteArray.empty, .int .i64 0, .int .i64 0]⟩),
  (155, ⟨.int .u32, 1, 4, .int .u32 0⟩),
  (200, ⟨.slice 26, 1, 24, .slice none 0 0⟩),
  (206, ⟨.struct [(0, 17), (1, 17), (2, 17), (3, 9)], 4, 40, .agg #[.pointer none, .pointer none, .pointer none, .string ByteArray.empty]⟩),
  (207, ⟨.struct [(0, 17), (1, 17), (2, 17), (3, 9)], 4, 40, .agg #[.pointer none, .pointer none, .pointer none, .string ByteArray.empty]⟩),
  (208, ⟨.array 0 16, 0, 0, .agg #[]⟩),
  (209, ⟨.struct [(0, 208)], 0, 0, .agg #[]⟩),
  (210, ⟨.struct [(0, 208)], 0, 0, .agg #[]⟩),
  (212, ⟨.int .u8, 1, 1, .int .u8 0⟩),
  (213, ⟨.int .u8, 1, 1, .int .u8 0⟩),
  (215, ⟨.ptr 5, 1, 8, .pointer none⟩),
  (216, ⟨.int .i32, 1, 4, .int .i32 0⟩),
  (217, ⟨.int .i32, 1, 4, .int .i32 0⟩),
  (218, ⟨.struct [(0, 12), (1, 12), (2, 155), (3, 212), (4, 5), (5, 5), (6, 213), (7, 214), (8, 215), (9, 216), (10, 217)], 11, 48, .agg #[.int .u64 0, .int .u64 0, .int .u32 0, .int .u8 0, .int .u8 0, .int .u8 0, .int .u8 0, .nilFunc, .pointer none, .int .i32 0, .int .i32 0]⟩),
  (219, ⟨.struct [(0, 12), (1, 12), (2, 155), (3, 212), (4, 5), (5, 5), (6, 213), (7, 214), (8, 215), (9, 216), (10, 217)], 11, 48, .agg #[.int .u64 0, .int .u64 0, .int .u32 0, .int .u8 0, .int .u8 0, .int .u8 0, .int .u8 0, .nilFunc, .pointer none, .int .i32 0, .int .i32 0]⟩)]
theorem Oo : ∀ y ∈ tbl, Zm Tryz.prog y.1 = some y.2 :=
  (List.forall_mem_cons.2 ⟨te_2, (List.forall_mem_cons.2 ⟨te_3, (List.forall_mem_cons.2 ⟨te_4, (List.forall_mem_cons.2 ⟨te_5, (List.forall_mem_cons.2 ⟨te_6, (List.forall_mem_cons.2 ⟨te_7, (List.forall_mem_cons.2 ⟨te_8, (List.forall_mem_cons.2 ⟨te_9, (List.forall_mem_cons.2 ⟨te_10, (List.forall_mem_cons.2 ⟨te_11, (List.forall_mem_cons.2 ⟨te_12, (List.forall_mem_cons.2 ⟨te_13, (List.forall_mem_cons.2 ⟨te_14, (List.forall_mem_cons.2 ⟨te_15, (List.forall_mem_cons.2 ⟨te_16, (List.forall_mem_cons.2 ⟨te_17, (List.forall_mem_cons.2 ⟨te_18, (List.forall_mem_cons.2 ⟨te_19, (List.forall_mem_cons.2 ⟨te_21, (List.forall_mem_cons.2 ⟨te_22, (List.forall_mem_cons.2 ⟨te_23, (List.forall_mem_cons.2 ⟨te_25, (List.forall_mem_cons.2 ⟨te_26, (List.forall_mem_cons.2 ⟨te_27, (List.forall_mem_cons.2 ⟨te_28, (List.forall_mem_cons.2 ⟨te_29, (List.forall_mem_cons.2 ⟨te_30, (List.forall_mem_cons.2 ⟨te_31, (List.forall_mem_cons.2 ⟨te_32, (List.forall_mem_cons.2 ⟨te_33, (List.forall_mem_cons.2 ⟨te_34, (List.forall_mem_cons.2 ⟨te_37, (List.forall_mem_cons.2 ⟨te_46, (List.forall_mem_cons.2 ⟨te_47, (List.forall_mem_cons.2 ⟨te_48, (List.forall_mem_cons.2 ⟨te_49, (List.forall_mem_cons.2 ⟨te_50, (List.forall_mem_cons.2 ⟨te_51, (List.forall_mem_cons.2 ⟨te_52, (List.forall_mem_cons.2 ⟨te_53, (List.forall_mem_cons.2 ⟨te_54, (List.forall_mem_cons.2 ⟨te_55, (List.forall_mem_cons.2 ⟨te_56, (List.forall_mem_cons.2 ⟨te_57, (List.forall_mem_cons.2 ⟨te_58, (List.forall_mem_cons.2 ⟨te_59, (List.forall_mem_cons.2 ⟨te_60, (List.forall_mem_cons.2 ⟨te_61, (List.forall_mem_cons.2 ⟨te_62, (List.forall_mem_cons.2 ⟨te_63, (List.forall_mem_cons.2 ⟨te_64, (List.forall_mem_cons.2 ⟨te_65, (List.forall_mem_cons.2 ⟨te_66, (List.forall_mem_cons.2 ⟨te_67, (List.forall_mem_cons.2 ⟨te_68, (List.forall_mem_cons.2 ⟨te_69, (List.forall_mem_cons.2 ⟨te_74, (List.forall_mem_cons.2 ⟨te_75, (List.forall_mem_cons.2 ⟨te_76, (List.forall_mem_cons.2 ⟨te_77, (List.forall_mem_cons.2 ⟨te_78, (List.forall_mem_cons.2 ⟨te_80, (List.forall_mem_cons.2 ⟨te_81, (List.forall_mem_cons.2 ⟨te_91, (List.forall_mem_cons.2 ⟨Pp, (List.forall_mem_cons.2 ⟨Pq, (List.forall_mem_cons.2 ⟨Pr, (List.forall_mem_cons.2 ⟨Ps, (List.forall_mem_cons.2 ⟨Pt, (List.forall_mem_cons.2 ⟨Pu, (List.forall_mem_cons.2 ⟨Pv, (List.forall_mem_cons.2 ⟨Pw, (List.forall_mem_cons.2 ⟨Px, (List.forall_mem_cons.2 ⟨Py, (List.forall_mem_cons.2 ⟨Pz, (List.forall_mem_cons.2 ⟨PC, (List.forall_mem_cons.2 ⟨PD, (List.forall_mem_cons.2 ⟨PE, (List.forall_mem_cons.2 ⟨PF, (List.forall_mem_cons.2 ⟨PG, (List.forall_mem_cons.2 ⟨PH, (List.forall_mem_cons.2 ⟨PI, (by simp)⟩)⟩)⟩)⟩)⟩)⟩)⟩)⟩)⟩)⟩)⟩)⟩)⟩)⟩)⟩)⟩)⟩)⟩)⟩)⟩)⟩)⟩)⟩)⟩)⟩)⟩)⟩)⟩)⟩)⟩)⟩)⟩)⟩)⟩)⟩)⟩)⟩)⟩)⟩)⟩)⟩)⟩)⟩)⟩)⟩)⟩)⟩)⟩)⟩)⟩)⟩)⟩)⟩)⟩)⟩)⟩)⟩)⟩)⟩)⟩)⟩)⟩)⟩)⟩)⟩)⟩)⟩)⟩)⟩)⟩)⟩)⟩)⟩)⟩)⟩)⟩)⟩)⟩)⟩)⟩)⟩)⟩)
instance tb : Tb Tryz.prog := ⟨tbl, tb_of Oo⟩
theorem mixed : Tryz.prog.follows .mixedOrders = true := by kernel_rfl
end Go.Proofs.YtpnpodbihdiegaaGreat
