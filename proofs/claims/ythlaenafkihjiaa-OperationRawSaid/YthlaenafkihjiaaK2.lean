/- Parts of the proof, laid together. No condition. -/
import Derived.Test.YthlaenafkihjiaaK1
import Derived.IntWalk
import Derived.Great.BuildSlice
import Derived.ChangeKeysEq
import Derived.Laws.StructEq
import Derived.Laws.IdiomStrings
import Derived.Laws.MakeOwn
import Derived.ScopeJumps
/- Functions over abstract worlds: how a contract is proved, and used. Conditions: those of the rules. -/
namespace Go.Proofs.Ythlaenafkihjiaa
open Go.RowKit
set_option linter.unusedVariables false
set_option linter.unusedSimpArgs false
def enF : Nat → List AV → List (Nat × TV)
  | _, [] => []
  | j, .c x :: r => (j, .c (.p x)) :: enF (j + 1) r
  | j, .agg xs :: r => (j, .agg (xs.map .p)) :: enF (j + 1) r
  | j, .ref _ :: r => (j, .c (.ptr (j, 0) 0 0)) :: enF (j + 1) r
section
variable {E : En} {N : Nat} {cx : Cx} {st : St} {a : Act} {w w' : World} {P : Program} {T : Tb P}
/-- A result of the function: a slot, or a variable. -/
inductive ResT (T : Tb P) (st : St) : ResultVar → TV → Prop
  | tmpc {s : Nat} {c : CV} (h : st.g s = .c c) (hk : c ≠ .any) : ResT T st (.tmp s) (.c c)
  | tmpa {s : Nat} {cs : List CV} (h : st.g s = .agg cs) : ResT T st (.tmp s) (.agg cs)
  | cellc {s t : Nat} {b : Bid} {c : CV} {te : TE} (h : st.g s = .c (.ptr b 0 0)) (hb : st.h b = some (.box [c])) (ht : lkN T.ty t = some te) (hk : te.kd.agg = false) (hk2 : c ≠ .any) : ResT T st (.cell s t) (.c c)
  | cella {s t : Nat} {b : Bid} {cs : List CV} {te : TE} (h : st.g s = .c (.ptr b 0 0)) (hb : st.h b = some (.box cs)) (ht : lkN T.ty t = some te) (hk : te.kd.agg = true) (hl : cs.length = te.size) : ResT T st (.cell s t) (.agg cs)
inductive ResTs (T : Tb P) (st : St) : List ResultVar → List TV → Prop
  | nil : ResTs T st [] []
  | cons {r : ResultVar} {t : TV} {rs : List ResultVar} {ts : List TV} (h : ResT T st r t) (hs : ResTs T st rs ts) : ResTs T st (r :: rs) (t :: ts)
def resOne (P : Program) (tmps : Array Value) : ResultVar → Sem Value
  | .tmp t => pure (tmps.getD t undef)
  | .cell a t => do loadVar t (← asAddr (tmps.getD a undef))
theorem resT_run (hr : Rel E N cx st a w) {rv : ResultVar} {t : TV} (h : ResT T st rv t) : ∃ v, (resOne P a.tmps rv).run P w = .ok v w ∧ t.known = true ∧ RT cx w st.h t v := by
  cases h with
  | @tmpc s c h hk =>
    have := hr.fr s
    rw [h] at this
    exact ⟨_, rfl, by cases c <;> simp_all [TV.known], this⟩
  | @tmpa s cs h =>
    have := hr.fr s
    rw [h] at this
    exact ⟨_, rfl, rfl, this⟩
  | @cellc s t b c te h hb ht hk hk2 =>
    have h1 := hr.fr s
    rw [h] at h1
    obtain ⟨g, o, h2, h3⟩ := h1.2 _ hb
    obtain ⟨g', o', cc, el, h4, h5, h6, h7, h8⟩ := hr.bl b _ hb
    rw [h2] at h4
    cases h4
    obtain ⟨cv, h9, h10, h11⟩ := h8 0 c rfl
    refine ⟨cv, ?_, by cases c <;> simp_all [TV.known], .inr h10, h11⟩
    · simp only [resOne, h3, asAddr, Sem.run_bind, Sem.run_pure, Result.andThen_ok]
      refine run_loadVar_cell (T.ok _ _ ht) hk ?_
      rw [World.cell?]
      simp only [Bk.e, Nat.mul_zero, Nat.add_zero, h5]
      simpa using h9
  | @cella s t b cs te h hb ht hk hl =>
    have h1 := hr.fr s
    rw [h] at h1
    obtain ⟨g, o, h2, h3⟩ := h1.2 _ hb
    obtain ⟨g', o', cc, el, h4, h5, h6, h7, h8⟩ := hr.bl b _ hb
    rw [h2] at h4
    cases h4
    refine ⟨.agg ((cc.toList.drop o).take cs.length).toArray, ?_, rfl, _, rfl, ?_, fun i c hi => ?_⟩
    · simp only [resOne, h3, asAddr, Sem.run_bind, Sem.run_pure, Result.andThen_ok]
      refine run_loadVar_agg (T.ok _ _ ht) hk ?_ (fun j u hj => ?_)
      · simp only [List.length_take, List.length_drop, Array.length_toList]; omega
      · rw [List.getElem?_take] at hj
        split at hj
        · rw [List.getElem?_drop, Array.getElem?_toList] at hj
          rw [addr_add, World.cell?]
          simp only [Bk.e, Nat.mul_zero, Nat.add_zero, h5]
          simpa using hj
        · cases hj
    · simp only [List.size_toArray, List.length_take, List.length_drop, Array.length_toList]; omega
    · obtain ⟨cv, h9, h10, h11⟩ := h8 i c hi
      have hil := (List.getElem?_eq_some_iff.1 hi).1
      refine ⟨cv, ?_, h10, h11⟩
      rw [List.getElem?_toArray, List.getElem?_take, if_pos hil, List.getElem?_drop, Array.getElem?_toList]; exact h9
theorem resTs_run (hr : Rel E N cx st a w) : ∀ {rs : List ResultVar} {ts : List TV}, ResTs T st rs ts → ∃ vs : List Value, (rs.mapM (resOne P a.tmps)).run P w = .ok vs w ∧ vs.length = ts.length ∧ ∀ (i : Nat) (t : TV), ts[i]? = some t → ∃ v, vs[i]? = some v ∧ t.known = true ∧ RT cx w st.h t v := by
  intro rs ts h
  induction h with
  | nil => exact ⟨[], rfl, rfl, fun i t h => by simp at h⟩
  | cons h hs ih =>
    obtain ⟨v, h1, h2, h3⟩ := resT_run hr h
    obtain ⟨vs, h4, h5, h6⟩ := ih
    refine ⟨v :: vs, ?_, by simp [h5], fun i t hi => ?_⟩
    · simp only [List.mapM_cons, Sem.run_bind, h1, h4, Result.andThen_ok, Sem.run_pure]
    · cases i with
      | zero => rw [List.getElem?_cons_zero] at hi; cases hi; exact ⟨v, rfl, h2, h3⟩
      | succ i => exact h6 i t (by simpa using hi)
theorem results_run {fn : Func} {tmps : Array Value} {rs : List ResultVar} {vs : List Value} (hf : fn.results = rs.toArray) (h : (rs.mapM (resOne P tmps)).run P w = .ok vs w) :
    (results fn tmps).run P w = .ok (match vs with | [v] => v | _ => .tuple vs.toArray) w := by
  have e : (fn.results.mapM (resOne P tmps)).run P w = .ok vs.toArray w := by
    rw [hf, List.mapM_toArray, map_eq_pure_bind]
    simp only [Sem.run_bind, h, Result.andThen_ok, Sem.run_pure]
  have e2 : results fn tmps = (do let vs ← fn.results.mapM (resOne P tmps); pure (if h : vs.size = 1 then vs[0] else .tuple vs)) := rfl
  rw [e2]
  simp only [Sem.run_bind, e, Result.andThen_ok, Sem.run_pure]
  congr 1
  match vs with
  | [] => simp
  | [v] => simp
  | v :: u :: r => simp
/- What a function hands back. -/
theorem toCs_len {cs : List CV} {xs : List RV} {os : List (Option Bid)} {bs : List Bid} (h : ToCs st cs xs os bs) : cs.length = xs.length ∧ os.length = xs.length := by
  induction h with
  | nil => exact ⟨rfl, rfl⟩
  | cons _ _ ih => simp [ih.1, ih.2]
theorem toCs_rel (hr : Rel E N cx st a w) {A' : Nat → Prop} (hA : ∀ x, cx.A x → A' x) {gs : Nat → Option Nat} : ∀ {cs : List CV} {xs : List RV} {os : List (Option Bid)} {bs : List Bid}, ToCs st cs xs os bs → ∀ {n : Nat} {vs : List Value},
    (∀ b ∈ bs, ∀ g q, cx.ι b = some (g, q) → A' g) → (∀ b, some b ∈ os → ∀ g q, cx.ι b = some (g, q) → ¬ A' g) → (∀ k o, os[k]? = some o → gs (n + k) = goOf cx o) →
    vs.length = cs.length → (∀ (i : Nat) (c : CV), cs[i]? = some c → ∃ u, vs[i]? = some u ∧ u.oneCell' = true ∧ RC cx w st.h c u) → CsR w A' gs n xs vs := by
  intro cs xs os bs h
  induction h with
  | nil =>
    intro n vs _ _ _ hl _
    cases vs with
    | nil => trivial
    | cons u us => simp at hl
  | @cons c x o b cs xs os bs h hs ih =>
    intro n vs hb ho hg hl hv
    cases vs with
    | nil => simp at hl
    | cons v vs =>
      obtain ⟨u, hu, h1, h2⟩ := hv 0 c rfl
      rw [List.getElem?_cons_zero] at hu
      cases hu
      refine ⟨h1, ?_, ih (fun b' hb' => hb b' (List.mem_append_right _ hb')) (fun b' hb' => ho b' (List.mem_cons_of_mem _ hb')) (fun k o' hk => by rw [show n + 1 + k = n + (k + 1) by omega]; exact hg (k + 1) o' (by simpa using hk)) (by simpa using hl) (fun i c' hi => hv (i + 1) c' (by simpa using hi))⟩
      have hg0 := hg 0 o rfl
      rw [Nat.add_zero] at hg0
      rw [hg0]
      exact toC_rel hr h h2 hA (fun b' hb' => hb b' (List.mem_append_left _ hb')) (fun b' hb' => ho b' (by rw [hb']; exact List.mem_cons_self))
theorem toS_rel (hr : Rel E N cx st a w) {A' : Nat → Prop} (hA : ∀ x, cx.A x → A' x) {gs : Nat → Option Nat} {t : TV} {x : RS} {os : List (Option Bid)} {bs : List Bid} (h : ToS st t x os bs) {n : Nat} {v : Value}
    (hb : ∀ b ∈ bs, ∀ g q, cx.ι b = some (g, q) → A' g) (ho : ∀ b, some b ∈ os → ∀ g q, cx.ι b = some (g, q) → ¬ A' g) (hg : ∀ k o, os[k]? = some o → gs (n + k) = goOf cx o) (hk : t.known = true) (hv : RT cx w st.h t v) : RSr w A' gs n x v ∧ os.length = x.cells.length := by
  have hrl := cells_of hk hv
  cases h with
  | @c c x o b h =>
    have hone : v.oneCell' = true := by
      rcases hv.1 with h1 | h1
      · subst h1; cases hk
      · exact h1
    have hc : v.cells = #[v] := by cases v <;> simp_all [Value.cells, Value.oneCell']
    refine ⟨?_, rfl⟩
    show CsR w A' gs n [x] [v]
    have h2 : ToCs st [c] [x] [o] (bs ++ []) := .cons h .nil
    refine toCs_rel hr hA h2 (by simpa using hb) ho hg rfl (fun i c' hi => ?_)
    obtain ⟨u, hu, h3, h4⟩ := hrl.2 i c' hi
    rw [hc] at hu
    exact ⟨u, by simpa using hu, h3, h4⟩
  | @agg cs xs os bs h =>
    obtain ⟨vs, rfl, h5⟩ := hv
    refine ⟨⟨vs, rfl, toCs_rel hr hA h hb ho hg (by simp [h5.1]) (fun i c' hi => ?_)⟩, (toCs_len h).2⟩
    obtain ⟨u, hu, h3, h4⟩ := h5.2 i c' hi
    exact ⟨u, by simpa using hu, h3, h4⟩
theorem toSs_rel (hr : Rel E N cx st a w) {A' : Nat → Prop} (hA : ∀ x, cx.A x → A' x) {gs : Nat → Option Nat} : ∀ {ts : List TV} {xs : List RS} {os : List (Option Bid)} {bs : List Bid}, ToSs st ts xs os bs → ∀ {n : Nat} {vs : List Value},
    (∀ b ∈ bs, ∀ g q, cx.ι b = some (g, q) → A' g) → (∀ b, some b ∈ os → ∀ g q, cx.ι b = some (g, q) → ¬ A' g) → (∀ k o, os[k]? = some o → gs (n + k) = goOf cx o) →
    vs.length = ts.length → (∀ (i : Nat) (t : TV), ts[i]? = some t → ∃ v, vs[i]? = some v ∧ t.known = true ∧ RT cx w st.h t v) → TsR w A' gs n xs vs ∧ os.length = (flatR xs).length := by
  intro ts xs os bs h
  induction h with
  | nil =>
    intro n vs _ _ _ hl _
    cases vs with
    | nil => exact ⟨trivial, rfl⟩
    | cons u us => simp at hl
  | @cons t x os os' bs bs' ts xs h hs ih =>
    intro n vs hb ho hg hl hv
    cases vs with
    | nil => simp at hl
    | cons v vs =>
      obtain ⟨u, hu, h1, h2⟩ := hv 0 t rfl
      rw [List.getElem?_cons_zero] at hu
      cases hu
      obtain ⟨h3, h4⟩ := toS_rel hr hA h (n := n) (fun b' hb' => hb b' (List.mem_append_left _ hb')) (fun b' hb' => ho b' (List.mem_append_left _ hb')) (fun k o hk => hg k o (by rw [List.getElem?_append_left (List.getElem?_eq_some_iff.1 hk).1]; exact hk)) h1 h2
      obtain ⟨h5, h6⟩ := ih (n := n + x.cells.length) (vs := vs) (fun b' hb' => hb b' (List.mem_append_right _ hb')) (fun b' hb' => ho b' (List.mem_append_right _ hb')) (fun k o hk => by
        rw [show n + x.cells.length + k = n + (os.length + k) by omega]
        exact hg (os.length + k) o (by rw [List.getElem?_append_right (by omega)]; simpa using hk)) (by simpa using hl) (fun i t' hi => hv (i + 1) t' (by simpa using hi))
      exact ⟨⟨h3, h5⟩, by simp [flatR, h4] at h6 ⊢; omega⟩
/-- The blocks that are handed on are apart. -/
def nodO (os : List (Option Bid)) : Bool := nodB (os.filterMap id)
theorem nodO_spec {os : List (Option Bid)} (h : nodO os = true) : ∀ (i j : Nat) (b : Bid), os[i]? = some (some b) → os[j]? = some (some b) → i = j := by
  induction os with
  | nil => intro i j b h; simp at h
  | cons o r ih =>
    have hr : nodO r = true := by
      unfold nodO at h ⊢
      cases o with
      | none => simpa using h
      | some b => simp only [List.filterMap_cons, id, nodB, Bool.and_eq_true] at h; exact h.2
    have hn : ∀ b, o = some b → some b ∉ r := by
      rintro b rfl hm
      unfold nodO at h
      simp only [List.filterMap_cons, id, nodB, Bool.and_eq_true, Bool.not_eq_true'] at h
      rw [memB_iff.2 (List.mem_filterMap.2 ⟨some b, hm, rfl⟩)] at h
      cases h.1
    intro i j b hi hj
    cases i with
    | zero =>
      cases j with
      | zero => rfl
      | succ j =>
        rw [List.getElem?_cons_zero] at hi
        rw [List.getElem?_cons_succ] at hj
        exact absurd (List.mem_of_getElem? hj) (hn b (Option.some.inj hi))
    | succ i =>
      cases j with
      | zero =>
        rw [List.getElem?_cons_zero] at hj
        rw [List.getElem?_cons_succ] at hi
        exact absurd (List.mem_of_getElem? hi) (hn b (Option.some.inj hj))
      | succ j => rw [ih hr i j b (by simpa using hi) (by simpa using hj)]
/-- How a function without a pointer among its arguments ends. -/
def Fin0 (T : Tb P) (fn : Func) (r : List RS) : Exit → St → Prop := fun e st => (e = .normal ∨ e = .ret) ∧ ∃ ts os bs, ResTs T st fn.results.toList ts ∧ ToSs st ts r os bs ∧ nodO os = true ∧ disB (os.filterMap id) bs = true
theorem enF_rel {cx : Cx} {gs : Nat → Option Nat} {g q : Nat} {h : Bid → Option Bk} : ∀ {avs : List AV} {vs : List Value} {j : Nat}, (avs.any AV.isRef) = false → AsR w cx.A gs g q avs vs → vs.length = avs.length ∧ ∀ s t, lkN (enF j avs) s = some t → ∃ i v, s = j + i ∧ vs[i]? = some v ∧ RT cx w h t v := by
  intro avs
  induction avs with
  | nil =>
    intro vs j _ hR
    cases vs with
    | nil => exact ⟨rfl, fun s t h => by cases h⟩
    | cons v vs => exact hR.elim
  | cons av avs ih =>
    intro vs j hn hR
    cases vs with
    | nil => exact hR.elim
    | cons v vs =>
      obtain ⟨h1, h2⟩ := hR
      simp only [List.any_cons, Bool.or_eq_false_iff] at hn
      obtain ⟨h3, h4⟩ := ih (j := j + 1) hn.2 h2
      have key : ∀ t0, enF j (av :: avs) = (j, t0) :: enF (j + 1) avs → RT cx w h t0 v → ∀ s t, lkN (enF j (av :: avs)) s = some t → ∃ i v', s = j + i ∧ (v :: vs)[i]? = some v' ∧ RT cx w h t v' := by
        intro t0 e ht s t hl
        rw [e] at hl
        simp only [lkN] at hl
        cases hb : Nat.beq j s with
        | true =>
          rw [hb] at hl
          cases hl
          exact ⟨0, v, by rw [Nat.eq_of_beq_eq_true hb]; rfl, rfl, ht⟩
        | false =>
          rw [hb] at hl
          obtain ⟨i, v', h5, h6, h7⟩ := h4 s t hl
          exact ⟨i + 1, v', by omega, by simpa using h6, h7⟩
      refine ⟨by simp [h3], ?_⟩
      cases av with
      | c x => exact key _ rfl ⟨.inr (RP.one h1), h1⟩
      | agg xs =>
        obtain ⟨us, rfl, h5⟩ := h1
        obtain ⟨h6, h7⟩ := csR_at h5
        refine key _ rfl ⟨us, rfl, by simpa using h6, fun i c hi => ?_⟩
        rw [List.getElem?_map, Option.map_eq_some_iff] at hi
        obtain ⟨x, hx, rfl⟩ := hi
        obtain ⟨u, hu, h8, h9⟩ := h7 i (.p x) (by rw [List.getElem?_map, hx]; rfl)
        exact ⟨u, by simpa using hu, h8, h9⟩
      | ref cs => cases hn.1
/-- How a contract is proved, for a function without a pointer among its arguments. -/
theorem contract0 {f : FuncId} {fn : Func} {body : Code} {avs : List AV} {r : List RS} (T : Tb P) (hf : P.funcs[f]? = some fn) (hb : fn.body = some body) (he : entB P f = true) (hN : fn.ntmps = N) (hN2 : Nat.ble N 65536 = true) (hl : avs.length ≤ N) (hn : avs.any AV.isRef = false)
    (h : ∀ E, AW E N P body (Fin0 T fn r) ⟨enF 0 avs, []⟩) : Contract P f avs r [] := by
  refine ⟨he, fun A gs g q w vs hA hinj hgs hg hR => ?_⟩
  obtain ⟨hg1, rfl⟩ := hg hn
  obtain ⟨hvl, hfr⟩ := enF_rel (cx := ⟨fun _ => none, A⟩) (h := (⟨enF 0 avs, []⟩ : St).h) (j := 0) hn hR
  let E : En := ⟨w, A, fun _ => False, none⟩
  have hsz : vs.size = avs.length := by simpa using hvl
  have hr : Rel E N ⟨fun _ => none, A⟩ ⟨enF 0 avs, []⟩ { tmps := vs ++ Array.replicate (fn.ntmps - vs.size) undef, defers := [] } w := by
    refine ⟨rfl, by simp; omega, fun s => ?_, fun b bk hb => ?_, fun b b' g o g' o' hb => ?_, fun b g o hb => ?_, fun x hx => ⟨hA x hx, .inl hx⟩, fun x hx => hx, fun _ _ _ => rfl, Nat.le_refl _, rfl, rfl, rfl, Nat.le_of_ble_eq_true hN2, rfl⟩
    · have e : (⟨enF 0 avs, []⟩ : St).g s = (lkN (enF 0 avs) s).getD (.c .any) := rfl
      rw [e]
      cases hl : lkN (enF 0 avs) s with
      | none => exact ⟨.inl rfl, trivial⟩
      | some t =>
        obtain ⟨i, v, h1, h2, h3⟩ := hfr s t hl
        rw [Nat.zero_add] at h1
        subst h1
        have hi := (List.getElem?_eq_some_iff.1 h2).1
        have : (vs ++ Array.replicate (fn.ntmps - vs.size) undef).getD s undef = v := by
          rw [Array.getD_eq_getD_getElem?, Array.getElem?_append_left (by simpa using hi)]
          rw [Array.getElem?_toList] at h2
          rw [h2]; rfl
        show RT _ w _ _ ((vs ++ Array.replicate (fn.ntmps - vs.size) undef).getD s undef)
        rw [this]
        exact h3
    · cases hb
    · exact absurd rfl hb
    · exact absurd rfl hb
  refine calls_of_wp hf hb (wp_mono (h E _ _ _ hr) ?_)
  rintro e a' w' ⟨st', cx', ⟨he, ts, os, bs, h1, h2, h3, h4⟩, hr'⟩
  obtain ⟨vs', h5, h6, h7⟩ := resTs_run hr' h1
  have hres := results_run (fn := fn) (rs := fn.results.toList) (by simp) h5
  have hnod := nodO_spec h3
  have hdis := disB_spec h4
  -- the blocks that were handed on
  let A' : Nat → Prop := fun x => cx'.A x ∨ ∃ b ∈ bs, st'.h b ≠ none ∧ ∃ q, cx'.ι b = some (x, q)
  have hbsl : ∀ {ts xs os bs}, ToSs st' ts xs os bs → (∀ b ∈ bs, st'.h b ≠ none) ∧ ∀ b, some b ∈ os → ∃ e rows, st'.h b = some (.row e rows true) := by
    have hC : ∀ {c x o bs}, ToC st' c x o bs → (∀ b ∈ bs, st'.h b ≠ none) ∧ ∀ b, o = some b → ∃ e rows, st'.h b = some (.row e rows true) := by
      intro c x o bs h
      cases h with
      | p x => exact ⟨by simp, by simp⟩
      | nil e => exact ⟨by simp, by simp⟩
      | nilo e he => exact ⟨by simp, by simp⟩
      | own hb hn => exact ⟨by simp, fun b hb' => by cases hb'; exact ⟨_, _, hb⟩⟩
      | fr hb hr => exact ⟨fun b hb' => by rw [List.mem_singleton.1 hb', hb]; simp, by simp⟩
    have hCs : ∀ {cs xs os bs}, ToCs st' cs xs os bs → (∀ b ∈ bs, st'.h b ≠ none) ∧ ∀ b, some b ∈ os → ∃ e rows, st'.h b = some (.row e rows true) := by
      intro cs xs os bs h
      induction h with
      | nil => exact ⟨by simp, by simp⟩
      | cons h hs ih =>
        obtain ⟨h1, h2⟩ := hC h
        refine ⟨fun b hb => ?_, fun b hb => ?_⟩
        · rcases List.mem_append.1 hb with h | h
          · exact h1 b h
          · exact ih.1 b h
        · rcases List.mem_cons.1 hb with h | h
          · exact h2 b h.symm
          · exact ih.2 b h
    intro ts xs os bs h
    induction h with
    | nil => exact ⟨by simp, by simp⟩
    | @cons t x os os' bs bs' ts xs h hs ih =>
      have hS : (∀ b ∈ bs, st'.h b ≠ none) ∧ ∀ b, some b ∈ os → ∃ e rows, st'.h b = some (.row e rows true) := by
        cases h with
        | c h =>
          obtain ⟨h1, h2⟩ := hC h
          exact ⟨h1, fun b hb => h2 b (List.mem_singleton.1 hb).symm⟩
        | agg h => exact hCs h
      refine ⟨fun b hb => ?_, fun b hb => ?_⟩
      · rcases List.mem_append.1 hb with h | h
        · exact hS.1 b h
        · exact ih.1 b h
      · rcases List.mem_append.1 hb with h | h
        · exact hS.2 b h
        · exact ih.2 b h
  obtain ⟨hbl, hol⟩ := hbsl h2
  have hmut : ∀ b, some b ∈ os → ∀ g q, cx'.ι b = some (g, q) → ¬ cx'.A g := by
    intro b hb g q hg
    obtain ⟨e1, rows, hbk⟩ := hol b hb
    obtain ⟨_, _, h8⟩ := hr'.bl b _ hbk
    rw [hg] at h8
    obtain ⟨_, c, el, fz, capR, _, h9, _⟩ := h8
    exact (h9 rfl).2
  have hlive : ∀ b, some b ∈ os → st'.h b ≠ none := fun b hb => by obtain ⟨_, _, h⟩ := hol b hb; rw [h]; simp
  have hnA : ∀ b, some b ∈ os → ∀ g q, cx'.ι b = some (g, q) → ¬ A' g := by
    rintro b hb g q hg (h | ⟨b2, hb2, hb2l, q2, hg2⟩)
    · exact hmut b hb g q hg h
    · refine hr'.inj b b2 g q g q2 (hlive b hb) hb2l hg hg2 ?_ rfl
      rintro rfl
      exact hdis b (List.mem_filterMap.2 ⟨some b, hb, rfl⟩) hb2
  have hval := (toSs_rel hr' (A' := A') (fun x hx => .inl hx) h2 (n := 0) (gs := fun n => goOf cx' ((os[n]?).getD none)) (vs := vs') (fun b hb g q hg => .inr ⟨b, hb, hbl b hb, q, hg⟩) (fun b hb g q hg => hnA b hb g q hg) (fun k o hk => by rw [Nat.zero_add, hk]; rfl) h6 h7).1
  have hgo : ∀ (n x : Nat), goOf cx' ((os[n]?).getD none) = some x → ∃ b q, os[n]? = some (some b) ∧ cx'.ι b = some (x, q) := by
    intro n x hx
    cases ho : os[n]? with
    | none => rw [ho] at hx; cases hx
    | some o =>
      rw [ho] at hx
      cases o with
      | none => cases hx
      | some b =>
        simp only [goOf, Option.getD_some, Option.bind_some, Option.map_eq_some_iff] at hx
        obtain ⟨⟨x', q⟩, h8, rfl⟩ := hx
        exact ⟨b, q, rfl, h8⟩
  have hfin : ∃ v, (results fn a'.tmps).run P w' = .ok v w' ∧ ValR w' A' (fun n => goOf cx' ((os[n]?).getD none)) r v := by
    refine ⟨_, hres, ?_⟩
    match r, vs', hval with
    | [], [], _ => exact ⟨#[], rfl, trivial⟩
    | [t], [v], h => exact h.1
    | t :: t2 :: r, v :: v2 :: vs, h => exact ⟨_, rfl, h⟩
    | [t], v :: v2 :: vs, h => exact h.2.elim
    | t :: t2 :: r, [v], h => exact h.2.elim
  obtain ⟨v, hv1, hv2⟩ := hfin
  have hR2 : a'.defers = [] ∧ ∃ v, (results fn a'.tmps).run P w' = .ok v w' ∧ ∃ v' A2 gs', Ending.returned v = .returned v' ∧ (∀ x, A x → A2 x) ∧ (∀ x, A2 x → A x ∨ x < w'.heap.size ∧ (w.heap.size ≤ x ∨ ∃ n, gs n = some x)) ∧ w.heap.size ≤ w'.heap.size ∧
      (∀ x, x < w.heap.size → x ≠ w.heap.size → (∀ n, gs n ≠ some x) → w'.heap[x]? = w.heap[x]?) ∧ w'.os = w.os ∧ w'.tape = w.tape ∧ w'.output = w.output ∧ inj1 gs' ∧
      (∀ n x, gs' n = some x → x < w'.heap.size ∧ ((avs.any AV.isRef) = true → x ≠ w.heap.size) ∧ (w.heap.size ≤ x ∨ ∃ m, gs m = some x)) ∧ ValR w' A2 gs' r v' ∧
      ((avs.any AV.isRef) = true → ¬ A2 w.heap.size ∧ ∃ c el, w'.heap[w.heap.size]? = some (.cells c el (0, 0)) ∧ q + ([] : List RV).length ≤ c.size ∧ CsR w' A2 gs' (flatR r).length [] ((c.toList.drop q).take ([] : List RV).length)) := by
    refine ⟨hr'.defers, v, hv1, v, A', _, rfl, fun x hx => .inl (hr'.A0 x hx), ?_, hr'.sz, fun x hx _ _ => hr'.kept x hx (fun h => h), hr'.os, hr'.tape, hr'.output, ?_, ?_, hv2, fun h => by rw [hn] at h; cases h⟩
    · rintro x (h | ⟨b, hb, hbl', q, hq⟩)
      · obtain ⟨h8, h9 | h9 | h9⟩ := hr'.A x h
        · exact .inl h9
        · exact .inr ⟨h8, .inl h9⟩
        · exact h9.elim
      · obtain ⟨h8, h9 | h9⟩ := hr'.own b x q hbl' hq
        · exact .inr ⟨h8, .inl h9⟩
        · exact h9.elim
    · intro n m x hx hy
      obtain ⟨b, q, h8, h9⟩ := hgo n x hx
      obtain ⟨b2, q2, h10, h11⟩ := hgo m x hy
      by_cases hbb : b = b2
      · subst hbb; exact hnod n m b h8 h10
      · exact absurd rfl (hr'.inj b b2 x q x q2 (hlive b (List.mem_of_getElem? h8)) (hlive b2 (List.mem_of_getElem? h10)) h9 h11 hbb)
    · intro n x hx
      obtain ⟨b, q, h8, h9⟩ := hgo n x hx
      obtain ⟨h10, h11 | h11⟩ := hr'.own b x q (hlive b (List.mem_of_getElem? h8)) h9
      · exact ⟨h10, (fun h => by rw [hn] at h; cases h), .inl h11⟩
      · exact h11.elim
  rcases he with rfl | rfl
  · exact hR2
  · exact hR2
end
end Go.Proofs.Ythlaenafkihjiaa
/- Calls over abstract worlds. Conditions: those of the rules. -/
namespace Go.Proofs.Ythlaenafkihjiaa
open Go.RowKit
set_option linter.unusedVariables false
set_option linter.unusedSimpArgs false
def adC (d n : Nat) : RV → CV
  | .p x => .p x
  | .own _ rows => .sl (d, n) 0 rows.length
def adCs (d : Nat) : Nat → List RV → List CV
  | _, [] => []
  | n, x :: r => adC d n x :: adCs d (n + 1) r
def adB (d : Nat) : Nat → List RV → List (Bid × Option Bk)
  | _, [] => []
  | n, .p _ :: r => adB d (n + 1) r
  | n, .own e rows :: r => ((d, n), some (.row e rows true)) :: adB d (n + 1) r
def adS (d n : Nat) : RS → TV
  | .c x => .c (adC d n x)
  | .agg cs => .agg (adCs d n cs)
def adTs (d : Nat) : Nat → List RS → List TV
  | _, [] => []
  | n, t :: r => adS d n t :: adTs d (n + t.cells.length) r
/-- What the caller has of a result. -/
def adT (d : Nat) : List RS → TV
  | [t] => adS d 0 t
  | ts => .tup (adTs d 0 ts)
def frz : Option Bk → Option Bk
  | some (.row e rows _) => some (.row e rows false)
  | x => x
def frzL (st : St) (bs : List Bid) : List (Bid × Option Bk) := bs.map fun b => (b, frz (st.h b))
def noL : PV → Bool
  | .v _ => true
  | .l _ _ => false
def NoLs (cs : List RV) : Prop := ∀ x ∈ cs, match x with
  | .p p => noL p = true
  | .own _ rows => ∀ r ∈ rows, ∀ p ∈ r, noL p = true
inductive ToPs (st : St) : List CV → List PV → List Bid → Prop
  | nil : ToPs st [] [] []
  | cons {c : CV} {x : PV} {b : List Bid} {cs : List CV} {xs : List PV} {bs : List Bid} (h : ToC st c (.p x) none b) (hs : ToPs st cs xs bs) : ToPs st (c :: cs) (x :: xs) (b ++ bs)
inductive ToA (st : St) : TV → AV → List Bid → Prop
  | c {c : CV} {x : PV} {b : List Bid} (h : ToC st c (.p x) none b) : ToA st (.c c) (.c x) b
  | agg {cs : List CV} {xs : List PV} {bs : List Bid} (h : ToPs st cs xs bs) : ToA st (.agg cs) (.agg xs) bs
inductive ToAs (st : St) : List TV → List AV → List Bid → Prop
  | nil : ToAs st [] [] []
  | cons {t : TV} {x : AV} {bs bs' : List Bid} {ts : List TV} {xs : List AV} (h : ToA st t x bs) (hs : ToAs st ts xs bs') : ToAs st (t :: ts) (x :: xs) (bs ++ bs')
/-- The value v, with room, is in a block. -/
def ιOf (go : Option Nat) : Value → Option (Nat × Nat)
  | .slice _ _ 0 => none
  | _ => go.map (·, 0)
theorem lk_adB (d : Nat) : ∀ (cs : List RV) (n : Nat) (b : Bid), lkB (adB d n cs) b = if b.1 = d ∧ n ≤ b.2 then (match cs[b.2 - n]? with | some (.own e rows) => some (some (.row e rows true)) | _ => none) else none := by
  intro cs
  induction cs with
  | nil => intro n b; simp [adB, lkB]
  | cons x cs ih =>
    intro n b
    have key : lkB (adB d (n + 1) cs) b = if b.1 = d ∧ n + 1 ≤ b.2 then (match cs[b.2 - (n + 1)]? with | some (.own e rows) => some (some (.row e rows true)) | _ => none) else none := ih (n + 1) b
    by_cases hb : b.1 = d ∧ n ≤ b.2
    · by_cases he : b.2 = n
      · have hb0 : b.2 - n = 0 := by omega
        have h2 : ¬ (b.1 = d ∧ n + 1 ≤ b.2) := by omega
        rw [if_neg h2] at key
        rw [if_pos hb, hb0]
        cases x with
        | p p => simpa [adB] using key
        | own e rows =>
          have : beqB (d, n) b = true := beqB_iff.2 (by obtain ⟨b1, b2⟩ := b; simp at hb he ⊢; exact ⟨hb.1.symm, he.symm⟩)
          simp only [adB, lkB, this]; rfl
      · have h2 : b.1 = d ∧ n + 1 ≤ b.2 := by omega
        rw [if_pos h2] at key
        rw [if_pos hb, show b.2 - n = (b.2 - (n + 1)) + 1 by omega, List.getElem?_cons_succ]
        cases x with
        | p p => simpa [adB] using key
        | own e rows =>
          have : beqB (d, n) b = false := by
            cases hx : beqB (d, n) b with
            | false => rfl
            | true => have := beqB_iff.1 hx; subst this; exact absurd rfl he
          simp only [adB, lkB, this]; exact key
    · have h2 : ¬ (b.1 = d ∧ n + 1 ≤ b.2) := by omega
      rw [if_neg h2] at key
      rw [if_neg hb]
      cases x with
      | p p => simpa [adB] using key
      | own e rows =>
        have : beqB (d, n) b = false := by
          cases hx : beqB (d, n) b with
          | false => rfl
          | true => have := beqB_iff.1 hx; subst this; exact absurd ⟨rfl, Nat.le_refl _⟩ hb
        simp only [adB, lkB, this]; exact key
theorem lk_frz (st : St) (bs : List Bid) (b : Bid) : lkB (frzL st bs) b = if b ∈ bs then some (frz (st.h b)) else none := by
  induction bs with
  | nil => simp [frzL, lkB]
  | cons c bs ih =>
    unfold frzL at ih ⊢
    simp only [List.map_cons, lkB]
    by_cases h : c = b
    · subst h
      rw [beqB_iff.2 rfl, if_pos (by simp)]
    · have : beqB c b = false := by
        cases hx : beqB c b with
        | false => rfl
        | true => exact absurd (beqB_iff.1 hx) h
      rw [this]
      simp only
      rw [ih]
      by_cases hb : b ∈ bs
      · rw [if_pos hb, if_pos (List.mem_cons_of_mem _ hb)]
      · rw [if_neg hb, if_neg (by rw [List.mem_cons, not_or]; exact ⟨fun e => h e.symm, hb⟩)]
section
variable {E : En} {N : Nat} {cx : Cx} {st : St} {a : Act} {w w' : World} {P : Program} {T : Tb P} {ops : Array Oper} {d : Nat} {ty : Nat} {pos : String} {af : Array Edge} {gd : Option (Nat × Bool)} {h : Bid → Option Bk}
theorem ownR_rc {A : Nat → Prop} {go : Option Nat} {e : Nat} {rows : List (List PV)} {u : Value} {b : Bid} (ho : OwnR w A go e rows u) (hb : h b = some (.row e rows true)) (hι : cx.ι b = ιOf go u) : RC cx w h (.sl b 0 rows.length) u := by
  intro bk hbk
  rw [hb] at hbk
  cases hbk
  obtain ⟨h1, h2, a', cap, rfl, h3, h4, h5⟩ := ho
  refine ⟨a', cap, rfl, h3, h4, by simp [Bk.len], ?_⟩
  rcases h5 with h5 | ⟨g, c, el, rfl, rfl, h6, h7, h8, h9⟩
  · exact .inl h5
  · by_cases hc : cap = 0
    · exact .inl hc
    · refine .inr ⟨g, c, el, (0, 0), ?_, by simp [Bk.e], h7, fun _ => by simp [Bk.e, h8]⟩
      rw [hι]
      cases cap with
      | zero => exact absurd rfl hc
      | succ n => rfl
theorem ownR_rb {go : Option Nat} {e : Nat} {rows : List (List PV)} {u : Value} {b : Bid} (ho : OwnR w cx.A go e rows u) (hι : cx.ι b = ιOf go u) : RB cx w h b (.row e rows true) := by
  obtain ⟨h1, h2, a', cap, rfl, h3, h4, h5⟩ := ho
  refine ⟨h1, h2, ?_⟩
  rw [hι]
  by_cases hc : cap = 0
  · subst hc
    show rows = []
    exact List.eq_nil_of_length_eq_zero (by omega)
  · rcases h5 with h5 | ⟨g, c, el, rfl, rfl, h6, h7, h8, h9⟩
    · exact absurd h5 hc
    · have : ιOf (some g) (.slice (some ⟨g, 0, none⟩) rows.length cap) = some (g, 0) := by
        cases cap with
        | zero => exact absurd rfl hc
        | succ n => rfl
      rw [this]
      exact ⟨rfl, c, el, (0, 0), cap, h7, fun _ => ⟨rfl, h6⟩, (fun h => by cases h), h8, h3, h4, h9⟩
/- The values of a result, one after another. -/
def cellsV : RS → Value → List Value
  | .c _, v => [v]
  | .agg _, v => v.cells.toList
def flatV : List RS → List Value → List Value
  | t :: ts, v :: vs => cellsV t v ++ flatV ts vs
  | _, _ => []
theorem csR_app {A : Nat → Prop} {gs : Nat → Option Nat} : ∀ {n : Nat} {cs ds : List RV} {us vs : List Value}, CsR w A gs n cs us → CsR w A gs (n + cs.length) ds vs → CsR w A gs n (cs ++ ds) (us ++ vs) := by
  intro n cs
  induction cs generalizing n with
  | nil =>
    intro ds us vs h1 h2
    cases us with
    | nil => simpa using h2
    | cons u us => exact h1.elim
  | cons c cs ih =>
    intro ds us vs h1 h2
    cases us with
    | nil => exact h1.elim
    | cons u us =>
      obtain ⟨h3, h4, h5⟩ := h1
      exact ⟨h3, h4, ih h5 (by rw [show n + 1 + cs.length = n + (c :: cs).length by simp; omega]; exact h2)⟩
theorem rs_flat {A : Nat → Prop} {gs : Nat → Option Nat} {n : Nat} {t : RS} {v : Value} (h : RSr w A gs n t v) : CsR w A gs n t.cells (cellsV t v) := by
  cases t with
  | c x => exact h
  | agg cs => obtain ⟨vs, rfl, h⟩ := h; exact h
theorem ts_flat {A : Nat → Prop} {gs : Nat → Option Nat} : ∀ {n : Nat} {ts : List RS} {vs : List Value}, TsR w A gs n ts vs → CsR w A gs n (flatR ts) (flatV ts vs) := by
  intro n ts
  induction ts generalizing n with
  | nil =>
    intro vs h
    cases vs with
    | nil => trivial
    | cons v vs => exact h.elim
  | cons t ts ih =>
    intro vs h
    cases vs with
    | nil => exact h.elim
    | cons v vs => exact csR_app (rs_flat h.1) (ih h.2)
theorem adCs_at : ∀ (cs : List RV) (n k : Nat), (adCs d n cs)[k]? = (cs[k]?).map (adC d (n + k)) := by
  intro cs
  induction cs with
  | nil => intro n k; simp [adCs]
  | cons c cs ih =>
    intro n k
    cases k with
    | zero => simp [adCs]
    | succ k => simp only [adCs, List.getElem?_cons_succ, ih]; rw [show n + 1 + k = n + (k + 1) by omega]
theorem adCs_len (cs : List RV) (n : Nat) : (adCs d n cs).length = cs.length := by
  induction cs generalizing n with
  | nil => rfl
  | cons c cs ih => simp [adCs, ih]
theorem rs_rt {A : Nat → Prop} {gs : Nat → Option Nat} {n : Nat} {t : RS} {v : Value} (hr : RSr w A gs n t v) (hc : ∀ k x u, t.cells[k]? = some x → (cellsV t v)[k]? = some u → RC cx w h (adC d (n + k) x) u) : RT1 cx w h (adS d n t) v := by
  cases t with
  | c x =>
    have h1 : v.oneCell' = true := hr.1
    exact ⟨.inr h1, hc 0 x v rfl rfl⟩
  | agg cs =>
    obtain ⟨vs, rfl, h1⟩ := hr
    obtain ⟨h2, h3⟩ := csR_at h1
    refine ⟨vs, rfl, by rw [adCs_len]; simpa using h2, fun i c hi => ?_⟩
    rw [adCs_at, Option.map_eq_some_iff] at hi
    obtain ⟨x, hx, rfl⟩ := hi
    obtain ⟨u, hu, h4, h5⟩ := h3 i x hx
    exact ⟨u, by simpa using hu, h4, hc i x u hx hu⟩
theorem ts_rt {A : Nat → Prop} {gs : Nat → Option Nat} : ∀ {n : Nat} {ts : List RS} {vs : List Value}, TsR w A gs n ts vs → (∀ k x u, (flatR ts)[k]? = some x → (flatV ts vs)[k]? = some u → RC cx w h (adC d (n + k) x) u) →
    vs.length = (adTs d n ts).length ∧ ∀ (i : Nat) (t : TV), (adTs d n ts)[i]? = some t → ∃ v, vs[i]? = some v ∧ RT1 cx w h t v := by
  intro n ts
  induction ts generalizing n with
  | nil =>
    intro vs hr _
    cases vs with
    | nil => exact ⟨rfl, fun i t hi => by simp [adTs] at hi⟩
    | cons v vs => exact hr.elim
  | cons t ts ih =>
    intro vs hr hc
    cases vs with
    | nil => exact hr.elim
    | cons v vs =>
      have hfl : flatR (t :: ts) = t.cells ++ flatR ts := by simp [flatR]
      have hlen : (cellsV t v).length = t.cells.length := (csR_at (rs_flat hr.1)).1
      have h1 := rs_rt (d := d) (cx := cx) (h := h) hr.1 (fun k x u hk hu => hc k x u (by rw [hfl, List.getElem?_append_left (List.getElem?_eq_some_iff.1 hk).1]; exact hk) (by
        show (cellsV t v ++ flatV ts vs)[k]? = _
        rw [List.getElem?_append_left (List.getElem?_eq_some_iff.1 hu).1]; exact hu))
      obtain ⟨h2, h3⟩ := ih hr.2 (fun k x u hk hu => by
        rw [show n + t.cells.length + k = n + (t.cells.length + k) by omega]
        refine hc (t.cells.length + k) x u ?_ ?_
        · rw [hfl, List.getElem?_append_right (by omega)]; simpa using hk
        · show (cellsV t v ++ flatV ts vs)[t.cells.length + k]? = _
          rw [List.getElem?_append_right (by omega)]
          rw [hlen]; simpa using hu)
      refine ⟨by simp [adTs, h2], fun i t' hi => ?_⟩
      simp only [adTs] at hi
      cases i with
      | zero => rw [List.getElem?_cons_zero] at hi; cases hi; exact ⟨v, rfl, h1⟩
      | succ i => exact h3 i t' (by simpa using hi)
theorem adS_ne (n : Nat) (t : RS) : ∀ us, adS d n t ≠ .tup us := by cases t <;> simp [adS]
theorem rt_of_rt1 {t : TV} {v : Value} (h1 : RT1 cx w h t v) : RT cx w h t v := by cases t <;> first | exact h1 | exact h1.elim
/-- The flat values of a result, and how the caller has it. -/
theorem val_flat {A : Nat → Prop} {gs : Nat → Option Nat} {r : List RS} {v : Value} (hv : ValR w A gs r v) : ∃ us, CsR w A gs 0 (flatR r) us ∧
    ∀ (cx : Cx) (h : Bid → Option Bk), (∀ k x u, (flatR r)[k]? = some x → us[k]? = some u → RC cx w h (adC d k x) u) → RT cx w h (adT d r) v := by
  have gen : ∀ ts : List RS, (∃ vs, v = .tuple vs ∧ TsR w A gs 0 ts vs.toList) → ∃ us, CsR w A gs 0 (flatR ts) us ∧ ∀ (cx : Cx) (h : Bid → Option Bk), (∀ k x u, (flatR ts)[k]? = some x → us[k]? = some u → RC cx w h (adC d k x) u) → RT cx w h (.tup (adTs d 0 ts)) v := by
    rintro ts ⟨vs, rfl, h1⟩
    refine ⟨_, ts_flat h1, fun cx h hc => ?_⟩
    obtain ⟨h2, h3⟩ := ts_rt (d := d) (cx := cx) (h := h) h1 (fun k x u hk hu => by rw [Nat.zero_add]; exact hc k x u hk hu)
    exact ⟨vs, rfl, by simpa using h2, fun i t hi => let ⟨u, hu, hr⟩ := h3 i t hi; ⟨u, by simpa using hu, hr⟩⟩
  match r, hv with
  | [t], hv =>
    refine ⟨cellsV t v, by simpa [flatR] using rs_flat hv, fun cx h hc => ?_⟩
    exact rt_of_rt1 (rs_rt hv (fun k x u hk hu => by rw [Nat.zero_add]; exact hc k x u (by simpa [flatR] using hk) hu))
  | [], hv => exact gen [] hv
  | t :: t2 :: ts, hv => exact gen (t :: t2 :: ts) hv
end
end Go.Proofs.Ythlaenafkihjiaa
/- Calls over abstract worlds: the rules. Conditions: those of the rules. -/
namespace Go.Proofs.Ythlaenafkihjiaa
open Go.RowKit
set_option linter.unusedVariables false
set_option linter.unusedSimpArgs false
section
variable {E : En} {N : Nat} {cx : Cx} {st : St} {a : Act} {w w' : World} {P : Program} {T : Tb P} {ops : Array Oper} {o : Oper} {d : Nat} {ty : Nat} {pos : String} {af : Array Edge} {gd : Option (Nat × Bool)}
theorem ιOf_in {go : Option Nat} {u : Value} {g q : Nat} (h : ιOf go u = some (g, q)) : go = some g ∧ q = 0 := by
  unfold ιOf at h
  split at h
  · cases h
  · rw [Option.map_eq_some_iff] at h
    obtain ⟨x, h1, h2⟩ := h
    cases h2
    exact ⟨h1, rfl⟩
theorem call_core (hr : Rel E N cx st a w) (hd : ∀ d, o.dst = some d → d < N) (hdN : d < N) {r : List RS} {us : List Value} {v : Value} {A2 : Nat → Prop} {gs2 : Nat → Option Nat} {fz : List Bid}
    (hfresh : ∀ (n e : Nat) (rows : List (List PV)), (flatR r)[n]? = some (.own e rows) → FreshB (d, n) st) (hA2 : ∀ x, cx.A x → A2 x)
    (hA2' : ∀ x, A2 x → cx.A x ∨ (w.heap.size ≤ x ∧ x < w'.heap.size) ∨ ∃ b ∈ fz, st.h b ≠ none ∧ ∃ q, cx.ι b = some (x, q))
    (hfz : ∀ b ∈ fz, (∃ e rows mu, st.h b = some (.row e rows mu)) ∧ ∀ g q, cx.ι b = some (g, q) → A2 g)
    (hsz : w.heap.size ≤ w'.heap.size) (hkept : ∀ x, x < w.heap.size → w'.heap[x]? = w.heap[x]?) (hos : w'.os = w.os) (htp : w'.tape = w.tape) (hou : w'.output = w.output)
    (hinj : inj1 gs2) (hgs : ∀ n x, gs2 n = some x → w.heap.size ≤ x ∧ x < w'.heap.size) (hval : CsR w' A2 gs2 0 (flatR r) us)
    (hrt : ∀ (cx : Cx) (h : Bid → Option Bk), (∀ k x u, (flatR r)[k]? = some x → us[k]? = some u → RC cx w' h (adC d k x) u) → RT cx w' h (adT d r) v) :
    ∃ cx', Rel E N cx' (Ef.ap ⟨adT d r, adB d 0 (flatR r) ++ frzL st fz⟩ o st) (a.put o.dst v) w' := by
  obtain ⟨hul, hua⟩ := csR_at hval
  have hkeep : Keeps cx.A w w' := ⟨hsz, fun g hA hg => hkept g hg⟩
  -- the blocks behind
  have hh : ∀ b, (Ef.ap ⟨adT d r, adB d 0 (flatR r) ++ frzL st fz⟩ o st).h b = match (if b.1 = d then (flatR r)[b.2]? else none) with
      | some (.own e rows) => some (.row e rows true)
      | _ => if b ∈ fz then frz (st.h b) else st.h b := by
    intro b
    unfold St.h Ef.ap
    rw [List.append_assoc, lkB_append, lkB_append, lk_adB, lk_frz]
    by_cases hb : b.1 = d
    · rw [if_pos ⟨hb, Nat.zero_le _⟩, if_pos hb, Nat.sub_zero]
      cases hx : (flatR r)[b.2]? with
      | none => simp only [Option.none_or]; split <;> rfl
      | some x =>
        cases x with
        | p p => simp only [Option.none_or]; split <;> rfl
        | own e rows => rfl
    · rw [if_neg (fun h => hb h.1), if_neg hb]
      simp only [Option.none_or]
      split <;> rfl
  -- which are new
  let nw : Bid → Bool := fun b => match (if b.1 = d then (flatR r)[b.2]? else none) with
    | some (.own _ _) => true
    | _ => false
  have hnw : ∀ b, nw b = true → ∃ n e rows, b = (d, n) ∧ (flatR r)[n]? = some (.own e rows) := by
    intro b hb
    simp only [nw] at hb
    by_cases h1 : b.1 = d
    · rw [if_pos h1] at hb
      cases hx : (flatR r)[b.2]? with
      | none => rw [hx] at hb; cases hb
      | some x =>
        rw [hx] at hb
        cases x with
        | p p => cases hb
        | own e rows => exact ⟨b.2, e, rows, by rw [← h1], hx⟩
    · rw [if_neg h1] at hb; cases hb
  have hnw2 : ∀ n e rows, (flatR r)[n]? = some (.own e rows) → nw (d, n) = true := by
    intro n e rows h
    simp only [nw, if_true, h]
  have hh1 : ∀ b, nw b = false → (Ef.ap ⟨adT d r, adB d 0 (flatR r) ++ frzL st fz⟩ o st).h b = if b ∈ fz then frz (st.h b) else st.h b := by
    intro b hb
    rw [hh]
    simp only [nw] at hb
    revert hb
    generalize (if b.1 = d then (flatR r)[b.2]? else none) = y
    intro hb
    match y, hb with
    | none, _ => rfl
    | some (.p _), _ => rfl
    | some (.own _ _), hb => cases hb
  have hh2 : ∀ n e rows, (flatR r)[n]? = some (.own e rows) → (Ef.ap ⟨adT d r, adB d 0 (flatR r) ++ frzL st fz⟩ o st).h (d, n) = some (.row e rows true) := by
    intro n e rows h
    rw [hh]
    simp only [if_true, h]
  -- what was live
  have hold : ∀ b, nw b = false → (Ef.ap ⟨adT d r, adB d 0 (flatR r) ++ frzL st fz⟩ o st).h b ≠ none → st.h b ≠ none := by
    intro b hb h
    rw [hh1 b hb] at h
    split at h
    · intro e; rw [e] at h; exact h rfl
    · exact h
  let cx2 : Cx := ⟨fun b => if nw b = true then ιOf (gs2 b.2) ((us[b.2]?).getD undef) else cx.ι b, A2⟩
  have hι1 : ∀ b, nw b = true → cx2.ι b = ιOf (gs2 b.2) ((us[b.2]?).getD undef) := fun b h => by show (if nw b = true then _ else _) = _; rw [if_pos h]
  have hι2 : ∀ b, nw b = false → cx2.ι b = cx.ι b := fun b h => by show (if nw b = true then _ else _) = _; rw [if_neg (by rw [h]; simp)]
  refine ⟨cx2, hr.step (ef := ⟨adT d r, adB d 0 (flatR r) ++ frzL st fz⟩) hd ((adB d 0 (flatR r)).map (·.1)) (fun b hb => ?_) hA2 (fun x hx => ?_) hkeep (fun g hg _ => hkept g (Nat.lt_of_lt_of_le hg hr.sz)) hos htp hou (fun b hb => ?_) (fun b bk hb => ?_) (fun b b' g q g' q' hb hb' hi hi' hne => ?_) (fun b g q hb hi => ?_) ?_ ?_⟩
  · obtain ⟨y, hy⟩ := lkB_in hb
    rw [lk_adB] at hy
    split at hy
    · rename_i h1
      rw [Nat.sub_zero] at hy
      cases hx : (flatR r)[b.2]? with
      | none => rw [hx] at hy; cases hy
      | some x =>
        rw [hx] at hy
        cases x with
        | p p => cases hy
        | own e rows =>
          have := hfresh b.2 e rows hx
          obtain ⟨b1, b2⟩ := b
          simp only at h1
          rw [← h1.1] at this
          exact this
    · cases hy
  · rcases hA2' x hx with h | h | ⟨b, hb, hbl, q, hq⟩
    · exact .inl h
    · exact .inr ⟨h.2, .inl (Nat.le_trans hr.sz h.1)⟩
    · obtain ⟨h1, h2⟩ := hr.own b x q hbl hq
      exact .inr ⟨Nat.lt_of_lt_of_le h1 hsz, h2⟩
  · have hb' : nw b = false := by
      cases h : nw b with
      | false => rfl
      | true =>
        obtain ⟨n, e, rows, rfl, h1⟩ := hnw b h
        exfalso
        refine hb ?_
        have := lk_adB d (flatR r) 0 (d, n)
        rw [if_pos ⟨rfl, Nat.zero_le _⟩, Nat.sub_zero, h1] at this
        exact List.mem_map.2 ⟨_, lkB_mem this, rfl⟩
    intro bk' hbk
    rw [hh1 b hb'] at hbk
    have hex : ∃ bk, st.h b = some bk ∧ bk.e = bk'.e ∧ bk.len ≤ bk'.len := by
      split at hbk
      · rename_i hf
        obtain ⟨⟨e, rows, mu, h1⟩, _⟩ := hfz b hf
        rw [h1] at hbk ⊢
        cases hbk
        exact ⟨_, rfl, rfl, Nat.le_refl _⟩
      · exact ⟨bk', hbk, rfl, Nat.le_refl _⟩
    obtain ⟨bk, h1, h2, h3⟩ := hex
    refine ⟨bk, h1, h2, h3, hι2 b hb', fun g q c el fz' h4 h5 => ⟨c, el, fz', ?_, fun _ => rfl⟩⟩
    rw [hkept g (Array.getElem?_eq_some_iff.1 h5).1]; exact h5
  · cases hb' : nw b with
    | true =>
      obtain ⟨n, e, rows, rfl, h1⟩ := hnw b hb'
      rw [hh2 n e rows h1] at hb
      cases hb
      obtain ⟨u, hu, h2, h3⟩ := hua n _ h1
      refine .inr (ownR_rb (cx := cx2) (go := gs2 n) (u := u) ?_ ?_)
      · rw [Nat.zero_add] at h3; exact h3
      · rw [hι1 _ hb']; simp [hu]
    | false =>
      have hb0 := hb
      rw [hh1 b hb'] at hb
      split at hb
      · rename_i hf
        obtain ⟨⟨e, rows, mu, h1⟩, h2⟩ := hfz b hf
        rw [h1] at hb
        cases hb
        right
        obtain ⟨h3, h4, h5⟩ := hr.bl b _ h1
        refine ⟨h3, h4, ?_⟩
        rw [hι2 b hb']
        revert h5
        cases hi : cx.ι b with
        | none => exact id
        | some y =>
          obtain ⟨g, q⟩ := y
          rintro ⟨rfl, c, el, fz', capR, h6, h7, h8, h9, h10, h11, h12⟩
          have hgl := (Array.getElem?_eq_some_iff.1 h6).1
          exact ⟨rfl, c, el, fz', capR, by rw [hkept g hgl]; exact h6, (fun h => by cases h), fun _ => h2 g 0 hi, h9, h10, h11, fun i r k p hi hk => let ⟨cv, hcv, hp⟩ := h12 i r k p hi hk; ⟨cv, hcv, hp.keeps hA2 hkeep⟩⟩
      · rename_i hf
        refine .inl ⟨?_, hb, hι2 b hb', fun g q hi => ?_⟩
        · intro hm
          obtain ⟨y, hy⟩ := lkB_in hm
          rw [lk_adB] at hy
          split at hy
          · rename_i h1
            rw [Nat.sub_zero] at hy
            simp only [nw] at hb'
            rw [if_pos h1.1] at hb'
            revert hb' hy
            generalize (flatR r)[b.2]? = z
            intro hb' hy
            match z, hb', hy with
            | none, _, hy => cases hy
            | some (.p _), _, hy => cases hy
            | some (.own _ _), hb', _ => cases hb'
          · cases hy
        · have hlive : st.h b ≠ none := by rw [hb]; simp
          obtain ⟨h1, h2⟩ := hr.own b g q hlive hi
          refine ⟨hkept g h1, fun hnA hA => ?_⟩
          rcases hA2' g hA with h | h | ⟨b2, hb2, hb2l, q2, hq2⟩
          · exact hnA h
          · omega
          · refine hr.inj b b2 g q g q2 hlive hb2l hi hq2 ?_ rfl
            rintro rfl
            exact hf hb2
  · have hnew : ∀ b g q, nw b = true → cx2.ι b = some (g, q) → w.heap.size ≤ g ∧ gs2 b.2 = some g := by
      intro b g q h1 h2
      rw [hι1 b h1] at h2
      obtain ⟨h3, h4⟩ := ιOf_in h2
      exact ⟨(hgs _ _ h3).1, h3⟩
    have hol : ∀ b g q, nw b = false → (Ef.ap ⟨adT d r, adB d 0 (flatR r) ++ frzL st fz⟩ o st).h b ≠ none → cx2.ι b = some (g, q) → g < w.heap.size := by
      intro b g q h1 h2 h3
      rw [hι2 b h1] at h3
      exact (hr.own b g q (hold b h1 h2) h3).1
    cases h1 : nw b <;> cases h2 : nw b'
    · rw [hι2 b h1] at hi
      rw [hι2 b' h2] at hi'
      exact hr.inj b b' g q g' q' (hold b h1 hb) (hold b' h2 hb') hi hi' hne
    · have := hol b g q h1 hb hi
      have := (hnew b' g' q' h2 hi').1
      omega
    · have := hol b' g' q' h2 hb' hi'
      have := (hnew b g q h1 hi).1
      omega
    · obtain ⟨n, e, rows, rfl, _⟩ := hnw b h1
      obtain ⟨n', e', rows', rfl, _⟩ := hnw b' h2
      rintro rfl
      have e1 := (hnew _ _ _ h1 hi).2
      have e2 := (hnew _ _ _ h2 hi').2
      have := hinj n n' g e1 e2
      exact hne (by rw [this])
  · cases h1 : nw b with
    | true =>
      rw [hι1 b h1] at hi
      obtain ⟨h3, h4⟩ := ιOf_in hi
      obtain ⟨h5, h6⟩ := hgs _ _ h3
      exact ⟨h6, .inl (Nat.le_trans hr.sz h5)⟩
    | false =>
      rw [hι2 b h1] at hi
      obtain ⟨h3, h4⟩ := hr.own b g q (hold b h1 hb) hi
      exact ⟨Nat.lt_of_lt_of_le h3 hsz, h4⟩
  · refine hrt cx2 _ (fun k x u hk hu => ?_)
    obtain ⟨u', hu', h1, h2⟩ := hua k x hk
    rw [hu] at hu'
    cases hu'
    rw [Nat.zero_add] at h2
    cases x with
    | p p => exact h2
    | own e rows =>
      have hn := hnw2 k e rows hk
      exact ownR_rc (cx := cx2) h2 (hh2 k e rows hk) (by rw [hι1 _ hn]; simp [hu])
  · refine hι2 pinB ?_
    cases h : nw pinB with
    | false => rfl
    | true =>
      obtain ⟨n, e, rows, h1, _⟩ := hnw pinB h
      have := hr.hN
      simp only [pinB, Prod.mk.injEq] at h1
      omega
theorem run_call {f : FuncId} {xs : Array Operand} {tys : Array TypeId} {dst : Option Nat} (he : entB P f = true) : (execOp a.eval ⟨dst, .call { callee := .value (.func f), args := xs, argTypes := tys }, ty, pos, af, gd⟩).run P w = .ok (.enter f (xs.map a.eval)) w := by
  unfold entB at he
  cases hf : P.funcs[f]? with
  | none => rw [hf] at he; cases he
  | some fn =>
    rw [hf] at he
    simp only [Bool.and_eq_true, bne_iff_ne, ne_eq] at he
    have h1 := he.1
    have h2 := he.2
    cases hb : fn.body with
    | none => rw [hb] at h2; cases h2
    | some c => simp [execOp, resolve, Act.eval, Deferred.ofValue, invoke, callFunc, Sem.run_bind, Sem.run_pure, Result.andThen_ok, program, Sem.run, hf, h1, hb]
theorem toC_agree {st' : St} {c : CV} {x : RV} {bs : List Bid} (h : ToC st c x none bs) (hb : ∀ b ∈ bs, st'.h b = st.h b) : ToC st' c x none bs := by
  cases h with
  | p x => exact .p x
  | nil e => exact .nil e
  | nilo e he => exact .nilo e he
  | fr h1 h2 => exact .fr (by rw [hb _ (by simp)]; exact h1) h2
theorem toPs_agree {st' : St} {cs : List CV} {xs : List PV} {bs : List Bid} (h : ToPs st cs xs bs) (hb : ∀ b ∈ bs, st'.h b = st.h b) : ToPs st' cs xs bs := by
  induction h with
  | nil => exact .nil
  | cons h hs ih => exact .cons (toC_agree h fun b hm => hb b (List.mem_append_left _ hm)) (ih fun b hm => hb b (List.mem_append_right _ hm))
theorem toAs_agree {st' : St} {ts : List TV} {xs : List AV} {bs : List Bid} (h : ToAs st ts xs bs) (hb : ∀ b ∈ bs, st'.h b = st.h b) : ToAs st' ts xs bs := by
  induction h with
  | nil => exact .nil
  | cons h hs ih =>
    refine .cons ?_ (ih fun b hm => hb b (List.mem_append_right _ hm))
    cases h with
    | c h => exact .c (toC_agree h fun b hm => hb b (List.mem_append_left _ hm))
    | agg h => exact .agg (toPs_agree h fun b hm => hb b (List.mem_append_left _ hm))
theorem toPs_toCs {cs : List CV} {xs : List PV} {bs : List Bid} (h : ToPs st cs xs bs) : ToCs st cs (xs.map .p) (xs.map fun _ => none) bs := by
  induction h with
  | nil => exact .nil
  | cons h hs ih => exact .cons h ih
theorem toC_live {c : CV} {x : RV} {o : Option Bid} {bs : List Bid} (h : ToC st c x o bs) : ∀ b ∈ bs, ∃ e rows mu, st.h b = some (.row e rows mu) := by
  cases h with
  | p x => simp
  | nil e => simp
  | nilo e he => simp
  | own h1 h2 => simp
  | fr h1 h2 => intro b hb; rw [List.mem_singleton.1 hb]; exact ⟨_, _, _, h1⟩
theorem toPs_live {cs : List CV} {xs : List PV} {bs : List Bid} (h : ToPs st cs xs bs) : ∀ b ∈ bs, ∃ e rows mu, st.h b = some (.row e rows mu) := by
  induction h with
  | nil => simp
  | cons h hs ih =>
    intro b hb
    rcases List.mem_append.1 hb with hb | hb
    · exact toC_live h b hb
    · exact ih b hb
theorem toAs_live {ts : List TV} {xs : List AV} {bs : List Bid} (h : ToAs st ts xs bs) : ∀ b ∈ bs, ∃ e rows mu, st.h b = some (.row e rows mu) := by
  induction h with
  | nil => simp
  | cons h hs ih =>
    intro b hb
    rcases List.mem_append.1 hb with hb | hb
    · cases h with
      | c h => exact toC_live h b hb
      | agg h => exact toPs_live h b hb
    · exact ih b hb
theorem toAs_rel (hr : Rel E N cx st a w) {A' : Nat → Prop} (hA : ∀ x, cx.A x → A' x) {gs : Nat → Option Nat} {g q : Nat} : ∀ {ts : List TV} {xs : List AV} {bs : List Bid}, ToAs st ts xs bs → ∀ {vs : List Value}, (∀ b ∈ bs, ∀ g q, cx.ι b = some (g, q) → A' g) →
    vs.length = ts.length → (∀ (i : Nat) (t : TV), ts[i]? = some t → ∃ v, vs[i]? = some v ∧ RT cx w st.h t v) → AsR w A' gs g q xs vs := by
  intro ts xs bs h
  induction h with
  | nil =>
    intro vs _ hl _
    cases vs with
    | nil => trivial
    | cons v vs => simp at hl
  | cons h hs ih =>
    intro vs hb hl hv
    cases vs with
    | nil => simp at hl
    | cons v vs =>
      refine ⟨?_, ih (fun b hm => hb b (List.mem_append_right _ hm)) (by simpa using hl) (fun i t hi => hv (i + 1) t (by simpa using hi))⟩
      obtain ⟨v', hv', h1⟩ := hv 0 _ rfl
      rw [List.getElem?_cons_zero] at hv'
      cases hv'
      cases h with
      | c h => exact toC_rel hr h h1.2 hA (fun b hm => hb b (List.mem_append_left _ hm)) (fun b hm => by cases hm)
      | agg h =>
        obtain ⟨us, rfl, h2⟩ := h1
        refine ⟨us, rfl, toCs_rel hr hA (toPs_toCs h) (fun b hm => hb b (List.mem_append_left _ hm)) (fun b hm => ?_) (fun k o hk => ?_) (by simpa using h2.1) (fun i c hi => ?_)⟩
        · rw [List.mem_map] at hm; obtain ⟨x, _, hx⟩ := hm; cases hx
        · rw [List.getElem?_map, Option.map_eq_some_iff] at hk
          obtain ⟨x, _, rfl⟩ := hk
          rfl
        · obtain ⟨u, hu, h3, h4⟩ := h2.2 i c hi
          exact ⟨u, by simpa using hu, h3, h4⟩
theorem rp_noL {A A2 : Nat → Prop} {p : PV} {v : Value} (h : RP w A p v) (hn : noL p = true) : RP w A2 p v := by
  cases h with
  | v _ hx => exact .v _ hx
  | l => cases hn
/-- A call, whose arguments nobody may write any more. -/
theorem opL_call {f : FuncId} {xs : Array Operand} {tys : Array TypeId} {avs : List AV} {r : List RS} {bs : List Bid} {ids : List Bid} {bl : List (Bid × Option Bk)} {t : TV} (hcon : Contract P f avs r []) (hn : avs.any AV.isRef = false) (hok : xs.toList.all okC = true) (hargs : ToAs st (xs.toList.map st.ev) avs bs)
    (hids : (adB d 0 (flatR r)).map (·.1) = ids) (hbl : adB d 0 (flatR r) ++ frzL st bs = bl) (ht : adT d r = t) :
    OpL E N P ops ⟨some d, .call { callee := .value (.func f), args := xs, argTypes := tys }, ty, pos, af, gd⟩ st ⟨bs, ids⟩ ⟨t, bl⟩ := by
  subst hids
  subst hbl
  subst ht
  intro st' ha hf hd cx a w Q hr
  have hbe : ∀ b ∈ bs, st'.h b = st.h b := ha.2
  have hargs' := toAs_agree hargs hbe
  have hlive := toAs_live hargs'
  let A2 : Nat → Prop := fun x => cx.A x ∨ ∃ b ∈ bs, st'.h b ≠ none ∧ ∃ q, cx.ι b = some (x, q)
  have hbn : ∀ b ∈ bs, st'.h b ≠ none := fun b hb => by obtain ⟨_, _, _, h⟩ := hlive b hb; rw [h]; simp
  have hAs : AsR w A2 (fun _ => none) w.heap.size 0 avs (xs.map a.eval).toList := by
    refine toAs_rel hr (fun x hx => .inl hx) hargs' (fun b hb g q hg => .inr ⟨b, hb, hbn b hb, q, hg⟩) (by simp) (fun i t hi => ?_)
    rw [List.getElem?_map, Option.map_eq_some_iff] at hi
    obtain ⟨x, hx, rfl⟩ := hi
    have hm := List.mem_of_getElem? hx
    refine ⟨a.eval x, by rw [Array.toList_map, List.getElem?_map, hx]; rfl, ?_⟩
    rw [← ev_agree ha (x := x) (by simp only [Op.operands, Call.operands]; simp at hm ⊢; exact .inr hm)]
    exact hr.ev (List.all_eq_true.1 hok x hm)
  have hAsz : ∀ x, A2 x → x < w.heap.size := by
    rintro x (h | ⟨b, hb, hbl, q, hq⟩)
    · exact (hr.A x h).1
    · exact (hr.own b x q hbl hq).1
  have hfl : frzL st bs = frzL st' bs := List.map_congr_left fun b hb => by rw [hbe b hb]
  unfold Oper.wp
  rw [run_call hcon.ent, Oper.upon_enter]
  refine (hcon.run A2 (fun _ => none) w.heap.size 0 w (xs.map a.eval) hAsz (fun n m x h => by cases h) (fun n x h => by cases h) (fun _ => ⟨fun _ => rfl, rfl⟩) hAs).mono ?_
  rintro e w' ⟨v, A', gs', rfl, h1, h2, h3, h4, h5, h6, h7, h8, h9, h10, _⟩
  obtain ⟨us, hus, hrt⟩ := val_flat (d := d) h10
  show ∃ cx', _
  rw [hfl]
  refine call_core hr hd (hd d rfl) (fz := bs) (gs2 := gs') (us := us) (A2 := A') (fun n e rows hx => hf (d, n) ?_) (fun x hx => h1 x (.inl hx)) (fun x hx => ?_) (fun b hb => ⟨hlive b hb, fun g q hg => h1 g (.inr ⟨b, hb, hbn b hb, q, hg⟩)⟩) h3
    (fun x hx => h4 x hx (by omega) (fun n h => by cases h)) h5 h6 h7 h8 (fun n x hx => ?_) hus hrt
  · have := lk_adB d (flatR r) 0 (d, n)
    rw [if_pos ⟨rfl, Nat.zero_le _⟩, Nat.sub_zero, hx] at this
    exact List.mem_map.2 ⟨_, lkB_mem this, rfl⟩
  · rcases h2 x hx with (h | ⟨b, hb, hbl, q, hq⟩) | ⟨h, h' | ⟨n, h'⟩⟩
    · exact .inl h
    · exact .inr (.inr ⟨b, hb, hbl, q, hq⟩)
    · exact .inr (.inl ⟨h', h⟩)
    · cases h'
  · obtain ⟨h11, _, h12 | ⟨m, h12⟩⟩ := h9 n x hx
    · exact ⟨h12, h11⟩
    · cases h12
/-- A call that hands back no list of others: its arguments may be written again. -/
theorem opL_callk {f : FuncId} {xs : Array Operand} {tys : Array TypeId} {avs : List AV} {r : List RS} {bs : List Bid} {ids : List Bid} {bl : List (Bid × Option Bk)} {t : TV} (hcon : Contract P f avs r []) (hnl : NoLs (flatR r)) (hn : avs.any AV.isRef = false) (hok : xs.toList.all okC = true) (hargs : ToAs st (xs.toList.map st.ev) avs bs)
    (hids : (adB d 0 (flatR r)).map (·.1) = ids) (hbl : adB d 0 (flatR r) = bl) (ht : adT d r = t) :
    OpL E N P ops ⟨some d, .call { callee := .value (.func f), args := xs, argTypes := tys }, ty, pos, af, gd⟩ st ⟨bs, ids⟩ ⟨t, bl⟩ := by
  subst hids
  subst hbl
  subst ht
  intro st' ha hf hd cx a w Q hr
  have hbe : ∀ b ∈ bs, st'.h b = st.h b := ha.2
  have hargs' := toAs_agree hargs hbe
  have hlive := toAs_live hargs'
  let A2 : Nat → Prop := fun x => cx.A x ∨ ∃ b ∈ bs, st'.h b ≠ none ∧ ∃ q, cx.ι b = some (x, q)
  have hbn : ∀ b ∈ bs, st'.h b ≠ none := fun b hb => by obtain ⟨_, _, _, h⟩ := hlive b hb; rw [h]; simp
  have hAs : AsR w A2 (fun _ => none) w.heap.size 0 avs (xs.map a.eval).toList := by
    refine toAs_rel hr (fun x hx => .inl hx) hargs' (fun b hb g q hg => .inr ⟨b, hb, hbn b hb, q, hg⟩) (by simp) (fun i t hi => ?_)
    rw [List.getElem?_map, Option.map_eq_some_iff] at hi
    obtain ⟨x, hx, rfl⟩ := hi
    have hm := List.mem_of_getElem? hx
    refine ⟨a.eval x, by rw [Array.toList_map, List.getElem?_map, hx]; rfl, ?_⟩
    rw [← ev_agree ha (x := x) (by simp only [Op.operands, Call.operands]; simp at hm ⊢; exact .inr hm)]
    exact hr.ev (List.all_eq_true.1 hok x hm)
  have hAsz : ∀ x, A2 x → x < w.heap.size := by
    rintro x (h | ⟨b, hb, hbl, q, hq⟩)
    · exact (hr.A x h).1
    · exact (hr.own b x q hbl hq).1
  unfold Oper.wp
  rw [run_call hcon.ent, Oper.upon_enter]
  refine (hcon.run A2 (fun _ => none) w.heap.size 0 w (xs.map a.eval) hAsz (fun n m x h => by cases h) (fun n x h => by cases h) (fun _ => ⟨fun _ => rfl, rfl⟩) hAs).mono ?_
  rintro e w' ⟨v, A', gs', rfl, h1, h2, h3, h4, h5, h6, h7, h8, h9, h10, _⟩
  obtain ⟨us, hus, hrt⟩ := val_flat (d := d) h10
  have hgs : ∀ n x, gs' n = some x → w.heap.size ≤ x ∧ x < w'.heap.size := fun n x hx => by
    obtain ⟨h11, _, h12 | ⟨m, h12⟩⟩ := h9 n x hx
    · exact ⟨h12, h11⟩
    · cases h12
  obtain ⟨hul, hua⟩ := csR_at hus
  have hus' : CsR w' cx.A gs' 0 (flatR r) us := by
    refine csR_of hul (fun k x hk => ?_)
    obtain ⟨u, hu, h11, h12⟩ := hua k x hk
    refine ⟨u, hu, h11, ?_⟩
    have hx := hnl x (List.mem_of_getElem? hk)
    cases x with
    | p p => exact rp_noL h12 hx
    | own e rows =>
      obtain ⟨q1, q2, a', cap, q3, q4, q5, q6⟩ := h12
      refine ⟨q1, q2, a', cap, q3, q4, q5, ?_⟩
      rcases q6 with q6 | ⟨g, c, el, q7, q8, q9, q10, q11, q12⟩
      · exact .inl q6
      · refine .inr ⟨g, c, el, q7, q8, fun hA => ?_, q10, q11, fun i r k p hi hk => ?_⟩
        · have := (hr.A g hA).1
          have := (hgs _ _ q7).1
          omega
        · obtain ⟨cv, hcv, hp⟩ := q12 i r k p hi hk
          exact ⟨cv, hcv, rp_noL hp (hx r (List.mem_of_getElem? hi) p (List.mem_of_getElem? hk))⟩
  show ∃ cx', _
  have hfz : adB d 0 (flatR r) = adB d 0 (flatR r) ++ frzL st' [] := by simp [frzL]
  rw [hfz]
  refine call_core hr hd (hd d rfl) (fz := []) (gs2 := gs') (us := us) (A2 := cx.A) (fun n e rows hx => hf (d, n) ?_) (fun x hx => hx) (fun x hx => .inl hx) (fun b hb => by cases hb) h3
    (fun x hx => h4 x hx (by omega) (fun n h => by cases h)) h5 h6 h7 h8 hgs hus' hrt
  have := lk_adB d (flatR r) 0 (d, n)
  rw [if_pos ⟨rfl, Nat.zero_le _⟩, Nat.sub_zero, hx] at this
  exact List.mem_map.2 ⟨_, lkB_mem this, rfl⟩
theorem run_opl {op : Op} {f : Fp} {t : TV} {fr : List (Nat × TV)} {H : List (Bid × Option Bk)} {bl : List (Bid × Option Bk)} {r : List Oper} {acc : List (Fp × Ef)} {K : List (Fp × Ef) → St → Prop} (hw : wn ops ⟨some d, op, ty, pos, af, gd⟩ ⟨fr, H⟩ = some true) (hop : OpL E N P ops ⟨some d, op, ty, pos, af, gd⟩ ⟨fr, H⟩ f ⟨t, bl⟩)
    (h : Run E N P ops r ((f, ⟨t, bl⟩) :: acc) ⟨(d, t) :: fr, bl ++ H⟩ K) : Run E N P ops (⟨some d, op, ty, pos, af, gd⟩ :: r) acc ⟨fr, H⟩ K := ⟨f, ⟨t, bl⟩, .inl ⟨hw, hop⟩, h⟩
end
end Go.Proofs.Ythlaenafkihjiaa
/- Small forms of the rules, for the scripts. Conditions: those of the rules. -/
namespace Go.Proofs.Ythlaenafkihjiaa
open Go.RowKit
set_option linter.unusedVariables false
set_option linter.unusedSimpArgs false
section
variable {E : En} {N : Nat} {P : Program} {T : Tb P} {ops : Array Oper} {o : Oper} {st : St} {d : Nat} {ty : Nat} {pos : String} {af : Array Edge} {gd : Option (Nat × Bool)} {Q : Exit → St → Prop}
theorem opL_move_c {x : Operand} {y : CV} (hx : st.ev x = .c y) (hc : okC x = true) : OpL E N P ops ⟨some d, .move x, ty, pos, af, gd⟩ st ⟨[], []⟩ ⟨.c y, []⟩ := opL_move hc hx
theorem opL_move_a {x : Operand} {y : List CV} (hx : st.ev x = .agg y) (hc : okC x = true) : OpL E N P ops ⟨some d, .move x, ty, pos, af, gd⟩ st ⟨[], []⟩ ⟨.agg y, []⟩ := opL_move hc hx
theorem opL_assign_c {x : Operand} {y : CV} (hx : st.ev x = .c y) (hc : okC x = true) : OpL E N P ops ⟨some d, .assign x, ty, pos, af, gd⟩ st ⟨[], []⟩ ⟨.c y, []⟩ := opL_assign hc hx
theorem opL_assign_a {x : Operand} {y : List CV} (hx : st.ev x = .agg y) (hc : okC x = true) : OpL E N P ops ⟨some d, .assign x, ty, pos, af, gd⟩ st ⟨[], []⟩ ⟨.agg y, []⟩ := opL_assign hc hx
theorem opL_extract_c {x : Operand} {ts : List TV} {i : Nat} {y : CV} (h1 : st.ev x = .tup ts) (hi : ts[i]? = some (.c y)) (hx : okC x = true) : OpL E N P ops ⟨some d, .extract x i, ty, pos, af, gd⟩ st ⟨[], []⟩ ⟨.c y, []⟩ := opL_extract h1 hi (by simp) hx
theorem opL_extract_a {x : Operand} {ts : List TV} {i : Nat} {y : List CV} (h1 : st.ev x = .tup ts) (hi : ts[i]? = some (.agg y)) (hx : okC x = true) : OpL E N P ops ⟨some d, .extract x i, ty, pos, af, gd⟩ st ⟨[], []⟩ ⟨.agg y, []⟩ := opL_extract h1 hi (by simp) hx
theorem opL_pick_t {c x y : Operand} {z : CV} (hv : st.ev c = .c (.p (.v (.bool true)))) (hz : st.ev x = .c z) (hb : okC c = true) (h1 : okC x = true) (h2 : okC y = true) : OpL E N P ops ⟨some d, .pick c x y, ty, pos, af, gd⟩ st ⟨[], []⟩ ⟨.c z, []⟩ := opL_pick hb h1 h2 hv (by simpa using hz)
theorem opL_pick_f {c x y : Operand} {z : CV} (hv : st.ev c = .c (.p (.v (.bool false)))) (hz : st.ev y = .c z) (hb : okC c = true) (h1 : okC x = true) (h2 : okC y = true) : OpL E N P ops ⟨some d, .pick c x y, ty, pos, af, gd⟩ st ⟨[], []⟩ ⟨.c z, []⟩ := opL_pick hb h1 h2 hv (by simpa using hz)
theorem opL_box_c {x : Operand} {el : TypeId} {y : CV} (hx : st.ev x = .c y) (hk : TV.known (.c y) = true) (hc : okC x = true) : OpL E N P ops ⟨some d, .box el x, ty, pos, af, gd⟩ st ⟨[], [(d, 0)]⟩ ⟨.c (.ptr (d, 0) 0 0), [((d, 0), some (.box [y]))]⟩ := opL_box hx hk hc
theorem opL_box_a {x : Operand} {el : TypeId} {cs : List CV} (hx : st.ev x = .agg cs) (hc : okC x = true) : OpL E N P ops ⟨some d, .box el x, ty, pos, af, gd⟩ st ⟨[], [(d, 0)]⟩ ⟨.c (.ptr (d, 0) 0 0), [((d, 0), some (.box cs))]⟩ := opL_box hx rfl hc
theorem opL_store_box_c {x y : Operand} {t : TypeId} {te : TE} {b : Bid} {k : Nat} {all all' : List CV} {v : CV} {dst : Option Nat} (hx : st.ev x = .c (.ptr b 0 k)) (hb : st.h b = some (.box all)) (hv : st.ev y = .c v) (hk : TV.known (.c v) = true) (ht : lkN T.ty t = some te) (hsz : 1 = te.size) (hin : k + 1 ≤ all.length)
    (hall : setAt all k [v] = all') (hcx : okC x = true) (hcy : okC y = true) : OpL E N P ops ⟨dst, .store t x y, ty, pos, af, gd⟩ st ⟨[b], []⟩ ⟨.c .any, [(b, some (.box all'))]⟩ := opL_store_box hx hb hv hk ht hsz hin hall hcx hcy
theorem opL_store_box_a {x y : Operand} {t : TypeId} {te : TE} {b : Bid} {k : Nat} {all all' cs : List CV} {dst : Option Nat} (hx : st.ev x = .c (.ptr b 0 k)) (hb : st.h b = some (.box all)) (hv : st.ev y = .agg cs) (ht : lkN T.ty t = some te) (hsz : cs.length = te.size) (hin : k + cs.length ≤ all.length)
    (hall : setAt all k cs = all') (hcx : okC x = true) (hcy : okC y = true) : OpL E N P ops ⟨dst, .store t x y, ty, pos, af, gd⟩ st ⟨[b], []⟩ ⟨.c .any, [(b, some (.box all'))]⟩ := opL_store_box hx hb hv rfl ht hsz hin hall hcx hcy
theorem nb {n : Nat} (h : Nat.beq n 0 = false) : n ≠ 0 := by rintro rfl; cases h
theorem opL_fieldp {x : Operand} {b : Bid} {i k k' f off ft s : Nat} {ts tf : TE} {fs : List (Nat × Nat)} (h1 : st.ev x = .c (.ptr b i k)) (hb : (st.h b).isSome = true) (hs : lkN T.ty s = some ts) (hk : ts.kd = .struct fs) (hf : fs[f]? = some (off, ft)) (hft : lkN T.ty ft = some tf) (hz : Nat.beq tf.size 0 = false) (hkk : Nat.add k off = k') (hc : okC x = true) :
    OpL E N P ops ⟨some d, .fieldAddr s x f, ty, pos, af, gd⟩ st ⟨[b], []⟩ ⟨.c (.ptr b i k'), []⟩ := opL_field_ptr h1 hb hs hk hf hft (nb hz) hkk hc
theorem opL_fielde {x : Operand} {r : List PV} {k k' f off ft s : Nat} {ts tf : TE} {fs : List (Nat × Nat)} (h1 : st.ev x = .c (.ep r k)) (hs : lkN T.ty s = some ts) (hk : ts.kd = .struct fs) (hf : fs[f]? = some (off, ft)) (hft : lkN T.ty ft = some tf) (hz : Nat.beq tf.size 0 = false) (hkk : Nat.add k off = k') (hc : okC x = true) :
    OpL E N P ops ⟨some d, .fieldAddr s x f, ty, pos, af, gd⟩ st ⟨[], []⟩ ⟨.c (.ep r k'), []⟩ := opL_field_ep h1 hs hk hf hft (nb hz) hkk hc
theorem wrapI {x : Int} (h1 : -9223372036854775808 ≤ x) (h2 : x ≤ 9223372036854775807) : IntKind.i64.wrap x = x := by rw [IntKind.wrap_i64]; omega
variable {r : List Oper} {acc : List (Fp × Ef)} {K : List (Fp × Ef) → St → Prop} {fr : List (Nat × TV)} {H : List (Bid × Option Bk)} {op : Op}
/-- What a guard asks is decided. -/
theorem run_gsplit {b : Bool} {dst : Option Nat} {g : Nat × Bool} (h : ∀ c, b = c → Run E N P ops (⟨dst, op, ty, pos, af, some g⟩ :: r) acc ⟨(d, .c (.p (.v (.bool c)))) :: fr, H⟩ K) : Run E N P ops (⟨dst, op, ty, pos, af, some g⟩ :: r) acc ⟨(d, .c (.p (.v (.bool b)))) :: fr, H⟩ K := h b rfl
end
end Go.Proofs.Ythlaenafkihjiaa
/- More rules over abstract worlds: loops with new names, nothing as a list of one's own, how functions end, old contracts. Conditions: those of the rules. -/
namespace Go.Proofs.Ythlaenafkihjiaa
open Go.RowKit
set_option linter.unusedVariables false
set_option linter.unusedSimpArgs false
section
variable {E : En} {N : Nat} {P : Program} {T : Tb P} {st : St} {Q : Exit → St → Prop} {cx : Cx} {a : Act} {w : World} {fn : Func}
/-- The state, under its new names, is st'. -/
def Nm (st st' : St) : Prop := ∃ ks σ, okS σ = true ∧ st.norm ks σ = st'
theorem Nm.mk (ks : List Nat) (σ : List (Bid × Bid)) {st' : St} (h1 : okS σ = true) (h : st.norm ks σ = st') : Nm st st' := ⟨ks, σ, h1, h⟩
theorem aw_nm {c : Code} {st' : St} (hn : Nm st st') (h : AW E N P c Q st') : AW E N P c Q st := by
  obtain ⟨ks, σ, h1, rfl⟩ := hn
  exact aw_norm ks σ h1 h
theorem aw_loopN {c : Code} (I : Nat → St → Prop) (h : ∀ k st, I k st → AW E N P c (thenQ Q fun st' => ∃ k' st2, k' < k ∧ Nm st' st2 ∧ I k' st2) st) {k : Nat} (h0 : I k st) : AW E N P (.loop c) Q st := by
  refine aw_loop (fun k st => ∃ st2, (st2 = st ∨ Nm st st2) ∧ I k st2) ?_ (k := k) ⟨st, .inl rfl, h0⟩
  rintro k st ⟨st2, hn, h1⟩
  have h2 : AW E N P c (thenQ Q fun st' => ∃ k' st2, k' < k ∧ Nm st' st2 ∧ I k' st2) st := by
    rcases hn with rfl | hn
    · exact h k _ h1
    · exact aw_nm hn (h k st2 h1)
  refine aw_mono h2 ?_
  intro e st' h3
  cases e with
  | normal => obtain ⟨k', st3, h4, h5, h6⟩ := h3; exact ⟨k', h4, st3, .inr h5, h6⟩
  | _ => exact h3
/-- A loop whose heads are S 0, S 1, .., S n, under new names. -/
theorem aw_forN {c : Code} (S : Nat → St) (n : Nat) (h : ∀ j, j ≤ n → AW E N P c (thenQ Q fun st' => j < n ∧ Nm st' (S (j + 1))) (S j)) : AW E N P (.loop c) Q (S 0) := by
  refine aw_loopN (fun k st => ∃ j, j ≤ n ∧ k = n - j ∧ st = S j) ?_ (k := n) ⟨0, by omega, by omega, rfl⟩
  rintro k st ⟨j, h1, h2, rfl⟩
  refine aw_mono (h j h1) ?_
  intro e st' h3
  cases e with
  | normal => obtain ⟨h4, h5⟩ := h3; exact ⟨n - (j + 1), _, by omega, h5, j + 1, by omega, rfl, rfl⟩
  | _ => exact h3
/-- Nothing, as a list of one's own. -/
theorem Rel.nilown (hr : Rel E N cx st a w) {s e : Nat} {b : Bid} (hs : st.g s = .c (.p (.v (.slice none 0 0)))) (he : 0 < e) (hb0 : Nat.blt b.1 65536 = true) (hf : FreshB b st) : Rel E N (cx.upd b none) ⟨(s, .c (.sl b 0 0)) :: st.fr, (b, some (.row e [] true)) :: st.H⟩ a w := by
  have hh : ∀ b', (⟨(s, .c (.sl b 0 0)) :: st.fr, (b, some (.row e [] true)) :: st.H⟩ : St).h b' = if b' = b then some (.row e [] true) else st.h b' := by
    intro b'
    show (lkB ((b, some (Bk.row e [] true)) :: st.H) b').getD none = _
    simp only [lkB]
    by_cases h : b' = b
    · subst h; rw [beqB_iff.2 rfl, if_pos rfl]; rfl
    · have : beqB b b' = false := by
        cases hb : beqB b b' with
        | false => rfl
        | true => exact absurd (beqB_iff.1 hb).symm h
      rw [this, if_neg h]; rfl
  have hg : ∀ s', (⟨(s, .c (.sl b 0 0)) :: st.fr, (b, some (.row e [] true)) :: st.H⟩ : St).g s' = if s' = s then .c (.sl b 0 0) else st.g s' := by
    intro s'
    show (lkN ((s, TV.c (CV.sl b 0 0)) :: st.fr) s').getD (.c .any) = _
    simp only [lkN]
    by_cases h : s' = s
    · subst h; simp
    · have : Nat.beq s s' = false := by
        cases hb : Nat.beq s s' with
        | false => rfl
        | true => exact absurd (Nat.eq_of_beq_eq_true hb).symm h
      rw [this, if_neg h]; rfl
  have hcmp : ∀ b', b' ≠ b → Cmp cx w st.h (cx.upd b none) w (⟨(s, .c (.sl b 0 0)) :: st.fr, (b, some (.row e [] true)) :: st.H⟩ : St).h b' := by
    intro b' hne bk' hb
    rw [hh, if_neg hne] at hb
    exact ⟨bk', hb, rfl, Nat.le_refl _, by simp [Cx.upd, hne], fun g o c el fz _ h => ⟨c, el, fz, h, fun _ => rfl⟩⟩
  have hk : Keeps cx.A w w := Keeps.refl _ _
  refine ⟨hr.defers, hr.size, fun s' => ?_, fun b' bk hb => ?_, fun b1 b2 g o g' o' h1 h2 h3 h4 hne => ?_, fun b1 g o h1 h2 => ?_, hr.A, hr.A0, hr.kept, hr.sz, hr.os, hr.tape, hr.output, hr.hN, (upd_pin (Nat.le_of_ble_eq_true hb0)).trans hr.pin⟩
  · rw [hg]
    by_cases h : s' = s
    · rw [if_pos h]
      subst h
      have := hr.fr s'
      rw [hs] at this
      have h2 := this.2
      have hv : a.tmps.getD s' undef = .slice none 0 0 := by
        revert h2
        generalize a.tmps.getD s' undef = z
        intro h2
        cases h2 with | v _ _ => rfl
      rw [hv]
      exact rel_nil_rt (e := e) (mu := true) (by rw [hh, if_pos rfl])
    · rw [if_neg h]
      refine RT.tr (cx := cx) (fun _ h => h) hk (fun b' hb' => hcmp b' ?_) (hr.fr s')
      rintro rfl
      exact hf.2.1 s' hb'
  · rw [hh] at hb
    by_cases h : b' = b
    · rw [if_pos h] at hb
      cases hb
      subst h
      exact ⟨he, by simp, by simp [Cx.upd]⟩
    · rw [if_neg h] at hb
      refine RB.tr (cx := cx) (fun _ h => h) hk (fun b2 hb2 => hcmp b2 ?_) (by simp [Cx.upd, h]) (fun g o _ => ⟨rfl, fun h => h⟩) (hr.bl b' bk hb)
      rintro rfl
      exact hf.2.2 b' bk hb hb2
  · rw [hh] at h1 h2
    simp only [Cx.upd] at h3 h4
    by_cases e1 : b1 = b
    · rw [if_pos e1] at h3; cases h3
    · by_cases e2 : b2 = b
      · rw [if_pos e2] at h4; cases h4
      · rw [if_neg e1] at h1 h3; rw [if_neg e2] at h2 h4
        exact hr.inj b1 b2 g o g' o' h1 h2 h3 h4 hne
  · rw [hh] at h1
    simp only [Cx.upd] at h2
    by_cases e1 : b1 = b
    · rw [if_pos e1] at h2; cases h2
    · rw [if_neg e1] at h1 h2
      exact hr.own b1 g o h1 h2
theorem aw_nilown {c : Code} {fr : List (Nat × TV)} {H : List (Bid × Option Bk)} (s e : Nat) (b : Bid) (hs : (⟨fr, H⟩ : St).g s = .c (.p (.v (.slice none 0 0)))) (he : 0 < e) (hb0 : Nat.blt b.1 65536 = true) (hf : freshB b ⟨fr, H⟩ = true) (h : AW E N P c Q ⟨(s, .c (.sl b 0 0)) :: fr, (b, some (.row e [] true)) :: H⟩) : AW E N P c Q ⟨fr, H⟩ :=
  fun cx a w hr => h _ a w (hr.nilown hs he hb0 (freshB_spec hf))
/-- Where ways meet again. -/
theorem aw_seqN {x y : Code} {F : Prop} (S0 : St) (h2 : F → AW E N P y Q S0) (h1 : AW E N P x (thenQ Q fun st => F ∧ Nm st S0) st) : AW E N P (.seq x y) Q st := by
  refine aw_seq (aw_mono h1 ?_)
  intro e st' h
  cases e with
  | normal => exact aw_nm h.2 (h2 h.1)
  | _ => exact h
theorem aw_seqX {α : Type} {x y : Code} (S0 : α → St) (F : α → Prop) (h2 : ∀ a, F a → AW E N P y Q (S0 a)) (h1 : AW E N P x (thenQ Q fun st => ∃ a, F a ∧ Nm st (S0 a)) st) : AW E N P (.seq x y) Q st := by
  refine aw_seq (aw_mono h1 ?_)
  intro e st' h
  cases e with
  | normal => obtain ⟨a, h3, h4⟩ := h; exact aw_nm h4 (h2 a h3)
  | _ => exact h
/-- What comes behind, under a name. -/
theorem aw_seqk {x y : Code} (h : ∀ K : St → Prop, (∀ st, AW E N P y Q st → K st) → AW E N P x (thenQ Q K) st) : AW E N P (.seq x y) Q st := aw_seq (h _ fun _ h => h)
/-- A region that ends a piece of code. -/
theorem aw_textk {x : List Oper} {id : Nat} {y : Code} (hN : chkN N x = true) (h : ∀ K : St → Prop, (∀ st, AW E N P y Q st → K st) → Run E N P x.toArray x [] st fun acc st' => chkT acc.reverse = true ∧ freshA st acc = true ∧ K st') : AW E N P (.seq (.region id x.toArray false) y) Q st :=
  aw_seqk fun K hK => aw_text hN (h K hK)
theorem aw_drawk {x : List Oper} {id : Nat} {y : Code} (hm : P.follows .mixedOrders = true) (hS : schS N x = true) (h : ∀ K : St → Prop, (∀ st, AW E N P y Q st → K st) → Run E N P x.toArray x [] st fun acc st' => chkD x acc.reverse = true ∧ freshA st acc = true ∧ K st') : AW E N P (.seq (.region id x.toArray true) y) Q st :=
  aw_seqk fun K hK => aw_draw hm hS (h K hK)
/-- The end of a region. -/
theorem run_end {ops : Array Oper} {acc : List (Fp × Ef)} {b1 b2 : Bool} {K : St → Prop} (h1 : b1 = true) (h2 : b2 = true) (h : K st) : b1 = true ∧ b2 = true ∧ K st := ⟨h1, h2, h⟩
/- Calls, by the form of their results. -/
theorem ToPs.ps : ∀ {xs : List PV}, ToPs st (xs.map .p) xs []
  | [] => .nil
  | x :: xs => .cons (b := []) (bs := []) (.p x) ToPs.ps
section
variable {ops : Array Oper} {d : Nat} {ty : Nat} {pos : String} {af : Array Edge} {gd : Option (Nat × Bool)} {f : FuncId} {xs : Array Operand} {tys : Array TypeId} {dst : Option Nat} {avs : List AV} {bs : List Bid}
theorem gm {α β : Type} {l : List α} {g : α → β} {j : Nat} {x : α} (h : l[j]? = some x) : (l.map g)[j]? = some (g x) := by rw [List.getElem?_map, h]; rfl
theorem noLs_v {l : List RV} (h : l.all (fun x => match x with | .p (.v _) => true | _ => false) = true) : NoLs l := by
  intro y hy
  have := List.all_eq_true.1 h y hy
  match y, this with
  | .p (.v _), _ => rfl
/-- One value. -/
theorem callk_v {y : Value} (hcon : Contract P f avs [.c (.p (.v y))] []) (hn : avs.any AV.isRef = false) (hok : xs.toList.all okC = true) (hargs : ToAs st (xs.toList.map st.ev) avs bs) :
    OpL E N P ops ⟨some d, .call { callee := .value (.func f), args := xs, argTypes := tys }, ty, pos, af, gd⟩ st ⟨bs, []⟩ ⟨.c (.p (.v y)), []⟩ := opL_callk (d := d) hcon (noLs_v rfl) hn hok hargs rfl rfl rfl
theorem callk_vv {y z : Value} (hcon : Contract P f avs [.c (.p (.v y)), .c (.p (.v z))] []) (hn : avs.any AV.isRef = false) (hok : xs.toList.all okC = true) (hargs : ToAs st (xs.toList.map st.ev) avs bs) :
    OpL E N P ops ⟨some d, .call { callee := .value (.func f), args := xs, argTypes := tys }, ty, pos, af, gd⟩ st ⟨bs, []⟩ ⟨.tup [.c (.p (.v y)), .c (.p (.v z))], []⟩ := opL_callk (d := d) hcon (noLs_v rfl) hn hok hargs rfl rfl rfl
/-- A struct of values, and a value. -/
theorem callk_av {ys : List Value} {z : Value} (hcon : Contract P f avs [.agg (ys.map fun y => .p (.v y)), .c (.p (.v z))] []) (hn : avs.any AV.isRef = false) (hok : xs.toList.all okC = true) (hargs : ToAs st (xs.toList.map st.ev) avs bs) (hy : adCs d 0 (ys.map fun y => .p (.v y)) = ys.map fun y => .p (.v y)) (hb : adB d 0 (flatR [.agg (ys.map fun y => .p (.v y)), .c (.p (.v z))]) = []) :
    OpL E N P ops ⟨some d, .call { callee := .value (.func f), args := xs, argTypes := tys }, ty, pos, af, gd⟩ st ⟨bs, []⟩ ⟨.tup [.agg (ys.map fun y => .p (.v y)), .c (.p (.v z))], []⟩ :=
  opL_callk (d := d) hcon (by
    intro y hy
    simp only [flatR, List.flatMap_cons, RS.cells, List.flatMap_nil, List.append_nil, List.mem_append, List.mem_map, List.mem_singleton] at hy
    rcases hy with ⟨v, _, rfl⟩ | rfl <;> rfl) hn hok hargs (by rw [hb]; rfl) hb (by simp only [adT, adTs, adS, hy]; rfl)
/-- One tree; the arguments hold no block. -/
theorem call_p {y : PV} (hcon : Contract P f avs [.c (.p y)] []) (hn : avs.any AV.isRef = false) (hok : xs.toList.all okC = true) (hargs : ToAs st (xs.toList.map st.ev) avs []) :
    OpL E N P ops ⟨some d, .call { callee := .value (.func f), args := xs, argTypes := tys }, ty, pos, af, gd⟩ st ⟨[], []⟩ ⟨.c (.p y), []⟩ := opL_call (d := d) hcon hn hok hargs rfl rfl rfl
/-- A list that nobody else has. -/
theorem call_o {e : Nat} {rows : List (List PV)} (hcon : Contract P f avs [.c (.own e rows)] []) (hn : avs.any AV.isRef = false) (hok : xs.toList.all okC = true) (hargs : ToAs st (xs.toList.map st.ev) avs []) :
    OpL E N P ops ⟨some d, .call { callee := .value (.func f), args := xs, argTypes := tys }, ty, pos, af, gd⟩ st ⟨[], [(d, 0)]⟩ ⟨.c (.sl (d, 0) 0 rows.length), [((d, 0), some (.row e rows true))]⟩ := opL_call (d := d) hcon hn hok hargs rfl rfl rfl
theorem callk_o {e : Nat} {rows : List (List PV)} (hcon : Contract P f avs [.c (.own e rows)] []) (hrows : ∀ r ∈ rows, ∀ p ∈ r, noL p = true) (hn : avs.any AV.isRef = false) (hok : xs.toList.all okC = true) (hargs : ToAs st (xs.toList.map st.ev) avs bs) :
    OpL E N P ops ⟨some d, .call { callee := .value (.func f), args := xs, argTypes := tys }, ty, pos, af, gd⟩ st ⟨bs, [(d, 0)]⟩ ⟨.c (.sl (d, 0) 0 rows.length), [((d, 0), some (.row e rows true))]⟩ :=
  opL_callk (d := d) hcon (by intro y hy; rw [List.mem_singleton.1 hy]; exact hrows) hn hok hargs rfl rfl rfl
/-- A list that nobody else has, and a value. -/
theorem call_ov {e : Nat} {rows : List (List PV)} {y : Value} (hcon : Contract P f avs [.c (.own e rows), .c (.p (.v y))] []) (hn : avs.any AV.isRef = false) (hok : xs.toList.all okC = true) (hargs : ToAs st (xs.toList.map st.ev) avs []) :
    OpL E N P ops ⟨some d, .call { callee := .value (.func f), args := xs, argTypes := tys }, ty, pos, af, gd⟩ st ⟨[], [(d, 0)]⟩ ⟨.tup [.c (.sl (d, 0) 0 rows.length), .c (.p (.v y))], [((d, 0), some (.row e rows true))]⟩ := opL_call (d := d) hcon hn hok hargs rfl rfl rfl
theorem callk_ov {e : Nat} {rows : List (List PV)} {y : Value} (hcon : Contract P f avs [.c (.own e rows), .c (.p (.v y))] []) (hrows : ∀ r ∈ rows, ∀ p ∈ r, noL p = true) (hn : avs.any AV.isRef = false) (hok : xs.toList.all okC = true) (hargs : ToAs st (xs.toList.map st.ev) avs bs) :
    OpL E N P ops ⟨some d, .call { callee := .value (.func f), args := xs, argTypes := tys }, ty, pos, af, gd⟩ st ⟨bs, [(d, 0)]⟩ ⟨.tup [.c (.sl (d, 0) 0 rows.length), .c (.p (.v y))], [((d, 0), some (.row e rows true))]⟩ :=
  opL_callk (d := d) hcon (by
    intro y hy
    rcases List.mem_cons.1 hy with rfl | hy
    · exact hrows
    · rw [List.mem_singleton.1 hy]; rfl) hn hok hargs rfl rfl rfl
end
/- How functions end. -/
theorem fin_p {s : Nat} {x y : PV} {ex : Exit} (hx : ex = .normal ∨ ex = .ret) (hf : fn.results.toList = [.tmp s]) (h : st.g s = .c (.p x)) (hy : y = x) : Fin0 T fn [.c (.p y)] ex st := by
  subst hy
  refine ⟨hx, [.c (.p y)], _, _, by rw [hf]; exact .cons (.tmpc h (by simp)) .nil, .cons (.c (.p _)) .nil, rfl, rfl⟩
theorem fin_pp {s t : Nat} {x y x' y' : PV} {ex : Exit} (hx : ex = .normal ∨ ex = .ret) (hf : fn.results.toList = [.tmp s, .tmp t]) (h : st.g s = .c (.p x)) (h' : st.g t = .c (.p x')) (hy : y = x) (hy' : y' = x') : Fin0 T fn [.c (.p y), .c (.p y')] ex st := by
  subst hy
  subst hy'
  refine ⟨hx, [.c (.p y), .c (.p y')], _, _, by rw [hf]; exact .cons (.tmpc h (by simp)) (.cons (.tmpc h' (by simp)) .nil), .cons (.c (.p _)) (.cons (.c (.p _)) .nil), rfl, rfl⟩
theorem fin_o {s n e : Nat} {b : Bid} {rows rows' : List (List PV)} {ex : Exit} (hx : ex = .normal ∨ ex = .ret) (hf : fn.results.toList = [.tmp s]) (h : st.g s = .c (.sl b 0 n)) (hb : st.h b = some (.row e rows true)) (hn : rows.length = n) (hr : rows' = rows) : Fin0 T fn [.c (.own e rows')] ex st := by
  subst hr
  refine ⟨hx, [.c (.sl b 0 n)], _, _, by rw [hf]; exact .cons (.tmpc h (by simp)) .nil, .cons (.c (.own hb hn)) .nil, rfl, rfl⟩
/- Old contracts. -/
theorem contract_atom {f : FuncId} {avs : List AV} {x : Value} (he : entB P f = true) (hx : atomB x = true) (hn : avs.any AV.isRef = false) (h : ∀ A q w vs, AsR w A (fun _ => none) w.heap.size q avs vs.toList → Calls P f vs w fun e w' => e = .returned x ∧ w.grownBy w' none) : Contract P f avs [.c (.p (.v x))] [] := by
  refine ⟨he, fun A gs g q w vs hA hinj hgs hg hR => ?_⟩
  obtain ⟨hg1, rfl⟩ := hg hn
  have e : gs = fun _ => none := funext hg1
  subst e
  refine (h A q w vs hR).mono ?_
  rintro _ w' ⟨rfl, hgr⟩
  exact ⟨x, A, fun _ => none, rfl, fun _ h => h, fun _ h => .inl h, hgr.size, fun y hy _ _ => hgr.block y hy (by simp), hgr.os, hgr.tape, hgr.output, fun n m y h => (by cases h), fun n y h => (by cases h), ⟨atomB_one hx, .v x hx, trivial⟩, fun h => by rw [hn] at h; cases h⟩
theorem asR_atoms {A : Nat → Prop} {gs : Nat → Option Nat} {g q : Nat} : ∀ {xs : List Value} {vs : Array Value}, AsR w A gs g q (xs.map fun x => .c (.v x)) vs.toList → vs = xs.toArray := by
  intro xs vs h
  suffices vs.toList = xs by rw [← this]
  revert h
  generalize vs.toList = l
  intro h
  induction xs generalizing l with
  | nil =>
    cases l with
    | nil => rfl
    | cons v l => exact h.elim
  | cons x xs ih =>
    cases l with
    | nil => exact h.elim
    | cons v l =>
      obtain ⟨h1, h2⟩ := h
      have : v = x := by cases h1 with | v _ _ => rfl
      rw [this, ih l h2]
theorem csR_atoms {A : Nat → Prop} {gs : Nat → Option Nat} {n : Nat} : ∀ {xs : List Value} {vs : Array Value}, CsR w A gs n (xs.map fun x => .p (.v x)) vs.toList → vs = xs.toArray := by
  intro xs vs h
  suffices vs.toList = xs by rw [← this]
  revert h
  generalize vs.toList = l
  intro h
  induction xs generalizing l n with
  | nil =>
    cases l with
    | nil => rfl
    | cons v l => exact h.elim
  | cons x xs ih =>
    cases l with
    | nil => exact h.elim
    | cons v l =>
      obtain ⟨_, h1, h2⟩ := h
      have : v = x := by cases h1 with | v _ _ => rfl
      rw [this, ih l h2]
/-- One struct of values without addresses. -/
theorem asR_agg {A : Nat → Prop} {gs : Nat → Option Nat} {g q : Nat} {xs : List Value} {vs : Array Value} (h : AsR w A gs g q [.agg (xs.map .v)] vs.toList) : vs = #[.agg xs.toArray] := by
  suffices vs.toList = [.agg xs.toArray] by
    have := congrArg List.toArray this
    simpa using this
  revert h
  generalize vs.toList = l
  intro h
  match l, h with
  | [v], h =>
    obtain ⟨⟨us, rfl, h1⟩, _⟩ := h
    rw [List.map_map] at h1
    rw [csR_atoms (xs := xs) h1]
theorem grown_eq {w w' : World} (h : w = w') : w.grownBy w' none := by subst h; exact grown_refl w
end
end Go.Proofs.Ythlaenafkihjiaa
/- Functions whose first argument is a pointer to a variable. Conditions: those of the rules. -/
namespace Go.Proofs.Ythlaenafkihjiaa
open Go.RowKit
set_option linter.unusedVariables false
set_option linter.unusedSimpArgs false
section
variable {E : En} {N : Nat} {P : Program} {T : Tb P} {st : St} {Q : Exit → St → Prop} {cx : Cx} {a : Act} {w w' : World} {fn : Func}
/-- How such a function ends. -/
def FinR (T : Tb P) (fn : Func) (r : List RS) (out : List RV) : Exit → St → Prop := fun e st => (e = .normal ∨ e = .ret) ∧ ∃ ts os bs cs os' bs', ResTs T st fn.results.toList ts ∧ ToSs st ts r os bs ∧ st.h pinB = some (.box cs) ∧ ToCs st cs out os' bs' ∧
  nodO (os ++ os') = true ∧ disB ((os ++ os').filterMap id) (bs ++ bs') = true
theorem toC_live2 {c : CV} {x : RV} {o : Option Bid} {bs : List Bid} (h : ToC st c x o bs) : (∀ b ∈ bs, st.h b ≠ none) ∧ ∀ b, o = some b → ∃ e rows, st.h b = some (.row e rows true) := by
  cases h with
  | p x => exact ⟨by simp, by simp⟩
  | nil e => exact ⟨by simp, by simp⟩
  | nilo e he => exact ⟨by simp, by simp⟩
  | own hb hn => exact ⟨by simp, fun b hb' => by cases hb'; exact ⟨_, _, hb⟩⟩
  | fr hb hr => exact ⟨fun b hb' => by rw [List.mem_singleton.1 hb', hb]; simp, by simp⟩
theorem toCs_live2 {cs : List CV} {xs : List RV} {os : List (Option Bid)} {bs : List Bid} (h : ToCs st cs xs os bs) : (∀ b ∈ bs, st.h b ≠ none) ∧ ∀ b, some b ∈ os → ∃ e rows, st.h b = some (.row e rows true) := by
  induction h with
  | nil => exact ⟨by simp, by simp⟩
  | cons h hs ih =>
    obtain ⟨h1, h2⟩ := toC_live2 h
    refine ⟨fun b hb => ?_, fun b hb => ?_⟩
    · rcases List.mem_append.1 hb with h | h
      · exact h1 b h
      · exact ih.1 b h
    · rcases List.mem_cons.1 hb with h | h
      · exact h2 b h.symm
      · exact ih.2 b h
theorem toSs_live2 {ts : List TV} {xs : List RS} {os : List (Option Bid)} {bs : List Bid} (h : ToSs st ts xs os bs) : (∀ b ∈ bs, st.h b ≠ none) ∧ ∀ b, some b ∈ os → ∃ e rows, st.h b = some (.row e rows true) := by
  induction h with
  | nil => exact ⟨by simp, by simp⟩
  | @cons t x os os' bs bs' ts xs h hs ih =>
    have hS : (∀ b ∈ bs, st.h b ≠ none) ∧ ∀ b, some b ∈ os → ∃ e rows, st.h b = some (.row e rows true) := by
      cases h with
      | c h =>
        obtain ⟨h1, h2⟩ := toC_live2 h
        exact ⟨h1, fun b hb => h2 b (List.mem_singleton.1 hb).symm⟩
      | agg h => exact toCs_live2 h
    refine ⟨fun b hb => ?_, fun b hb => ?_⟩
    · rcases List.mem_append.1 hb with h | h
      · exact hS.1 b h
      · exact ih.1 b h
    · rcases List.mem_append.1 hb with h | h
      · exact hS.2 b h
      · exact ih.2 b h
/-- How a contract is proved, for a function whose first argument alone is a pointer. -/
theorem contractR {f : FuncId} {body : Code} {cs : List RV} {avs : List AV} {r : List RS} {out : List RV} (T : Tb P) (hf : P.funcs[f]? = some fn) (hb : fn.body = some body) (he : entB P f = true) (hN : fn.ntmps = N) (hN2 : Nat.ble N 65536 = true) (hl : avs.length + 1 ≤ N) (hn : avs.any AV.isRef = false)
    (h : ∀ E, AW E N P body (FinR T fn r out) ⟨(0, .c (.ptr pinB 0 0)) :: enF 1 avs, (pinB, some (.box (adCs 65536 1 cs))) :: adB 65536 1 cs⟩) : Contract P f (.ref cs :: avs) r out := by
  refine ⟨he, fun A gs g q w vs hA hinj hgs hg hR => ?_⟩
  -- the arguments
  obtain ⟨v0, vs1, hvs, hR0, hR1⟩ : ∃ v0 vs1, vs.toList = v0 :: vs1 ∧ AVr w A gs g q (.ref cs) v0 ∧ AsR w A gs g q avs vs1 := by
    revert hR
    generalize vs.toList = l
    intro hR
    cases l with
    | nil => exact hR.elim
    | cons v l => exact ⟨v, l, rfl, hR.1, hR.2⟩
  obtain ⟨rfl, c, el, hc, hnA, hsz, hcs⟩ := hR0
  obtain ⟨hul, hua⟩ := csR_at hcs
  let st0 : St := ⟨(0, .c (.ptr pinB 0 0)) :: enF 1 avs, (pinB, some (.box (adCs 65536 1 cs))) :: adB 65536 1 cs⟩
  let us : List Value := (c.toList.drop q).take cs.length
  let cx0 : Cx := ⟨fun b => if b = pinB then some (g, q) else if b.1 = 65536 ∧ 1 ≤ b.2 then (match cs[b.2 - 1]? with | some (.own _ _) => ιOf (gs (b.2 - 1)) ((us[b.2 - 1]?).getD undef) | _ => none) else none, A⟩
  have hh : ∀ b, st0.h b = if b = pinB then some (.box (adCs 65536 1 cs)) else if b.1 = 65536 ∧ 1 ≤ b.2 then (match cs[b.2 - 1]? with | some (.own e rows) => some (.row e rows true) | _ => none) else none := by
    intro b
    show (lkB ((pinB, some (Bk.box (adCs 65536 1 cs))) :: adB 65536 1 cs) b).getD none = _
    simp only [lkB]
    by_cases e : b = pinB
    · subst e
      rw [beqB_iff.2 rfl, if_pos rfl]; rfl
    · have : beqB pinB b = false := by
        cases hx : beqB pinB b with
        | false => rfl
        | true => exact absurd (beqB_iff.1 hx).symm e
      rw [this, if_neg e]
      simp only
      rw [lk_adB]
      by_cases h2 : b.1 = 65536 ∧ 1 ≤ b.2
      · rw [if_pos h2, if_pos h2]
        cases hx : cs[b.2 - 1]? with
        | none => rfl
        | some x => cases x <;> rfl
      · rw [if_neg h2, if_neg h2]; rfl
  -- the blocks of one's own
  have hone : ∀ b bk, b ≠ pinB → st0.h b = some bk → ∃ k e rows u, b = (65536, 1 + k) ∧ cs[k]? = some (.own e rows) ∧ bk = .row e rows true ∧ us[k]? = some u ∧ OwnR w A (gs k) e rows u ∧ cx0.ι b = ιOf (gs k) u := by
    intro b bk hne hb
    rw [hh, if_neg hne] at hb
    by_cases h2 : b.1 = 65536 ∧ 1 ≤ b.2
    · rw [if_pos h2] at hb
      cases hx : cs[b.2 - 1]? with
      | none => rw [hx] at hb; cases hb
      | some x =>
        rw [hx] at hb
        cases x with
        | p p => cases hb
        | own e rows =>
          cases hb
          obtain ⟨u, hu, h3, h4⟩ := hua (b.2 - 1) _ hx
          refine ⟨b.2 - 1, e, rows, u, ?_, hx, rfl, hu, by rw [Nat.zero_add] at h4; exact h4, ?_⟩
          · obtain ⟨b1, b2⟩ := b
            simp only [Prod.mk.injEq] at h2 ⊢
            exact ⟨h2.1, by omega⟩
          · show (if b = pinB then _ else _) = _
            rw [if_neg hne, if_pos h2, hx]
            simp only
            have hu' : us[b.2 - 1]? = some u := hu
            rw [hu']; rfl
    · rw [if_neg h2] at hb; cases hb
  have hι0 : cx0.ι pinB = some (g, q) := by simp [cx0]
  have hown2 : ∀ k e rows, cs[k]? = some (.own e rows) → st0.h (65536, 1 + k) = some (.row e rows true) := by
    intro k e rows hk
    have hne : ((65536, 1 + k) : Bid) ≠ pinB := by simp [pinB]
    rw [hh, if_neg hne, if_pos ⟨rfl, by simp⟩]
    simp only [Nat.add_sub_cancel_left, hk]
  let E : En := ⟨w, A, fun x => x = g ∨ ∃ n, gs n = some x, some (g, q)⟩
  have hglt : g < w.heap.size := (Array.getElem?_eq_some_iff.1 hc).1
  obtain ⟨hvl, hfr⟩ := enF_rel (cx := cx0) (h := st0.h) (j := 1) hn hR1
  have hvsz : vs.size = avs.length + 1 := by
    have := congrArg List.length hvs
    simpa [hvl] using this
  have hr : Rel E N cx0 st0 { tmps := vs ++ Array.replicate (fn.ntmps - vs.size) undef, defers := [] } w := by
    refine ⟨rfl, by simp; omega, fun s => ?_, fun b bk hb => ?_, fun b b' g1 o g2 o' hb hb' hi hi' hne => ?_, fun b g1 o hb hi => ?_, fun x hx => ⟨hA x hx, .inl hx⟩, fun x hx => hx, fun _ _ _ => rfl, Nat.le_refl _, rfl, rfl, rfl, Nat.le_of_ble_eq_true hN2, hι0⟩
    · have e : st0.g s = (lkN ((0, .c (.ptr pinB 0 0)) :: enF 1 avs) s).getD (.c .any) := rfl
      rw [e]
      have hval : ∀ (i : Nat) (v : Value), vs.toList[i]? = some v → (vs ++ Array.replicate (fn.ntmps - vs.size) undef).getD i undef = v := by
        intro i v hv
        have hi := (List.getElem?_eq_some_iff.1 hv).1
        rw [Array.getD_eq_getD_getElem?, Array.getElem?_append_left (by simpa using hi)]
        rw [Array.getElem?_toList] at hv
        rw [hv]; rfl
      simp only [lkN]
      cases hb : Nat.beq 0 s with
      | true =>
        have := Nat.eq_of_beq_eq_true hb
        subst this
        show RT _ w _ _ ((vs ++ Array.replicate (fn.ntmps - vs.size) undef).getD 0 undef)
        rw [hval 0 (.pointer (some ⟨g, q, none⟩)) (by rw [hvs]; rfl)]
        refine ⟨.inr rfl, fun bk hbk => ⟨g, q, hι0, ?_⟩⟩
        simp
      | false =>
        simp only
        cases hl : lkN (enF 1 avs) s with
        | none => exact ⟨.inl rfl, trivial⟩
        | some t =>
          obtain ⟨i, v, h1, h2, h3⟩ := hfr s t hl
          show RT _ w _ _ ((vs ++ Array.replicate (fn.ntmps - vs.size) undef).getD s undef)
          rw [hval s v (by rw [hvs, h1, Nat.add_comm, List.getElem?_cons_succ]; exact h2)]
          exact h3
    · by_cases e : b = pinB
      · subst e
        rw [hh, if_pos rfl] at hb
        cases hb
        refine ⟨g, q, c, el, hι0, hc, hnA, by rw [adCs_len]; exact hsz, fun k x hx => ?_⟩
        rw [adCs_at, Option.map_eq_some_iff] at hx
        obtain ⟨y, hy, rfl⟩ := hx
        obtain ⟨u, hu, h3, h4⟩ := hua k y hy
        rw [Nat.zero_add] at h4
        have hu2 : c[q + k]? = some u := by
          rw [List.getElem?_take] at hu
          split at hu
          · rw [List.getElem?_drop, Array.getElem?_toList] at hu; exact hu
          · cases hu
        refine ⟨u, hu2, h3, ?_⟩
        cases y with
        | p p => exact h4
        | own e rows =>
          have hb2 := hown2 k e rows hy
          have hne : ((65536, 1 + k) : Bid) ≠ pinB := by simp [pinB]
          obtain ⟨k2, e2, rows2, u2, h5, h6, h7, h8, h9, h10⟩ := hone _ _ hne hb2
          simp only [Prod.mk.injEq, true_and] at h5
          obtain rfl : k = k2 := by omega
          have : u = u2 := by
            have hh8 : us[k]? = some u2 := h8
            rw [show us[k]? = some u from hu] at hh8
            exact Option.some.inj hh8
          subst this
          exact ownR_rc (cx := cx0) h4 hb2 h10
      · obtain ⟨k, e2, rows, u, rfl, h6, rfl, h8, h9, h10⟩ := hone b bk e hb
        exact ownR_rb (cx := cx0) h9 h10
    · have hnew : ∀ b g1 o, b ≠ pinB → st0.h b ≠ none → cx0.ι b = some (g1, o) → ∃ k, b = (65536, 1 + k) ∧ gs k = some g1 := by
        intro b g1 o h1 h2 h3
        obtain ⟨bk, hbk⟩ := Option.ne_none_iff_exists'.1 h2
        obtain ⟨k, e2, rows, u, h5, h6, h7, h8, h9, h10⟩ := hone b bk h1 hbk
        rw [h10] at h3
        exact ⟨k, h5, (ιOf_in h3).1⟩
      by_cases e1 : b = pinB <;> by_cases e2 : b' = pinB
      · exact absurd (e1.trans e2.symm) hne
      · rw [e1, hι0] at hi
        cases hi
        obtain ⟨k, _, h2⟩ := hnew b' g2 o' e2 hb' hi'
        exact fun e => (hgs k g2 h2).2 e.symm
      · rw [e2, hι0] at hi'
        cases hi'
        obtain ⟨k, _, h2⟩ := hnew b g1 o e1 hb hi
        exact (hgs k g1 h2).2
      · obtain ⟨k, h1, h2⟩ := hnew b g1 o e1 hb hi
        obtain ⟨k', h3, h4⟩ := hnew b' g2 o' e2 hb' hi'
        rintro rfl
        have := hinj k k' g1 h2 h4
        exact hne (by rw [h1, h3, this])
    · by_cases e1 : b = pinB
      · rw [e1, hι0] at hi
        cases hi
        exact ⟨hglt, .inr (.inl rfl)⟩
      · obtain ⟨bk, hbk⟩ := Option.ne_none_iff_exists'.1 hb
        obtain ⟨k, e2, rows, u, h5, h6, h7, h8, h9, h10⟩ := hone b bk e1 hbk
        rw [h10] at hi
        have := (ιOf_in hi).1
        exact ⟨(hgs k g1 this).1, .inr (.inr ⟨k, this⟩)⟩
  refine calls_of_wp hf hb (wp_mono (h E _ _ _ hr) ?_)
  rintro e a' w' ⟨st', cx', ⟨he, ts, os, bs, cs', os', bs', h1, h2, h2b, h2c, h3, h4⟩, hr'⟩
  obtain ⟨vs', h5, h6, h7⟩ := resTs_run hr' h1
  have hres := results_run (fn := fn) (rs := fn.results.toList) (by simp) h5
  have hnod := nodO_spec h3
  have hdis := disB_spec h4
  obtain ⟨hbl1, hol1⟩ := toSs_live2 h2
  obtain ⟨hbl2, hol2⟩ := toCs_live2 h2c
  have hbl : ∀ b ∈ bs ++ bs', st'.h b ≠ none := fun b hb => by
    rcases List.mem_append.1 hb with h | h
    · exact hbl1 b h
    · exact hbl2 b h
  have hol : ∀ b, some b ∈ os ++ os' → ∃ e rows, st'.h b = some (.row e rows true) := fun b hb => by
    rcases List.mem_append.1 hb with h | h
    · exact hol1 b h
    · exact hol2 b h
  have hpin : cx'.ι pinB = some (g, q) := hr'.pin
  let A' : Nat → Prop := fun x => cx'.A x ∨ ∃ b ∈ bs ++ bs', st'.h b ≠ none ∧ ∃ q, cx'.ι b = some (x, q)
  have hmut : ∀ b, some b ∈ os ++ os' → ∀ g q, cx'.ι b = some (g, q) → ¬ cx'.A g := by
    intro b hb g q hg
    obtain ⟨e1, rows, hbk⟩ := hol b hb
    obtain ⟨_, _, h8⟩ := hr'.bl b _ hbk
    rw [hg] at h8
    obtain ⟨_, c, el, fz, capR, _, h9, _⟩ := h8
    exact (h9 rfl).2
  have hlive : ∀ b, some b ∈ os ++ os' → st'.h b ≠ none := fun b hb => by obtain ⟨_, _, h⟩ := hol b hb; rw [h]; simp
  have hnA2 : ∀ b, some b ∈ os ++ os' → ∀ g q, cx'.ι b = some (g, q) → ¬ A' g := by
    rintro b hb g q hg (h | ⟨b2, hb2, hb2l, q2, hg2⟩)
    · exact hmut b hb g q hg h
    · refine hr'.inj b b2 g q g q2 (hlive b hb) hb2l hg hg2 ?_ rfl
      rintro rfl
      exact hdis b (List.mem_filterMap.2 ⟨some b, hb, rfl⟩) hb2
  have hpl : st'.h pinB ≠ none := by rw [h2b]; simp
  obtain ⟨g', o', c', el', h8, h9, h10, h11, h12⟩ := hr'.bl pinB _ h2b
  rw [hpin] at h8
  cases h8
  -- the pointer's variable is no list
  have hbrow : ∀ b ∈ bs ++ bs', ∃ e rows mu, st'.h b = some (.row e rows mu) := by
    have hCs : ∀ {cs xs os bs}, ToCs st' cs xs os bs → ∀ b ∈ bs, ∃ e rows mu, st'.h b = some (.row e rows mu) := by
      intro cs xs os bs h
      induction h with
      | nil => simp
      | cons h hs ih =>
        intro b hb
        rcases List.mem_append.1 hb with hb | hb
        · exact toC_live h b hb
        · exact ih b hb
    have hSs : ∀ {ts xs os bs}, ToSs st' ts xs os bs → ∀ b ∈ bs, ∃ e rows mu, st'.h b = some (.row e rows mu) := by
      intro ts xs os bs h
      induction h with
      | nil => simp
      | cons h hs ih =>
        intro b hb
        rcases List.mem_append.1 hb with hb | hb
        · cases h with
          | c h => exact toC_live h b hb
          | agg h => exact hCs h b hb
        · exact ih b hb
    intro b hb
    rcases List.mem_append.1 hb with h | h
    · exact hSs h2 b h
    · exact hCs h2c b h
  have hgA' : ¬ A' g := by
    rintro (h | ⟨b2, hb2, hb2l, q2, hg2⟩)
    · exact h10 h
    · refine hr'.inj pinB b2 g q g q2 hpl hb2l hpin hg2 ?_ rfl
      rintro rfl
      obtain ⟨_, _, _, h⟩ := hbrow _ hb2
      rw [h2b] at h
      cases h
  obtain ⟨hval, holen⟩ := toSs_rel hr' (A' := A') (fun x hx => .inl hx) h2 (n := 0) (gs := fun n => goOf cx' (((os ++ os')[n]?).getD none)) (vs := vs') (fun b hb g q hg => .inr ⟨b, List.mem_append_left _ hb, hbl b (List.mem_append_left _ hb), q, hg⟩)
    (fun b hb g q hg => hnA2 b (List.mem_append_left _ hb) g q hg) (fun k o hk => by rw [Nat.zero_add, List.getElem?_append_left (List.getElem?_eq_some_iff.1 hk).1, hk]; rfl) h6 h7
  have hcl : cs'.length = out.length := (toCs_len h2c).1
  have hout := toCs_rel hr' (A' := A') (fun x hx => .inl hx) (gs := fun n => goOf cx' (((os ++ os')[n]?).getD none)) h2c (n := (flatR r).length) (vs := (c'.toList.drop q).take cs'.length) (fun b hb g q hg => .inr ⟨b, List.mem_append_right _ hb, hbl b (List.mem_append_right _ hb), q, hg⟩)
    (fun b hb g q hg => hnA2 b (List.mem_append_right _ hb) g q hg) (fun k o hk => by
      rw [List.getElem?_append_right (by omega), show (flatR r).length + k - os.length = k by omega, hk]; rfl) (by simp only [List.length_take, List.length_drop, Array.length_toList]; omega) (fun i x hi => by
      obtain ⟨cv, h13, h14, h15⟩ := h12 i x hi
      have hil := (List.getElem?_eq_some_iff.1 hi).1
      exact ⟨cv, by rw [List.getElem?_take, if_pos hil, List.getElem?_drop, Array.getElem?_toList]; exact h13, h14, h15⟩)
  have hgo : ∀ (n x : Nat), goOf cx' (((os ++ os')[n]?).getD none) = some x → ∃ b q, (os ++ os')[n]? = some (some b) ∧ cx'.ι b = some (x, q) := by
    intro n x hx
    cases ho : (os ++ os')[n]? with
    | none => rw [ho] at hx; cases hx
    | some o =>
      rw [ho] at hx
      cases o with
      | none => cases hx
      | some b =>
        simp only [goOf, Option.getD_some, Option.bind_some, Option.map_eq_some_iff] at hx
        obtain ⟨⟨x', q⟩, h8, rfl⟩ := hx
        exact ⟨b, q, rfl, h8⟩
  have hfin : ∃ v, (results fn a'.tmps).run P w' = .ok v w' ∧ ValR w' A' (fun n => goOf cx' (((os ++ os')[n]?).getD none)) r v := by
    refine ⟨_, hres, ?_⟩
    match r, vs', hval with
    | [], [], _ => exact ⟨#[], rfl, trivial⟩
    | [t], [v], h => exact h.1
    | t :: t2 :: r, v :: v2 :: vs, h => exact ⟨_, rfl, h⟩
    | [t], v :: v2 :: vs, h => exact h.2.elim
    | t :: t2 :: r, [v], h => exact h.2.elim
  obtain ⟨v, hv1, hv2⟩ := hfin
  have hlb : ∀ {n b}, (os ++ os')[n]? = some (some b) → st'.h b ≠ none := fun h => hlive _ (List.mem_of_getElem? h)
  have hR2 : a'.defers = [] ∧ ∃ v, (results fn a'.tmps).run P w' = .ok v w' ∧ ∃ v' A2 gs', Ending.returned v = .returned v' ∧ (∀ x, A x → A2 x) ∧ (∀ x, A2 x → A x ∨ x < w'.heap.size ∧ (w.heap.size ≤ x ∨ ∃ n, gs n = some x)) ∧ w.heap.size ≤ w'.heap.size ∧
      (∀ x, x < w.heap.size → x ≠ g → (∀ n, gs n ≠ some x) → w'.heap[x]? = w.heap[x]?) ∧ w'.os = w.os ∧ w'.tape = w.tape ∧ w'.output = w.output ∧ inj1 gs' ∧
      (∀ n x, gs' n = some x → x < w'.heap.size ∧ (((AV.ref cs :: avs).any AV.isRef) = true → x ≠ g) ∧ (w.heap.size ≤ x ∨ ∃ m, gs m = some x)) ∧ ValR w' A2 gs' r v' ∧
      (((AV.ref cs :: avs).any AV.isRef) = true → ¬ A2 g ∧ ∃ c el, w'.heap[g]? = some (.cells c el (0, 0)) ∧ q + out.length ≤ c.size ∧ CsR w' A2 gs' (flatR r).length out ((c.toList.drop q).take out.length)) := by
    refine ⟨hr'.defers, v, hv1, v, A', _, rfl, fun x hx => .inl (hr'.A0 x hx), ?_, hr'.sz, fun x hx h13 h14 => hr'.kept x hx (by rintro (h | ⟨n, h⟩); exact h13 h; exact h14 n h), hr'.os, hr'.tape, hr'.output, ?_, ?_, hv2, fun _ => ⟨hgA', c', el', h9, by rw [← hcl]; exact h11, by rw [← hcl]; exact hout⟩⟩
    · rintro x (h | ⟨b, hb, hbl', q2, hq⟩)
      · obtain ⟨h13, h14 | h14 | h14⟩ := hr'.A x h
        · exact .inl h14
        · exact .inr ⟨h13, .inl h14⟩
        · rcases h14 with h14 | h14
          · subst h14; exact absurd h h10
          · exact .inr ⟨h13, .inr h14⟩
      · obtain ⟨h13, h14 | h14⟩ := hr'.own b x q2 hbl' hq
        · exact .inr ⟨h13, .inl h14⟩
        · rcases h14 with h14 | h14
          · subst h14
            exact absurd (.inr ⟨b, hb, hbl', q2, hq⟩) hgA'
          · exact .inr ⟨h13, .inr h14⟩
    · intro n m x hx hy
      obtain ⟨b, q2, h13, h14⟩ := hgo n x hx
      obtain ⟨b2, q3, h15, h16⟩ := hgo m x hy
      by_cases hbb : b = b2
      · subst hbb; exact hnod n m b h13 h15
      · exact absurd rfl (hr'.inj b b2 x q2 x q3 (hlb h13) (hlb h15) h14 h16 hbb)
    · intro n x hx
      obtain ⟨b, q2, h13, h14⟩ := hgo n x hx
      obtain ⟨h15, h16⟩ := hr'.own b x q2 (hlb h13) h14
      have hxg : x ≠ g := by
        rintro rfl
        refine hr'.inj b pinB x q2 x q (hlb h13) hpl h14 hpin ?_ rfl
        rintro rfl
        obtain ⟨_, _, h⟩ := hol _ (List.mem_of_getElem? h13)
        rw [h2b] at h
        cases h
      refine ⟨h15, fun _ => hxg, ?_⟩
      rcases h16 with h16 | h16 | h16
      · exact .inl h16
      · exact absurd h16 hxg
      · exact .inr h16
  rcases he with rfl | rfl
  · exact hR2
  · exact hR2
end
end Go.Proofs.Ythlaenafkihjiaa
/- Calls with a pointer to a variable of one's own. Conditions: those of the rules. -/
namespace Go.Proofs.Ythlaenafkihjiaa
open Go.RowKit
set_option linter.unusedVariables false
set_option linter.unusedSimpArgs false
/-- What such a call leaves behind. -/
def outB (st : St) (d : Nat) (b : Bid) (r : List RS) (out : List RV) (dl fz : List Bid) : List (Bid × Option Bk) :=
  adB d 0 (flatR r ++ out) ++ (b, some (.box (adCs d (flatR r).length out))) :: (dl.map (fun x => (x, none)) ++ frzL st fz)
theorem lk_none (dl : List Bid) (b : Bid) : lkB (dl.map fun x => (x, (none : Option Bk))) b = if b ∈ dl then some none else none := by
  induction dl with
  | nil => rfl
  | cons c dl ih =>
    simp only [List.map_cons, lkB]
    by_cases h : c = b
    · subst h
      rw [beqB_iff.2 rfl, if_pos (by simp)]
    · have : beqB c b = false := by
        cases hx : beqB c b with
        | false => rfl
        | true => exact absurd (beqB_iff.1 hx) h
      rw [this]
      simp only
      rw [ih]
      by_cases hb : b ∈ dl
      · rw [if_pos hb, if_pos (List.mem_cons_of_mem _ hb)]
      · rw [if_neg hb, if_neg (by rw [List.mem_cons, not_or]; exact ⟨fun e => h e.symm, hb⟩)]
section
variable {E : En} {N : Nat} {cx : Cx} {st : St} {a : Act} {w w' : World} {P : Program} {T : Tb P} {ops : Array Oper} {o : Oper} {d : Nat} {ty : Nat} {pos : String} {af : Array Edge} {gd : Option (Nat × Bool)}
theorem callr_core (hr : Rel E N cx st a w) (hd : ∀ d, o.dst = some d → d < N) (hdN : d < N) {r : List RS} {out : List RV} {us us2 : List Value} {v : Value} {A2 : Nat → Prop} {gs2 : Nat → Option Nat} {b : Bid} {cs : List CV} {g q : Nat} {dl fz : List Bid}
    (hb : st.h b = some (.box cs)) (hι : cx.ι b = some (g, q))
    (hfresh : ∀ (n e : Nat) (rows : List (List PV)), (flatR r ++ out)[n]? = some (.own e rows) → FreshB (d, n) st) (hA2 : ∀ x, cx.A x → A2 x)
    (hA2' : ∀ x, A2 x → cx.A x ∨ (w.heap.size ≤ x ∧ x < w'.heap.size) ∨ ∃ b ∈ fz ++ dl, st.h b ≠ none ∧ ∃ q, cx.ι b = some (x, q))
    (hfz : ∀ b ∈ fz, (∃ e rows mu, st.h b = some (.row e rows mu)) ∧ ∀ g q, cx.ι b = some (g, q) → A2 g) (hfd : ∀ b ∈ dl, b ∉ fz)
    (hdl : ∀ b ∈ dl, ∃ e rows, st.h b = some (.row e rows true))
    (hsz : w.heap.size ≤ w'.heap.size) (hkept : ∀ x, x < w.heap.size → x ≠ g → (∀ b ∈ dl, ∀ q, cx.ι b ≠ some (x, q)) → w'.heap[x]? = w.heap[x]?) (hos : w'.os = w.os) (htp : w'.tape = w.tape) (hou : w'.output = w.output)
    (hinj : inj1 gs2) (hgs : ∀ n x, gs2 n = some x → x < w'.heap.size ∧ x ≠ g ∧ (w.heap.size ≤ x ∨ ∃ b ∈ dl, ∃ q, cx.ι b = some (x, q))) (hval : CsR w' A2 gs2 0 (flatR r) us)
    (hbox : ¬ A2 g ∧ ∃ c el, w'.heap[g]? = some (.cells c el (0, 0)) ∧ q + out.length ≤ c.size ∧ us2 = (c.toList.drop q).take out.length) (hval2 : CsR w' A2 gs2 (flatR r).length out us2)
    (hrt : ∀ (cx : Cx) (h : Bid → Option Bk), (∀ k x u, (flatR r)[k]? = some x → us[k]? = some u → RC cx w' h (adC d k x) u) → RT cx w' h (adT d r) v) :
    ∃ cx', Rel E N cx' (Ef.ap ⟨adT d r, outB st d b r out dl fz⟩ o st) (a.put o.dst v) w' := by
  have hcs : CsR w' A2 gs2 0 (flatR r ++ out) (us ++ us2) := csR_app hval (by rw [Nat.zero_add]; exact hval2)
  obtain ⟨hul, hua⟩ := csR_at hcs
  obtain ⟨hul1, hua1⟩ := csR_at hval
  obtain ⟨hnA, cc, cel, hcc, hccs, hus2⟩ := hbox
  obtain ⟨g0, q0, c0, el0, hb1, hb2, hb3, hb4, hb5⟩ := hr.bl b _ hb
  rw [hι] at hb1
  cases hb1
  have hbl : st.h b ≠ none := by rw [hb]; simp
  have hdll : ∀ b ∈ dl, st.h b ≠ none := fun b hb => by obtain ⟨_, _, h⟩ := hdl b hb; rw [h]; simp
  have hdlA : ∀ b ∈ dl, ∀ x q, cx.ι b = some (x, q) → ¬ cx.A x := by
    intro b hb x q hx
    obtain ⟨e1, rows, hbk⟩ := hdl b hb
    obtain ⟨_, _, h8⟩ := hr.bl b _ hbk
    rw [hx] at h8
    obtain ⟨_, c, el, fz, capR, _, h9, _⟩ := h8
    exact (h9 rfl).2
  have hkeep : Keeps cx.A w w' := ⟨hsz, fun x hA hx => hkept x hx (fun e => hb3 (e ▸ hA)) (fun b hb q hq => hdlA b hb x q hq hA)⟩
  have hbd : b ∉ dl := fun h => by obtain ⟨_, _, h⟩ := hdl b h; rw [hb] at h; cases h
  have hbf : b ∉ fz := fun h => by obtain ⟨⟨_, _, _, h⟩, _⟩ := hfz b h; rw [hb] at h; cases h
  generalize hL : flatR r ++ out = L at *
  let st' := Ef.ap ⟨adT d r, outB st d b r out dl fz⟩ o st
  -- the blocks behind
  have hh : ∀ x, st'.h x = match (if x.1 = d then L[x.2]? else none) with
      | some (.own e rows) => some (.row e rows true)
      | _ => if x = b then some (.box (adCs d (flatR r).length out)) else if x ∈ dl then none else if x ∈ fz then frz (st.h x) else st.h x := by
    intro x
    have key : (lkB ((b, some (Bk.box (adCs d (flatR r).length out))) :: (dl.map (fun x => (x, none)) ++ frzL st fz) ++ st.H) x).getD none = if x = b then some (.box (adCs d (flatR r).length out)) else if x ∈ dl then none else if x ∈ fz then frz (st.h x) else st.h x := by
      simp only [List.cons_append, lkB]
      by_cases hx : x = b
      · subst hx
        rw [beqB_iff.2 rfl, if_pos rfl]; rfl
      · have : beqB b x = false := by
          cases h : beqB b x with
          | false => rfl
          | true => exact absurd (beqB_iff.1 h).symm hx
        rw [this, if_neg hx]
        simp only
        rw [List.append_assoc, lkB_append, lkB_append, lk_none, lk_frz]
        by_cases h1 : x ∈ dl
        · rw [if_pos h1, if_pos h1]; rfl
        · rw [if_neg h1, if_neg h1]
          by_cases h2 : x ∈ fz
          · rw [if_pos h2, if_pos h2]; rfl
          · rw [if_neg h2, if_neg h2]; rfl
    show (lkB ((adB d 0 (flatR r ++ out) ++ (b, some (Bk.box (adCs d (flatR r).length out))) :: (dl.map (fun x => (x, none)) ++ frzL st fz)) ++ st.H) x).getD none = _
    rw [hL, List.append_assoc, lkB_append, lk_adB]
    by_cases hx : x.1 = d
    · rw [if_pos ⟨hx, Nat.zero_le _⟩, if_pos hx, Nat.sub_zero]
      cases hy : L[x.2]? with
      | none => simp only [Option.none_or]; exact key
      | some y =>
        cases y with
        | p p => simp only [Option.none_or]; exact key
        | own e rows => rfl
    · rw [if_neg (fun h => hx h.1), if_neg hx]
      simp only [Option.none_or]
      exact key
  -- which are new
  let nw : Bid → Bool := fun b => match (if b.1 = d then L[b.2]? else none) with
    | some (.own _ _) => true
    | _ => false
  have hnw : ∀ b, nw b = true → ∃ n e rows, b = (d, n) ∧ L[n]? = some (.own e rows) := by
    intro b hb
    simp only [nw] at hb
    by_cases h1 : b.1 = d
    · rw [if_pos h1] at hb
      cases hx : L[b.2]? with
      | none => rw [hx] at hb; cases hb
      | some x =>
        rw [hx] at hb
        cases x with
        | p p => cases hb
        | own e rows => exact ⟨b.2, e, rows, by rw [← h1], hx⟩
    · rw [if_neg h1] at hb; cases hb
  have hnw2 : ∀ n e rows, L[n]? = some (.own e rows) → nw (d, n) = true := by
    intro n e rows h
    simp only [nw, if_true, h]
  have hnwn : ∀ x, nw x = true → st.h x = none := fun x hx => by
    obtain ⟨n, e, rows, rfl, h⟩ := hnw x hx
    exact (hfresh n e rows h).1
  have hold' : ∀ x, st.h x ≠ none → nw x = false := fun x hx => by
    cases h : nw x with
    | false => rfl
    | true => exact absurd (hnwn x h) hx
  have hh1 : ∀ x, nw x = false → st'.h x = if x = b then some (.box (adCs d (flatR r).length out)) else if x ∈ dl then none else if x ∈ fz then frz (st.h x) else st.h x := by
    intro x hx
    rw [hh]
    simp only [nw] at hx
    revert hx
    generalize (if x.1 = d then L[x.2]? else none) = y
    intro hx
    match y, hx with
    | none, _ => rfl
    | some (.p _), _ => rfl
    | some (.own _ _), hx => cases hx
  have hh2 : ∀ n e rows, L[n]? = some (.own e rows) → st'.h (d, n) = some (.row e rows true) := by
    intro n e rows h
    rw [hh]
    simp only [if_true, h]
  have hhb : st'.h b = some (.box (adCs d (flatR r).length out)) := by rw [hh1 b (hold' b hbl), if_pos rfl]
  -- what was live
  have hold : ∀ x, nw x = false → st'.h x ≠ none → st.h x ≠ none ∧ x ∉ dl := by
    intro x hx h
    rw [hh1 x hx] at h
    by_cases h1 : x = b
    · subst h1; exact ⟨hbl, hbd⟩
    · rw [if_neg h1] at h
      by_cases h2 : x ∈ dl
      · rw [if_pos h2] at h; exact absurd rfl h
      · rw [if_neg h2] at h
        refine ⟨?_, h2⟩
        split at h
        · intro e; rw [e] at h; exact h rfl
        · exact h
  let cx2 : Cx := ⟨fun b => if nw b = true then ιOf (gs2 b.2) (((us ++ us2)[b.2]?).getD undef) else cx.ι b, A2⟩
  have hι1 : ∀ b, nw b = true → cx2.ι b = ιOf (gs2 b.2) (((us ++ us2)[b.2]?).getD undef) := fun b h => by show (if nw b = true then _ else _) = _; rw [if_pos h]
  have hι2 : ∀ b, nw b = false → cx2.ι b = cx.ι b := fun b h => by show (if nw b = true then _ else _) = _; rw [if_neg (by rw [h]; simp)]
  have hnew : ∀ b g q, nw b = true → cx2.ι b = some (g, q) → gs2 b.2 = some g := by
    intro b g q h1 h2
    rw [hι1 b h1] at h2
    exact (ιOf_in h2).1
  -- an old block that stays is not touched
  have hstay : ∀ x gx qx, st.h x ≠ none → x ≠ b → x ∉ dl → cx.ι x = some (gx, qx) → w'.heap[gx]? = w.heap[gx]? := by
    intro x gx qx h1 h2 h3 h4
    refine hkept gx (hr.own x gx qx h1 h4).1 (hr.inj x b gx qx g q h1 hbl h4 hι h2) (fun y hy q' hq => ?_)
    exact hr.inj x y gx qx gx q' h1 (hdll y hy) h4 hq (fun e => h3 (e ▸ hy)) rfl
  have hown2 : ∀ k x u, L[k]? = some x → (us ++ us2)[k]? = some u → RC cx2 w' st'.h (adC d k x) u := by
    intro k x u hk hu
    obtain ⟨u', hu', h1, h2⟩ := hua k x hk
    rw [hu] at hu'
    cases hu'
    rw [Nat.zero_add] at h2
    cases x with
    | p p => exact h2
    | own e rows =>
      have hn := hnw2 k e rows hk
      exact ownR_rc (cx := cx2) h2 (hh2 k e rows hk) (by rw [hι1 _ hn]; simp [hu])
  refine ⟨cx2, hr.step (ef := ⟨adT d r, outB st d b r out dl fz⟩) hd ((adB d 0 L).map (·.1)) (fun x hx => ?_) hA2 (fun x hx => ?_) hkeep (fun x hx hM => ?_) hos htp hou (fun x hx => ?_) (fun x bk hx => ?_) (fun x x' gx qx gx' qx' hx hx' hi hi' hne => ?_) (fun x gx qx hx hi => ?_) ?_ ?_⟩
  · obtain ⟨y, hy⟩ := lkB_in hx
    rw [lk_adB] at hy
    split at hy
    · rename_i h1
      rw [Nat.sub_zero] at hy
      cases hz : L[x.2]? with
      | none => rw [hz] at hy; cases hy
      | some z =>
        rw [hz] at hy
        cases z with
        | p p => cases hy
        | own e rows =>
          have := hfresh x.2 e rows hz
          obtain ⟨b1, b2⟩ := x
          simp only at h1
          rw [← h1.1] at this
          exact this
    · cases hy
  · rcases hA2' x hx with h | h | ⟨y, hy, hyl, q, hq⟩
    · exact .inl h
    · exact .inr ⟨h.2, .inl (Nat.le_trans hr.sz h.1)⟩
    · obtain ⟨h1, h2⟩ := hr.own y x q hyl hq
      exact .inr ⟨Nat.lt_of_lt_of_le h1 hsz, h2⟩
  · refine hkept x (Nat.lt_of_lt_of_le hx hr.sz) (fun e => ?_) (fun y hy q' hq => ?_)
    · subst e
      rcases (hr.own b x q hbl hι).2 with h | h
      · omega
      · exact hM h
    · rcases (hr.own y x q' (hdll y hy) hq).2 with h | h
      · omega
      · exact hM h
  · have hb' : nw x = false := by
      cases h : nw x with
      | false => rfl
      | true =>
        obtain ⟨n, e, rows, rfl, h1⟩ := hnw x h
        exfalso
        refine hx ?_
        have := lk_adB d L 0 (d, n)
        rw [if_pos ⟨rfl, Nat.zero_le _⟩, Nat.sub_zero, h1] at this
        exact List.mem_map.2 ⟨_, lkB_mem this, rfl⟩
    intro bk' hbk
    by_cases h1 : x = b
    · subst h1
      rw [hhb] at hbk
      cases hbk
      refine ⟨_, hb, rfl, Nat.le_refl _, hι2 x hb', fun gx qx c el fz' h4 h5 => ?_⟩
      rw [hι] at h4
      cases h4
      exact ⟨_, _, _, hcc, fun h => by simp [Bk.e] at h⟩
    · obtain ⟨hl1, hl2⟩ := hold x hb' (by rw [show (Ef.ap ⟨adT d r, outB st d b r out dl fz⟩ o st).h x = some bk' from hbk]; simp)
      have hbk2 : st'.h x = some bk' := hbk
      rw [hh1 x hb', if_neg h1, if_neg hl2] at hbk2
      have hex : ∃ bk, st.h x = some bk ∧ bk.e = bk'.e ∧ bk.len ≤ bk'.len := by
        split at hbk2
        · rename_i hf
          obtain ⟨⟨e, rows, mu, h1⟩, _⟩ := hfz x hf
          rw [h1] at hbk2 ⊢
          cases hbk2
          exact ⟨_, rfl, rfl, Nat.le_refl _⟩
        · exact ⟨bk', hbk2, rfl, Nat.le_refl _⟩
      obtain ⟨bk, h3, h4, h5⟩ := hex
      refine ⟨bk, h3, h4, h5, hι2 x hb', fun gx qx c el fz' h6 h7 => ⟨c, el, fz', ?_, fun _ => rfl⟩⟩
      rw [hstay x gx qx hl1 h1 hl2 h6]; exact h7
  · have hx0 : st'.h x = some bk := hx
    cases hb' : nw x with
    | true =>
      obtain ⟨n, e, rows, rfl, h1⟩ := hnw x hb'
      rw [hh2 n e rows h1] at hx0
      cases hx0
      obtain ⟨u, hu, h2, h3⟩ := hua n _ h1
      refine .inr (ownR_rb (cx := cx2) (go := gs2 n) (u := u) ?_ ?_)
      · rw [Nat.zero_add] at h3; exact h3
      · rw [hι1 _ hb']; simp [hu]
    | false =>
      by_cases h1 : x = b
      · subst h1
        rw [hhb] at hx0
        cases hx0
        refine .inr ⟨g, q, cc, cel, by rw [hι2 x hb', hι], hcc, hnA, by rw [adCs_len]; exact hccs, fun k y hk => ?_⟩
        rw [adCs_at, Option.map_eq_some_iff] at hk
        obtain ⟨z, hz, rfl⟩ := hk
        have hLk : L[(flatR r).length + k]? = some z := by
          rw [← hL, List.getElem?_append_right (by omega)]
          rw [show (flatR r).length + k - (flatR r).length = k by omega]; exact hz
        obtain ⟨u, hu, h2, h3⟩ := hua _ z hLk
        have hu2 : cc[q + k]? = some u := by
          have hu3 := hu
          rw [List.getElem?_append_right (by omega), hul1, show (flatR r).length + k - (flatR r).length = k by omega, hus2, List.getElem?_take] at hu3
          split at hu3
          · rw [List.getElem?_drop, Array.getElem?_toList] at hu3; exact hu3
          · cases hu3
        exact ⟨u, hu2, h2, hown2 _ z u hLk hu⟩
      · obtain ⟨hl1, hl2⟩ := hold x hb' (by rw [hx0]; simp)
        have hx1 := hx0
        rw [hh1 x hb', if_neg h1, if_neg hl2] at hx1
        split at hx1
        · rename_i hf
          obtain ⟨⟨e, rows, mu, h3⟩, h4⟩ := hfz x hf
          rw [h3] at hx1
          cases hx1
          right
          obtain ⟨h5, h6, h7⟩ := hr.bl x _ h3
          refine ⟨h5, h6, ?_⟩
          rw [hι2 x hb']
          revert h7
          cases hi : cx.ι x with
          | none => exact id
          | some y =>
            obtain ⟨gx, qx⟩ := y
            rintro ⟨rfl, c, el, fz', capR, h8, h9, h10, h11, h12, h13, h14⟩
            exact ⟨rfl, c, el, fz', capR, by rw [hstay x gx 0 hl1 h1 hl2 hi]; exact h8, (fun h => by cases h), fun _ => h4 gx 0 hi, h11, h12, h13, fun i r k p hi hk => let ⟨cv, hcv, hp⟩ := h14 i r k p hi hk; ⟨cv, hcv, hp.keeps hA2 hkeep⟩⟩
        · rename_i hf
          refine .inl ⟨?_, hx1, hι2 x hb', fun gx qx hi => ?_⟩
          · intro hm
            obtain ⟨y, hy⟩ := lkB_in hm
            rw [lk_adB] at hy
            split at hy
            · rename_i h1
              rw [Nat.sub_zero] at hy
              simp only [nw] at hb'
              rw [if_pos h1.1] at hb'
              revert hb' hy
              generalize L[x.2]? = z
              intro hb' hy
              match z, hb', hy with
              | none, _, hy => cases hy
              | some (.p _), _, hy => cases hy
              | some (.own _ _), hb', _ => cases hb'
            · cases hy
          · refine ⟨hstay x gx qx hl1 h1 hl2 hi, fun hnA hA => ?_⟩
            rcases hA2' gx hA with h | h | ⟨y, hy, hyl, q2, hq2⟩
            · exact hnA h
            · have := (hr.own x gx qx hl1 hi).1
              omega
            · refine hr.inj x y gx qx gx q2 hl1 hyl hi hq2 ?_ rfl
              rintro rfl
              rcases List.mem_append.1 hy with hy | hy
              · exact hf hy
              · exact hl2 hy
  · have hmix : ∀ x x' gx qx gx' qx', nw x = true → nw x' = false → st'.h x' ≠ none → cx2.ι x = some (gx, qx) → cx2.ι x' = some (gx', qx') → gx ≠ gx' := by
      intro x x' gx qx gx' qx' h1 h2 h3 h4 h5 e
      subst e
      obtain ⟨h6, h7, h8⟩ := hgs _ _ (hnew x gx qx h1 h4)
      obtain ⟨hl1, hl2⟩ := hold x' h2 h3
      rw [hι2 x' h2] at h5
      rcases h8 with h8 | ⟨y, hy, q', hq⟩
      · have := (hr.own x' gx qx' hl1 h5).1
        omega
      · refine hr.inj x' y gx qx' gx q' hl1 (hdll y hy) h5 hq ?_ rfl
        rintro rfl
        exact hl2 hy
    cases h1 : nw x <;> cases h2 : nw x'
    · rw [hι2 x h1] at hi
      rw [hι2 x' h2] at hi'
      exact hr.inj x x' gx qx gx' qx' (hold x h1 hx).1 (hold x' h2 hx').1 hi hi' hne
    · exact fun e => hmix x' x gx' qx' gx qx h2 h1 hx hi' hi e.symm
    · exact hmix x x' gx qx gx' qx' h1 h2 hx' hi hi'
    · have e1 := hnew x gx qx h1 hi
      have e2 := hnew x' gx' qx' h2 hi'
      obtain ⟨n, e, rows, rfl, _⟩ := hnw x h1
      obtain ⟨n', e', rows', rfl, _⟩ := hnw x' h2
      rintro rfl
      have := hinj n n' gx e1 e2
      exact hne (by rw [this])
  · cases h1 : nw x with
    | true =>
      obtain ⟨h5, h6, h7⟩ := hgs _ _ (hnew x gx qx h1 hi)
      refine ⟨h5, ?_⟩
      rcases h7 with h7 | ⟨y, hy, q', hq⟩
      · exact .inl (Nat.le_trans hr.sz h7)
      · exact (hr.own y gx q' (hdll y hy) hq).2
    | false =>
      rw [hι2 x h1] at hi
      obtain ⟨h3, h4⟩ := hr.own x gx qx (hold x h1 hx).1 hi
      exact ⟨Nat.lt_of_lt_of_le h3 hsz, h4⟩
  · refine hrt cx2 _ (fun k x u hk hu => ?_)
    have hkl := (List.getElem?_eq_some_iff.1 hk).1
    exact hown2 k x u (by rw [← hL, List.getElem?_append_left hkl]; exact hk) (by rw [List.getElem?_append_left (by omega)]; exact hu)
  · refine hι2 pinB ?_
    cases h : nw pinB with
    | false => rfl
    | true =>
      obtain ⟨n, e, rows, h1, _⟩ := hnw pinB h
      have := hr.hN
      simp only [pinB, Prod.mk.injEq] at h1
      omega
theorem toCs_agree {st' : St} {cs : List CV} {xs : List RV} {os : List (Option Bid)} {bs : List Bid} (h : ToCs st cs xs os bs) (hb : ∀ b ∈ os.filterMap id ++ bs, st'.h b = st.h b) : ToCs st' cs xs os bs := by
  induction h with
  | nil => exact .nil
  | @cons c x o b cs xs os bs h hs ih =>
    refine .cons ?_ (ih fun x hx => hb x ?_)
    · cases h with
      | p x => exact .p x
      | nil e => exact .nil e
      | nilo e he => exact .nilo e he
      | own h1 h2 => exact .own (by rw [hb _ (by simp)]; exact h1) h2
      | fr h1 h2 => exact .fr (by rw [hb _ (by simp)]; exact h1) h2
    · cases o with
      | none => simp only [List.mem_append] at hx ⊢; rcases hx with hx | hx; exact .inl hx; exact .inr (.inr hx)
      | some o => simp only [List.filterMap_cons, id, List.mem_append, List.mem_cons] at hx ⊢; rcases hx with hx | hx; exact .inl (.inr hx); exact .inr (.inr hx)
theorem mem_dl {os : List (Option Bid)} {b : Bid} (h : b ∈ os.filterMap id) : some b ∈ os := by
  obtain ⟨y, h1, h2⟩ := List.mem_filterMap.1 h
  rw [show y = some b from h2] at h1
  exact h1
/-- A call whose first argument points to a variable of one's own. -/
theorem opL_callr {f : FuncId} {xs : Array Operand} {x0 : Operand} {xr : List Operand} {tys : Array TypeId} {avs : List AV} {r : List RS} {out rvs : List RV} {b : Bid} {cs : List CV} {os : List (Option Bid)} {bs1 bs2 ids : List Bid} {bl : List (Bid × Option Bk)} {t : TV}
    (hcon : Contract P f (.ref rvs :: avs) r out) (hn : avs.any AV.isRef = false) (hxs : xs.toList = x0 :: xr) (hok : xs.toList.all okC = true) (h0 : st.ev x0 = .c (.ptr b 0 0)) (hb : st.h b = some (.box cs)) (hcs : ToCs st cs rvs os bs1) (hargs : ToAs st (xr.map st.ev) avs bs2)
    (hnod : nodO os = true) (hdis : disB (os.filterMap id) (bs1 ++ bs2) = true) (hids : (adB d 0 (flatR r ++ out)).map (·.1) = ids) (hbl : outB st d b r out (os.filterMap id) (bs1 ++ bs2) = bl) (ht : adT d r = t) :
    OpL E N P ops ⟨some d, .call { callee := .value (.func f), args := xs, argTypes := tys }, ty, pos, af, gd⟩ st ⟨b :: (os.filterMap id ++ (bs1 ++ bs2)), ids⟩ ⟨t, bl⟩ := by
  subst hids
  subst hbl
  subst ht
  intro st' ha hf hd cx a w Q hr
  have hbe : ∀ x ∈ os.filterMap id ++ (bs1 ++ bs2), st'.h x = st.h x := fun x hx => ha.2 x (List.mem_cons_of_mem _ hx)
  have hb' : st'.h b = some (.box cs) := by rw [ha.2 b List.mem_cons_self]; exact hb
  have hcs' : ToCs st' cs rvs os bs1 := toCs_agree hcs fun x hx => hbe x (by
    rcases List.mem_append.1 hx with h | h
    · exact List.mem_append_left _ h
    · exact List.mem_append_right _ (List.mem_append_left _ h))
  have hargs' := toAs_agree hargs (st' := st') fun x hx => hbe x (List.mem_append_right _ (List.mem_append_right _ hx))
  have hCs : ∀ {cs xs os bs}, ToCs st' cs xs os bs → ∀ b ∈ bs, ∃ e rows mu, st'.h b = some (.row e rows mu) := by
    intro cs xs os bs h
    induction h with
    | nil => simp
    | cons h hs ih =>
      intro b hb
      rcases List.mem_append.1 hb with hb | hb
      · exact toC_live h b hb
      · exact ih b hb
  have hlive : ∀ x ∈ bs1 ++ bs2, ∃ e rows mu, st'.h x = some (.row e rows mu) := fun x hx => by
    rcases List.mem_append.1 hx with h | h
    · exact hCs hcs' x h
    · exact toAs_live hargs' x h
  have hdl : ∀ x ∈ os.filterMap id, ∃ e rows, st'.h x = some (.row e rows true) := fun x hx => (toCs_live2 hcs').2 x (mem_dl hx)
  have hdis' := disB_spec hdis
  have hnod' := nodO_spec hnod
  have hbn : ∀ x ∈ bs1 ++ bs2, st'.h x ≠ none := fun x hx => by obtain ⟨_, _, _, h⟩ := hlive x hx; rw [h]; simp
  have hdn : ∀ x ∈ os.filterMap id, st'.h x ≠ none := fun x hx => by obtain ⟨_, _, h⟩ := hdl x hx; rw [h]; simp
  have hbne : st'.h b ≠ none := by rw [hb']; simp
  obtain ⟨g, q, c, el, hι, hgc, hgA, hgl, hgat⟩ := hr.bl b _ hb'
  let A2 : Nat → Prop := fun x => cx.A x ∨ ∃ y ∈ bs1 ++ bs2, st'.h y ≠ none ∧ ∃ q, cx.ι y = some (x, q)
  let gs : Nat → Option Nat := fun n => goOf cx ((os[n]?).getD none)
  have hgs : ∀ n x, gs n = some x → ∃ y q, os[n]? = some (some y) ∧ cx.ι y = some (x, q) := by
    intro n x hx
    simp only [gs] at hx
    cases ho : os[n]? with
    | none => rw [ho] at hx; cases hx
    | some o =>
      rw [ho] at hx
      cases o with
      | none => cases hx
      | some y =>
        simp only [goOf, Option.getD_some, Option.bind_some, Option.map_eq_some_iff] at hx
        obtain ⟨⟨x', q⟩, h8, rfl⟩ := hx
        exact ⟨y, q, rfl, h8⟩
  have hod : ∀ {n : Nat} {y : Bid}, os[n]? = some (some y) → y ∈ os.filterMap id := fun h => List.mem_filterMap.2 ⟨some _, List.mem_of_getElem? h, rfl⟩
  have hmut : ∀ y, y ∈ os.filterMap id → ∀ g q, cx.ι y = some (g, q) → ¬ A2 g := by
    intro y hy g q hg
    obtain ⟨e1, rows, hbk⟩ := hdl y hy
    obtain ⟨_, _, h8⟩ := hr.bl y _ hbk
    rw [hg] at h8
    obtain ⟨_, c, el, fz, capR, _, h9, _⟩ := h8
    rintro (h | ⟨z, hz, hzl, q2, hq2⟩)
    · exact (h9 rfl).2 h
    · refine hr.inj y z g q g q2 (hdn y hy) hzl hg hq2 ?_ rfl
      rintro rfl
      exact hdis' y hy hz
  have hnbx : ∀ y e rows mu, st'.h y = some (.row e rows mu) → y ≠ b := fun y e rows mu h e' => by subst e'; rw [hb'] at h; cases h
  have hgA2 : ¬ A2 g := by
    rintro (h | ⟨z, hz, hzl, q2, hq2⟩)
    · exact hgA h
    · obtain ⟨_, _, _, h⟩ := hlive z hz
      exact hr.inj z b g q2 g q hzl hbne hq2 hι (hnbx z _ _ _ h) rfl
  have hcl := toCs_len hcs'
  have hAsz : ∀ x, A2 x → x < w.heap.size := by
    rintro x (h | ⟨y, hy, hyl, q, hq⟩)
    · exact (hr.A x h).1
    · exact (hr.own y x q hyl hq).1
  have hev : ∀ x ∈ xs.toList, RT cx w st'.h (st.ev x) (a.eval x) := by
    intro x hx
    rw [← ev_agree ha (x := x) (by simp only [Op.operands, Call.operands]; simp at hx ⊢; exact .inr hx)]
    exact hr.ev (List.all_eq_true.1 hok x hx)
  have hAs : AsR w A2 gs g q (.ref rvs :: avs) (xs.map a.eval).toList := by
    rw [Array.toList_map, hxs, List.map_cons]
    refine ⟨⟨?_, c, el, hgc, hgA2, by rw [← hcl.1]; exact hgl, ?_⟩, ?_⟩
    · have h1 := hev x0 (by rw [hxs]; exact List.mem_cons_self)
      rw [h0] at h1
      obtain ⟨g', o', h2, h3⟩ := h1.2 _ hb'
      rw [hι] at h2
      cases h2
      rw [h3]
      simp
    · refine toCs_rel hr (fun x hx => .inl hx) hcs' (n := 0) (fun y hy g q hg => .inr ⟨y, List.mem_append_left _ hy, hbn y (List.mem_append_left _ hy), q, hg⟩) (fun y hy g q hg => hmut y (List.mem_filterMap.2 ⟨_, hy, rfl⟩) g q hg) (fun k o hk => by simp only [gs, Nat.zero_add, hk]; rfl) ?_ (fun i x hi => ?_)
      · simp only [List.length_take, List.length_drop, Array.length_toList]; omega
      · obtain ⟨cv, h13, h14, h15⟩ := hgat i x hi
        have hil := (List.getElem?_eq_some_iff.1 hi).1
        exact ⟨cv, by rw [List.getElem?_take, if_pos (by omega), List.getElem?_drop, Array.getElem?_toList]; exact h13, h14, h15⟩
    · refine toAs_rel hr (fun x hx => .inl hx) hargs' (fun y hy g q hg => .inr ⟨y, List.mem_append_right _ hy, hbn y (List.mem_append_right _ hy), q, hg⟩) (by simp) (fun i t hi => ?_)
      rw [List.getElem?_map, Option.map_eq_some_iff] at hi
      obtain ⟨x, hx, rfl⟩ := hi
      exact ⟨a.eval x, by rw [List.getElem?_map, hx]; rfl, hev x (by rw [hxs]; exact List.mem_cons_of_mem _ (List.mem_of_getElem? hx))⟩
  unfold Oper.wp
  rw [run_call hcon.ent, Oper.upon_enter]
  have hrf : (AV.ref rvs :: avs).any AV.isRef = true := rfl
  refine (hcon.run A2 gs g q w (xs.map a.eval) hAsz ?_ ?_ (fun h => by rw [hrf] at h; cases h) hAs).mono ?_
  · intro n m x hx hy
    obtain ⟨b1, q1, h1, h2⟩ := hgs n x hx
    obtain ⟨b2, q2, h3, h4⟩ := hgs m x hy
    by_cases hbb : b1 = b2
    · subst hbb; exact hnod' n m b1 h1 h3
    · exact absurd rfl (hr.inj b1 b2 x q1 x q2 (hdn _ (hod h1)) (hdn _ (hod h3)) h2 h4 hbb)
  · intro n x hx
    obtain ⟨y, q1, h1, h2⟩ := hgs n x hx
    obtain ⟨_, _, h3⟩ := hdl y (hod h1)
    exact ⟨(hr.own y x q1 (hdn _ (hod h1)) h2).1, hr.inj y b x q1 g q (hdn _ (hod h1)) hbne h2 hι (hnbx y _ _ _ h3)⟩
  rintro e w' ⟨v, A', gs', rfl, h1, h2, h3, h4, h5, h6, h7, h8, h9, h10, h11⟩
  obtain ⟨h12, c', el', h13, h14, h15⟩ := h11 hrf
  obtain ⟨us, hus, hrt⟩ := val_flat (d := d) h10
  show ∃ cx', _
  have hfl : outB st d b r out (os.filterMap id) (bs1 ++ bs2) = outB st' d b r out (os.filterMap id) (bs1 ++ bs2) := by
    unfold outB
    rw [show frzL st (bs1 ++ bs2) = frzL st' (bs1 ++ bs2) from List.map_congr_left fun x hx => by rw [hbe x (List.mem_append_right _ hx)]]
  rw [hfl]
  refine callr_core hr hd (hd d rfl) (fz := bs1 ++ bs2) (dl := os.filterMap id) (gs2 := gs') (us := us) (A2 := A') hb' hι (fun n e rows hx => hf (d, n) ?_) (fun x hx => h1 x (.inl hx)) (fun x hx => ?_) (fun y hy => ⟨hlive y hy, fun g q hg => h1 g (.inr ⟨y, hy, hbn y hy, q, hg⟩)⟩) hdis' hdl h3
    (fun x hx hxg hxd => h4 x hx hxg (fun n h => ?_)) h5 h6 h7 h8 (fun n x hx => ?_) hus ⟨h12, c', el', h13, h14, rfl⟩ h15 hrt
  · have := lk_adB d (flatR r ++ out) 0 (d, n)
    rw [if_pos ⟨rfl, Nat.zero_le _⟩, Nat.sub_zero, hx] at this
    exact List.mem_map.2 ⟨_, lkB_mem this, rfl⟩
  · rcases h2 x hx with (h | ⟨y, hy, hyl, q, hq⟩) | ⟨h, h' | ⟨n, h'⟩⟩
    · exact .inl h
    · exact .inr (.inr ⟨y, List.mem_append_left _ hy, hyl, q, hq⟩)
    · exact .inr (.inl ⟨h', h⟩)
    · obtain ⟨y, q', h16, h17⟩ := hgs n x h'
      exact .inr (.inr ⟨y, List.mem_append_right _ (hod h16), hdn _ (hod h16), q', h17⟩)
  · obtain ⟨y, q', h16, h17⟩ := hgs n x h
    exact hxd y (hod h16) q' h17
  · obtain ⟨h16, h17, h18 | ⟨m, h18⟩⟩ := h9 n x hx
    · exact ⟨h16, h17 hrf, .inl h18⟩
    · obtain ⟨y, q', h19, h20⟩ := hgs m x h18
      exact ⟨h16, h17 hrf, .inr ⟨y, hod h19, q', h20⟩⟩
end
end Go.Proofs.Ythlaenafkihjiaa
/- Old contracts, turned into those of abstract worlds. Conditions: those of the rules. -/
namespace Go.Proofs.Ythlaenafkihjiaa
open Go.RowKit
set_option linter.unusedVariables false
set_option linter.unusedSimpArgs false
def pI (n : Int) : PV := .v (.int .i64 n)
def pS (s : ByteArray) : PV := .v (.string s)
def pB (b : Bool) : PV := .v (.bool b)
def pU (n : Int) : PV := .v (.int .u64 n)
section
variable {E : En} {N : Nat} {P : Program} {st : St} {ops : Array Oper} {d : Nat} {ty : Nat} {pos : String} {af : Array Edge} {gd : Option (Nat × Bool)}
theorem opL_move_t {x : Operand} {y : List TV} (hx : st.ev x = .tup y) (hc : okC x = true) : OpL E N P ops ⟨some d, .move x, ty, pos, af, gd⟩ st ⟨[], []⟩ ⟨.tup y, []⟩ := opL_move hc hx
end
section
variable {w w' : World} {P : Program} {A : Nat → Prop} {gs : Nat → Option Nat} {g q : Nat}
theorem ownR_of_old {k : IntKind} {base : Nat} {ty : TypeId} {v : Value} {l : List Int} (h : w.ownsRow base ty 1 v l.length (l.map (.int k))) (hw : ∀ n ∈ l, (Lit.int k n).wf = true) (hA : ∀ x, A x → x < base) : OwnR w A v.ownBlock 1 (iR k l) v := by
  obtain ⟨h1, h2⟩ := h
  refine ⟨by omega, by simp [iR], ?_⟩
  rw [iR_len]
  rcases h2 with ⟨rfl, h2⟩ | ⟨g, cap, cur, rfl, h3, h4, h5, h6, h7, h8⟩
  · rw [h2]
    exact ⟨none, 0, rfl, by omega, by unfold maxLen; omega, .inl rfl⟩
  · refine ⟨_, cap, rfl, h5, h6, .inr ⟨g, cur, ty, rfl, rfl, fun h => ?_, h4, h7, fun i r j p hi hj => ?_⟩⟩
    · have := hA g h; omega
    · simp only [iR, List.getElem?_map, Option.map_eq_some_iff] at hi
      obtain ⟨n, hn, rfl⟩ := hi
      have hil := (List.getElem?_eq_some_iff.1 hn).1
      cases j with
      | succ j => simp at hj
      | zero =>
        rw [List.getElem?_cons_zero] at hj
        cases hj
        have : (cur.toList.take (l.length * 1))[i]? = some (.int k n) := by rw [h8, List.getElem?_map, hn]; rfl
        rw [List.getElem?_take, if_pos (by omega), Array.getElem?_toList] at this
        exact ⟨_, by rw [Nat.mul_one, Nat.add_zero]; exact this, .v _ (by simpa [atomB] using hw n (List.mem_of_getElem? hn))⟩
theorem asR_ints {k : IntKind} {l : List Int} {vs : Array Value} (h : AsR w A gs g q [.c (.l 1 (iR k l))] vs.toList) : ∃ v, vs = #[v] ∧ Ints k w v l := by
  suffices ∃ v, vs.toList = [v] ∧ Ints k w v l by
    obtain ⟨v, h1, h2⟩ := this
    exact ⟨v, by have := congrArg List.toArray h1; simpa using this, h2⟩
  revert h
  generalize vs.toList = l
  intro h
  match l, h with
  | [v], h => exact ⟨v, rfl, ints_of_rp h.1⟩
theorem asR_vints {k : IntKind} {l : List Int} {x : Value} {vs : Array Value} (h : AsR w A gs g q [.c (.v x), .c (.l 1 (iR k l))] vs.toList) : ∃ v, vs = #[x, v] ∧ Ints k w v l := by
  suffices ∃ v, vs.toList = [x, v] ∧ Ints k w v l by
    obtain ⟨v, h1, h2⟩ := this
    exact ⟨v, by have := congrArg List.toArray h1; simpa using this, h2⟩
  revert h
  generalize vs.toList = l
  intro h
  match l, h with
  | [u, v], h =>
    have : u = x := by have := h.1; cases this with | v _ _ => rfl
    subst this
    exact ⟨v, rfl, ints_of_rp h.2.1⟩
theorem no_ref {avs : List AV} {p : Prop} (hn : avs.any AV.isRef = false) : (avs.any AV.isRef) = true → p := fun h => by rw [hn] at h; cases h
theorem gs1_inj {o : Option Nat} : inj1 (fun n => if n = 0 then o else none) := by
  intro n m x hn hm
  by_cases h : n = 0
  · by_cases h' : m = 0
    · omega
    · simp [h'] at hm
  · simp [h] at hn
theorem old_lt {k : IntKind} {base : Nat} {ty : TypeId} {v : Value} {l : List Int} (h : w.ownsRow base ty 1 v l.length (l.map (.int k))) {n x : Nat} (hx : (fun n => if n = 0 then v.ownBlock else none) n = some x) : base ≤ x ∧ x < w.heap.size := by
  by_cases h' : n = 0
  · simp only [h', if_true] at hx
    exact h.lt x hx
  · simp [h'] at hx
/-- One list of its own. -/
theorem contract_own {f : FuncId} {avs : List AV} {k : IntKind} {ty : TypeId} {l : List Int} (he : entB P f = true) (hw : ∀ n ∈ l, (Lit.int k n).wf = true) (hn : avs.any AV.isRef = false)
    (h : ∀ A q w vs, AsR w A (fun _ => none) w.heap.size q avs vs.toList → Calls P f vs w fun e w' => ∃ v, e = .returned v ∧ w'.ownsRow w.heap.size ty 1 v l.length (l.map (.int k)) ∧ w.grownBy w' none) : Contract P f avs [.c (.own 1 (iR k l))] [] := by
  refine ⟨he, fun A gs g q w vs hA hinj hgs hg hR => ?_⟩
  obtain ⟨hg1, rfl⟩ := hg hn
  have e : gs = fun _ => none := funext hg1
  subst e
  refine (h A q w vs hR).mono ?_
  rintro _ w' ⟨v, rfl, ho, hgr⟩
  exact ⟨v, A, fun n => if n = 0 then v.ownBlock else none, rfl, fun _ h => h, fun _ h => .inl h, hgr.size, fun y hy _ _ => hgr.block y hy (by simp), hgr.os, hgr.tape, hgr.output, gs1_inj, fun n y hy => ⟨(old_lt ho hy).2, no_ref hn, .inl (old_lt ho hy).1⟩,
    ⟨by have := ownR_of_old ho hw hA; obtain ⟨_, _, _, _, rfl, _⟩ := this; rfl, ownR_of_old ho hw hA, trivial⟩, no_ref hn⟩
/-- One list of its own, and a value. -/
theorem contract_ownv {f : FuncId} {avs : List AV} {k : IntKind} {ty : TypeId} {l : List Int} {y : Value} (he : entB P f = true) (hw : ∀ n ∈ l, (Lit.int k n).wf = true) (hy : atomB y = true) (hn : avs.any AV.isRef = false)
    (h : ∀ A q w vs, AsR w A (fun _ => none) w.heap.size q avs vs.toList → Calls P f vs w fun e w' => ∃ v, e = .returned (.tuple #[v, y]) ∧ w'.ownsRow w.heap.size ty 1 v l.length (l.map (.int k)) ∧ w.grownBy w' none) : Contract P f avs [.c (.own 1 (iR k l)), .c (.p (.v y))] [] := by
  refine ⟨he, fun A gs g q w vs hA hinj hgs hg hR => ?_⟩
  obtain ⟨hg1, rfl⟩ := hg hn
  have e : gs = fun _ => none := funext hg1
  subst e
  refine (h A q w vs hR).mono ?_
  rintro _ w' ⟨v, rfl, ho, hgr⟩
  exact ⟨_, A, fun n => if n = 0 then v.ownBlock else none, rfl, fun _ h => h, fun _ h => .inl h, hgr.size, fun y hy _ _ => hgr.block y hy (by simp), hgr.os, hgr.tape, hgr.output, gs1_inj, fun n y hy => ⟨(old_lt ho hy).2, no_ref hn, .inl (old_lt ho hy).1⟩,
    ⟨#[v, y], rfl, ⟨by have := ownR_of_old ho hw hA; obtain ⟨_, _, _, _, rfl, _⟩ := this; rfl, ownR_of_old ho hw hA, trivial⟩, ⟨atomB_one hy, .v y hy, trivial⟩, trivial⟩, no_ref hn⟩
/-- Three values. -/
theorem contract_v3 {f : FuncId} {avs : List AV} {x y z : Value} (he : entB P f = true) (hx : atomB x = true) (hy : atomB y = true) (hz : atomB z = true) (hn : avs.any AV.isRef = false)
    (h : ∀ A q w vs, AsR w A (fun _ => none) w.heap.size q avs vs.toList → Calls P f vs w fun e w' => e = .returned (.tuple #[x, y, z]) ∧ w.grownBy w' none) : Contract P f avs [.c (.p (.v x)), .c (.p (.v y)), .c (.p (.v z))] [] := by
  refine ⟨he, fun A gs g q w vs hA hinj hgs hg hR => ?_⟩
  obtain ⟨hg1, rfl⟩ := hg hn
  have e : gs = fun _ => none := funext hg1
  subst e
  refine (h A q w vs hR).mono ?_
  rintro _ w' ⟨rfl, hgr⟩
  exact ⟨_, A, fun _ => none, rfl, fun _ h => h, fun _ h => .inl h, hgr.size, fun y hy _ _ => hgr.block y hy (by simp), hgr.os, hgr.tape, hgr.output, fun n m y h => (by cases h), fun n y h => (by cases h),
    ⟨#[x, y, z], rfl, ⟨atomB_one hx, .v x hx, trivial⟩, ⟨atomB_one hy, .v y hy, trivial⟩, ⟨atomB_one hz, .v z hz, trivial⟩, trivial⟩, no_ref hn⟩
end
section
variable {E : En} {N : Nat} {P : Program} {T : Tb P} {st : St} {ops : Array Oper} {d : Nat} {ty : Nat} {pos : String} {af : Array Edge} {gd : Option (Nat × Bool)}
theorem iR_app (k : IntKind) (l m : List Int) : iR k l ++ iR k m = iR k (l ++ m) := by simp [iR]
/-- append(x, y...) with lists of integers, x one's own, y a block. -/
theorem opL_app_ii {x y : Operand} {t tx el e' : TypeId} {te tt tt' : TE} {k : IntKind} {X Y : List Int} {b c : Bid} {mu : Bool} (hx : st.ev x = .c (.sl b 0 (iR k X).length)) (hcx : okC x = true) (hb : st.h b = some (.row 1 (iR k X) true))
    (ht : lkN T.ty t = some tt) (hk : tt.kd = .slice el) (hel : lkN T.ty el = some te) (hes : te.size = 1) (hz : te.zero.cells.size = 1) (hy : st.ev y = .c (.sl c 0 (iR k Y).length)) (hcy : okC y = true) (hc : st.h c = some (.row 1 (iR k Y) mu)) (ht' : lkN T.ty tx = some tt') (hk' : tt'.kd = .slice e')
    (hlen : (X.length + Y.length) * te.bytes ≤ 140737488355328) (hlen2 : X.length + Y.length ≤ 140737488355328) :
    OpL E N P ops ⟨some d, .call { callee := .builtin .append, args := #[x, y], argTypes := #[t, tx] }, ty, pos, af, gd⟩ st ⟨[b, c], [(d, 0)]⟩ ⟨.c (.sl (d, 0) 0 (iR k (X ++ Y)).length), [((d, 0), some (.row 1 (iR k (X ++ Y)) true)), (b, none)]⟩ := by
  have h := srcR_sl (E := E) (N := N) (P := P) (ops := ops) (T := T) (o := ⟨some d, .call { callee := .builtin .append, args := #[x, y], argTypes := #[t, tx] }, ty, pos, af, gd⟩) (by simp [Op.operands, Call.operands]) hcy hy hc ht' hk'
  rw [List.drop_zero, List.take_length] at h
  exact opL_app_sl hx hcx hb rfl ht hk hel hes hz h (iR_app k X Y) (by simp [iR_len]) (by simp [iR_len]; omega) (by simp [iR_len]; exact hlen)
/-- The same, y a tree. -/
theorem opL_app_il {x y : Operand} {t tx el e' : TypeId} {te tt tt' : TE} {k : IntKind} {X Y : List Int} {b : Bid} (hx : st.ev x = .c (.sl b 0 (iR k X).length)) (hcx : okC x = true) (hb : st.h b = some (.row 1 (iR k X) true))
    (ht : lkN T.ty t = some tt) (hk : tt.kd = .slice el) (hel : lkN T.ty el = some te) (hes : te.size = 1) (hz : te.zero.cells.size = 1) (hy : st.ev y = .c (.p (.l 1 (iR k Y)))) (hcy : okC y = true) (ht' : lkN T.ty tx = some tt') (hk' : tt'.kd = .slice e')
    (hlen : (X.length + Y.length) * te.bytes ≤ 140737488355328) (hlen2 : X.length + Y.length ≤ 140737488355328) :
    OpL E N P ops ⟨some d, .call { callee := .builtin .append, args := #[x, y], argTypes := #[t, tx] }, ty, pos, af, gd⟩ st ⟨[b], [(d, 0)]⟩ ⟨.c (.sl (d, 0) 0 (iR k (X ++ Y)).length), [((d, 0), some (.row 1 (iR k (X ++ Y)) true)), (b, none)]⟩ := by
  have h := srcR_l (E := E) (N := N) (P := P) (ops := ops) (T := T) (o := ⟨some d, .call { callee := .builtin .append, args := #[x, y], argTypes := #[t, tx] }, ty, pos, af, gd⟩) (by simp [Op.operands, Call.operands]) hcy hy (by omega) ht' hk'
  exact opL_app_sl hx hcx hb rfl ht hk hel hes hz h (iR_app k X Y) (by simp [iR_len]) (by simp [iR_len]; omega) (by simp [iR_len]; exact hlen)
/-- Stores into a variable. -/
theorem opL_st_c {x y : Operand} {t : TypeId} {te : TE} {b : Bid} {k : Nat} {all all' : List CV} {v : CV} {dst : Option Nat} (hx : st.ev x = .c (.ptr b 0 k)) (hb : st.h b = some (.box all)) (hv : st.ev y = .c v) (hk : TV.known (.c v) = true) (ht : lkN T.ty t = some te) (hsz : 1 = te.size) (hin : Nat.ble (k + 1) all.length = true)
    (hall : setAt all k [v] = all') (hcx : okC x = true) (hcy : okC y = true) : OpL E N P ops ⟨dst, .store t x y, ty, pos, af, gd⟩ st ⟨[b], []⟩ ⟨.c .any, [(b, some (.box all'))]⟩ := opL_store_box_c hx hb hv hk ht hsz (Nat.le_of_ble_eq_true hin) hall hcx hcy
theorem opL_st_a {x y : Operand} {t : TypeId} {te : TE} {b : Bid} {k : Nat} {all all' cs : List CV} {dst : Option Nat} (hx : st.ev x = .c (.ptr b 0 k)) (hb : st.h b = some (.box all)) (hv : st.ev y = .agg cs) (ht : lkN T.ty t = some te) (hsz : cs.length = te.size) (hin : Nat.ble (k + cs.length) all.length = true)
    (hall : setAt all k cs = all') (hcx : okC x = true) (hcy : okC y = true) : OpL E N P ops ⟨dst, .store t x y, ty, pos, af, gd⟩ st ⟨[b], []⟩ ⟨.c .any, [(b, some (.box all'))]⟩ := opL_store_box_a hx hb hv ht hsz (Nat.le_of_ble_eq_true hin) hall hcx hcy
end
end Go.Proofs.Ythlaenafkihjiaa
/- Operations over abstract worlds, fifth part: literals. Conditions: those of the operations. -/
namespace Go.Proofs.Ythlaenafkihjiaa
open Go.RowKit
set_option linter.unusedVariables false
set_option linter.unusedSimpArgs false
/-- A literal's cells: its parts, set one after another. -/
def fillC (pl : Nat → Option (Nat × Nat)) : List CV → List (Nat × TV) → Option (List CV)
  | cs, [] => some cs
  | cs, (i, t) :: r => match pl i with
    | none => none
    | some (off, size) => match Nat.beq t.cells.length size && Nat.ble (off + t.cells.length) cs.length && t.known with
      | true => fillC pl (setAt cs off t.cells) r
      | false => none
def plOf (tb : List (Nat × TE)) : List (Nat × Nat) → Option (List (Nat × Nat))
  | [] => some []
  | (o, t) :: r => match lkN tb t with
    | none => none
    | some te => match plOf tb r with
      | none => none
      | some l => some ((o, te.size) :: l)
section
variable {E : En} {N : Nat} {P : Program} {T : Tb P} {ops : Array Oper} {o : Oper} {st : St} {d : Nat} {ty : Nat} {pos : String} {af : Array Edge} {gd : Option (Nat × Bool)} {cx : Cx} {a : Act} {w w' : World}
theorem plOf_eq : ∀ {fs : List (Nat × Nat)} {pl : List (Nat × Nat)} (F : List Field), plOf T.ty fs = some pl → F.map (fun f => (f.offset, f.type)) = fs → F.mapM (fun f => (P.info? f.type).map fun i => (f.offset, i.size)) = some pl
  | [], pl, F, h, hF => by
    have : F = [] := by simpa using hF
    subst this
    simp only [plOf, Option.some.injEq] at h
    subst h; rfl
  | (o, t) :: fs, pl, F, h, hF => by
    cases F with
    | nil => simp at hF
    | cons f F =>
      simp only [List.map_cons, List.cons.injEq, Prod.mk.injEq] at hF
      obtain ⟨⟨rfl, rfl⟩, hF⟩ := hF
      simp only [plOf] at h
      cases ht : lkN T.ty f.type with
      | none => rw [ht] at h; cases h
      | some te =>
        rw [ht] at h
        simp only at h
        cases hp : plOf T.ty fs with
        | none => rw [hp] at h; cases h
        | some l =>
          rw [hp] at h
          cases h
          have ih := plOf_eq F hp hF
          obtain ⟨dd, i, h1, h2, h3, h4, h5, h6⟩ := te_inv (T.ok _ _ ht)
          simp only [List.mapM_cons, ih, h2, Option.map_some, h4]
          rfl
theorem fill_rel {h : Bid → Option Bk} {pl : Nat → Option (Nat × Nat)} : ∀ {ps : List (Nat × TV)} {vs : List (Nat × Value)} {cs cs' : List CV} {cells : Array Value}, fillC pl cs ps = some cs' → RL cx w h cs cells → vs.length = ps.length →
    (∀ (k i : Nat) (t : TV), ps[k]? = some (i, t) → ∃ v, vs[k]? = some (i, v) ∧ RT cx w h t v) → ∃ cells', Instr.fill pl cells vs = some cells' ∧ RL cx w h cs' cells' := by
  intro ps
  induction ps with
  | nil =>
    intro vs cs cs' cells h1 h2 h3 h4
    have : vs = [] := List.eq_nil_of_length_eq_zero (by simpa using h3)
    subst this
    cases h1
    exact ⟨cells, rfl, h2⟩
  | cons p ps ih =>
    intro vs cs cs' cells h1 h2 h3 h4
    obtain ⟨i, t⟩ := p
    obtain ⟨v, hv, hrt⟩ := h4 0 i t rfl
    cases vs with
    | nil => simp at h3
    | cons v0 vs =>
      rw [List.getElem?_cons_zero] at hv
      cases hv
      simp only [fillC] at h1
      cases hp : pl i with
      | none => rw [hp] at h1; cases h1
      | some y =>
        obtain ⟨off, size⟩ := y
        rw [hp] at h1
        simp only at h1
        split at h1
        case h_2 => cases h1
        rename_i hc
        simp only [Bool.and_eq_true] at hc
        obtain ⟨⟨hc1, hc2⟩, hc3⟩ := hc
        have hc1 := Nat.eq_of_beq_eq_true hc1
        have hc2 := Nat.le_of_ble_eq_true hc2
        have hrl := cells_of hc3 hrt
        have hsz : v.cells.size = t.cells.length := hrl.1
        obtain ⟨g1, g2⟩ := Great.foldl_set off v.cells.toList 0 cells
        have hstep : RL cx w h (setAt cs off t.cells) ((v.cells.toList.zipIdx 0).foldl (fun cs (x : Value × Nat) => cs.setIfInBounds (off + x.2) x.1) cells) := by
          refine ⟨by rw [g1, setAt_len _ _ _ hc2]; exact h2.1, fun k c hk => ?_⟩
          rw [setAt_at _ _ _ hc2] at hk
          rw [g2 k, Nat.add_zero, Array.length_toList, hsz]
          have hcsz := h2.1
          by_cases hkk : k < off ∨ off + t.cells.length ≤ k
          · rw [if_pos hkk] at hk
            rw [if_neg (by omega)]
            exact h2.2 k c hk
          · rw [if_neg hkk] at hk
            rw [if_pos (by omega), Array.getElem?_toList]
            exact hrl.2 _ c hk
        obtain ⟨cells', h5, h6⟩ := ih h1 hstep (by simpa using h3) (fun k i t hk => h4 (k + 1) i t (by simpa using hk))
        refine ⟨cells', ?_, h6⟩
        unfold Instr.fill
        simp only [hp]
        rw [if_neg (by simp [hsz, hc1]; have := h2.1; omega)]
        rw [← h5]
        congr 1
        rw [← Array.foldl_toList, Array.toList_zipIdx]
theorem parts_rel {rb : List Bid} {parts : Array (Nat × Operand)} {st' : St} (hr : Rel E N cx st' a w) (ha : Agree ops o ⟨rb, []⟩ st st') (hm : ∀ x ∈ parts.toList, x.2 ∈ o.op.operands.toList) (hok : parts.toList.all (fun x => okC x.2) = true) :
    ∀ (k i : Nat) (t : TV), (parts.toList.map fun x => (x.1, st.ev x.2))[k]? = some (i, t) → ∃ v, (parts.map fun (i, x) => (i, a.eval x)).toList[k]? = some (i, v) ∧ RT cx w st'.h t v := by
  intro k i t hk
  rw [List.getElem?_map, Option.map_eq_some_iff] at hk
  obtain ⟨⟨j, x⟩, hx, hxe⟩ := hk
  simp only [Prod.mk.injEq] at hxe
  obtain ⟨rfl, rfl⟩ := hxe
  have hmem := List.mem_of_getElem? hx
  refine ⟨a.eval x, by rw [Array.toList_map, List.getElem?_map, hx]; rfl, ?_⟩
  have h1 := hr.ev (x := x) (List.all_eq_true.1 hok _ hmem)
  rw [ev_agree ha (hm _ hmem)] at h1
  exact h1
theorem atoms_rl {h : Bid → Option Bk} {zs : List Value} {z : Value} (hz : z.cells.toList = zs) (hat : zs.all atomB = true) : RL cx w h (zs.map fun v => .p (.v v)) z.cells := by
  subst hz
  refine ⟨by simp, fun i c hi => ?_⟩
  rw [List.getElem?_map, Option.map_eq_some_iff] at hi
  obtain ⟨v, hv, rfl⟩ := hi
  have hat' := List.all_eq_true.1 hat v (List.mem_of_getElem? hv)
  exact ⟨v, by simpa using hv, atomB_one hat', .v v hat'⟩
/-- A struct's literal. -/
theorem opL_build_s {parts : Array (Nat × Operand)} {t : Nat} {tt : TE} {fs pl : List (Nat × Nat)} {zs : List Value} {cs : List CV} (ht : lkN T.ty t = some tt) (hk : tt.kd = .struct fs) (hpl : plOf T.ty fs = some pl) (hz : tt.zero.cells.toList = zs) (hat : zs.all atomB = true)
    (hf : fillC (fun i => pl[i]?) (zs.map fun v => .p (.v v)) (parts.toList.map fun x => (x.1, st.ev x.2)) = some cs) (hok : parts.toList.all (fun x => okC x.2) = true) :
    OpL E N P ops ⟨some d, .build t parts, ty, pos, af, gd⟩ st ⟨[], []⟩ ⟨.agg cs, []⟩ :=
  opL_pure fun st' cx a w ha hr => by
    obtain ⟨F, hu, hF⟩ := kd_struct ht hk
    obtain ⟨dd, i, h1, h2, h3, h4, h5, h6⟩ := te_inv (T.ok _ _ ht)
    have hm : ∀ x ∈ parts.toList, x.2 ∈ (Op.build t parts).operands.toList := fun x hx => by
      simp only [Op.operands, Array.toList_map, List.mem_map]; exact ⟨x, hx, rfl⟩
    obtain ⟨cells', h7, h8⟩ := fill_rel (cx := cx) (w := w) (h := st'.h) hf (atoms_rl hz hat) (vs := (parts.map fun (i, x) => (i, a.eval x)).toList) (by simp) (parts_rel hr ha (fun x hx => hm x hx) hok)
    refine ⟨.agg cells', ?_, cells', rfl, h8⟩
    simp only [execOp, Sem.run_bind]
    rw [run_build w t _ cells' (by
      unfold Program.built
      rw [h2, hu]
      simp only [h6, plOf_eq F.toList hpl hF]
      simpa using h7)]
    rfl
/-- An array's literal. -/
theorem opL_build_a {parts : Array (Nat × Operand)} {t n e : Nat} {tt te : TE} {zs : List Value} {cs : List CV} (ht : lkN T.ty t = some tt) (hk : tt.kd = .array n e) (hel : lkN T.ty e = some te) (hz : tt.zero.cells.toList = zs) (hat : zs.all atomB = true)
    (hf : fillC (fun i => some (i * te.size, te.size)) (zs.map fun v => .p (.v v)) (parts.toList.map fun x => (x.1, st.ev x.2)) = some cs) (hok : parts.toList.all (fun x => okC x.2) = true) :
    OpL E N P ops ⟨some d, .build t parts, ty, pos, af, gd⟩ st ⟨[], []⟩ ⟨.agg cs, []⟩ :=
  opL_pure fun st' cx a w ha hr => by
    have hu := kd_array ht hk
    obtain ⟨dd, i, h1, h2, h3, h4, h5, h6⟩ := te_inv (T.ok _ _ ht)
    obtain ⟨dd', i', h1', h2', h3', h4', h5', h6'⟩ := te_inv (T.ok _ _ hel)
    have hm : ∀ x ∈ parts.toList, x.2 ∈ (Op.build t parts).operands.toList := fun x hx => by
      simp only [Op.operands, Array.toList_map, List.mem_map]; exact ⟨x, hx, rfl⟩
    obtain ⟨cells', h7, h8⟩ := fill_rel (cx := cx) (w := w) (h := st'.h) hf (atoms_rl hz hat) (vs := (parts.map fun (i, x) => (i, a.eval x)).toList) (by simp) (parts_rel hr ha (fun x hx => hm x hx) hok)
    refine ⟨.agg cells', ?_, cells', rfl, h8⟩
    simp only [execOp, Sem.run_bind]
    rw [run_build w t _ cells' (by
      unfold Program.built
      rw [h2, hu]
      simp only [h6, h2', h4']
      exact h7)]
    rfl
/- Slices' literals. -/
def pvs : List CV → Option (List PV)
  | [] => some []
  | .p x :: r => match pvs r with
    | some l => some (x :: l)
    | none => none
  | _ => none
def chunk (e : Nat) : Nat → List PV → List (List PV)
  | 0, _ => []
  | n + 1, l => l.take e :: chunk e n (l.drop e)
theorem pvs_at : ∀ {cs : List CV} {ps : List PV}, pvs cs = some ps → cs = ps.map .p
  | [], ps, h => by simp only [pvs, Option.some.injEq] at h; subst h; rfl
  | .p x :: r, ps, h => by
    simp only [pvs] at h
    split at h
    · rename_i l hl
      cases h
      rw [pvs_at hl]; rfl
    · cases h
  | .any :: r, ps, h => by cases h
  | .ptr _ _ _ :: r, ps, h => by cases h
  | .sl _ _ _ :: r, ps, h => by cases h
  | .ep _ _ :: r, ps, h => by cases h
theorem chunk_spec (e : Nat) : ∀ (n : Nat) (l : List PV), l.length = n * e → (chunk e n l).length = n ∧ (∀ r ∈ chunk e n l, r.length = e) ∧ ∀ (i : Nat) (r : List PV) (k : Nat) (p : PV), (chunk e n l)[i]? = some r → r[k]? = some p → l[i * e + k]? = some p
  | 0, l, _ => ⟨rfl, by simp [chunk], by simp [chunk]⟩
  | n + 1, l, hl => by
    rw [Nat.succ_mul] at hl
    obtain ⟨h1, h2, h3⟩ := chunk_spec e n (l.drop e) (by rw [List.length_drop]; omega)
    refine ⟨by simp [chunk, h1], fun r hr => ?_, fun i r k p hi hk => ?_⟩
    · rcases List.mem_cons.1 hr with rfl | hr
      · rw [List.length_take]; omega
      · exact h2 r hr
    · cases i with
      | zero =>
        simp only [chunk, List.getElem?_cons_zero, Option.some.injEq] at hi
        subst hi
        rw [List.getElem?_take] at hk
        split at hk
        · rw [Nat.zero_mul, Nat.zero_add]; exact hk
        · cases hk
      | succ i =>
        simp only [chunk, List.getElem?_cons_succ] at hi
        have := h3 i r k p hi hk
        rw [List.getElem?_drop] at this
        rw [Nat.succ_mul, show i * e + e + k = e + (i * e + k) by omega]; exact this
theorem fill_size {pl : Nat → Option (Nat × Nat)} : ∀ {vs : List (Nat × Value)} {cells cells' : Array Value}, Instr.fill pl cells vs = some cells' → cells'.size = cells.size
  | [], cells, cells', h => by cases h; rfl
  | (i, v) :: vs, cells, cells', h => by
    unfold Instr.fill at h
    split at h
    · cases h
    · split at h
      · cases h
      · rw [fill_size h, ← Array.foldl_toList, Array.toList_zipIdx]
        exact (Great.foldl_set _ _ _ _).1
theorem opL_build_sl {parts : Array (Nat × Operand)} {t e n sz : Nat} {tt te : TE} {zs : List Value} {cs : List CV} {ps : List PV} {rows : List (List PV)} (ht : lkN T.ty t = some tt) (hk : tt.kd = .slice e) (hel : lkN T.ty e = some te) (hsz : te.size = sz) (hpos : Nat.blt 0 (n * sz) = true) (hsm : Nat.ble (n * sz) 16777216 = true)
    (hz : te.zero.cells.toList = zs) (hat : zs.all atomB = true) (hf : fillC (fun i => some (i * sz, sz)) ((List.range (n * sz)).map fun i => .p (.v (zs.getD (i % zs.length) undef))) (parts.toList.map fun x => (x.1, st.ev x.2)) = some cs) (hps : pvs cs = some ps) (hrows : chunk sz n ps = rows)
    (hzl : zs.length = sz) (hok : parts.toList.all (fun x => okC x.2) = true) :
    OpL E N P ops ⟨some d, .buildSlice t n parts, ty, pos, af, gd⟩ st ⟨[], [(d, 0)]⟩ ⟨.c (.sl (d, 0) 0 n), [((d, 0), some (.row sz rows true))]⟩ := by
  intro st' ha hfr hd cx a w Q hr
  have hpos := Nat.le_of_ble_eq_true hpos
  have hsm := Nat.le_of_ble_eq_true hsm
  have hn0 : 0 < n := Nat.pos_of_ne_zero (fun h => by rw [h] at hpos; omega)
  have hsz0 : 0 < sz := Nat.pos_of_ne_zero (fun h => by rw [h] at hpos; omega)
  have hu := kd_slice ht hk
  obtain ⟨dd', i', h1', h2', h3', h4', h5', h6'⟩ := te_inv (T.ok _ _ hel)
  have hm : ∀ x ∈ parts.toList, x.2 ∈ (Op.buildSlice t n parts).operands.toList := fun x hx => by
    simp only [Op.operands, Array.toList_map, List.mem_map]; exact ⟨x, hx, rfl⟩
  have hz0 : RL cx w st'.h ((List.range (n * sz)).map fun i => .p (.v (zs.getD (i % zs.length) undef))) ((Array.range (n * te.size)).map (te.zero.cells[· % te.zero.cells.size]!)) := by
    have hzs : te.zero.cells.size = sz := by rw [← hzl, ← hz]; simp
    refine ⟨by simp [hsz], fun i c hi => ?_⟩
    rw [List.getElem?_map, Option.map_eq_some_iff] at hi
    obtain ⟨j, hj, rfl⟩ := hi
    have hil : i < n * sz := by simpa using (List.getElem?_eq_some_iff.1 hj).1
    rw [List.getElem?_range hil] at hj
    cases hj
    have hmod : i % sz < sz := Nat.mod_lt _ hsz0
    have hat' : atomB (zs.getD (i % zs.length) undef) = true := by
      rw [hzl, List.getD_eq_getElem?_getD, List.getElem?_eq_getElem (by omega)]
      exact List.all_eq_true.1 hat _ (List.getElem_mem _)
    refine ⟨zs.getD (i % zs.length) undef, ?_, atomB_one hat', .v _ hat'⟩
    rw [Array.getElem?_map, Array.getElem?_range, hsz, if_pos hil, Option.map_some, hzs, hzl]
    congr 1
    have hbd : i % sz < te.zero.cells.size := by rw [hzs]; exact hmod
    have hg : zs[i % sz]? = some (te.zero.cells[i % sz]'hbd) := by rw [← hz, Array.getElem?_toList, Array.getElem?_eq_getElem]
    rw [getElem!_pos te.zero.cells _ hbd, List.getD_eq_getElem?_getD, hg]
    rfl
  obtain ⟨cells', h7, h8⟩ := fill_rel (cx := cx) (w := w) (h := st'.h) hf hz0 (vs := (parts.map fun (i, x) => (i, a.eval x)).toList) (by simp) (parts_rel hr ha (fun x hx => hm x hx) hok)
  have hcs := pvs_at hps
  have hlen : cells'.size = n * sz := by
    rw [fill_size h7]; simp [hsz]
  have hpl : ps.length = n * sz := by
    have := h8.1; rw [hcs, List.length_map] at this; omega
  obtain ⟨c1, c2, c3⟩ := chunk_spec sz n ps hpl
  rw [hrows] at c1 c2 c3
  have hrun := run_buildSlice (P := P) w t e n (parts.map fun (i, x) => (i, a.eval x)) cells' i' te.zero hu h2' h6' (by rw [h4', hsz]; omega) (by rw [h4', hsz]; omega) (by rw [h4', hsz]; rw [hsz] at h7; exact h7)
  refine upon_ok (v := .slice (some ⟨w.heap.size, 0, none⟩) n n) (w' := w.alloc (.cells cells' e)) (by simp only [execOp, Sem.run_bind, hrun]; rfl) ⟨_, step_alloc (w' := w.alloc (.cells cells' e)) (bk := .row sz rows true) (t := .c (.sl (d, 0) 0 n)) hr hd (b := (d, 0)) (hd d rfl) (hfr (d, 0) (by simp)) (ob := .cells cells' e) rfl rfl rfl rfl ?_ ?_⟩
  · refine ⟨hsz0, c2, ?_⟩
    simp only [Cx.upd, if_true]
    refine ⟨trivial, cells', e, (0, 0), n, push_new rfl, fun _ => ⟨rfl, fun h => ?_⟩, (fun h => by cases h), hlen, by omega, by unfold maxLen; have := Nat.le_mul_of_pos_right n hsz0; omega, fun i r k p hi hk => ?_⟩
    · have := (hr.A _ h).1; omega
    · have hp := c3 i r k p hi hk
      obtain ⟨u, hu, h9, h10⟩ := h8.2 (i * sz + k) (.p p) (by rw [hcs, List.getElem?_map, hp]; rfl)
      exact ⟨u, by simpa using hu, RP.keeps h10 (fun _ h => h) (keeps_push rfl)⟩
  · refine ⟨.inr rfl, fun bk hbk => ?_⟩
    rw [ap_h1, if_pos rfl] at hbk
    cases hbk
    refine ⟨_, n, rfl, Nat.le_refl _, by unfold maxLen; have := Nat.le_mul_of_pos_right n hsz0; omega, by simp [Bk.len, c1], .inr ⟨w.heap.size, cells', e, (0, 0), by simp [Cx.upd], by simp [Bk.e], push_new rfl, fun _ => by simp [Bk.e, hlen]⟩⟩
end
end Go.Proofs.Ythlaenafkihjiaa
/- Over abstract worlds: guarded operations, ways that meet, loops by a least relation, what is seen in another way. Conditions: those of the rules. -/
namespace Go.Proofs.Ythlaenafkihjiaa
open Go.RowKit
set_option linter.unusedVariables false
set_option linter.unusedSimpArgs false
/-- What is known if a guard holds, and if it does not. -/
def gt : Bool → TV → TV
  | true, t => t
  | false, _ => .tup []
theorem gt_t {g : Bool} {t : TV} (h : g = true) : gt g t = t := by subst h; rfl
theorem beq_t {b : Bool} : (b == true) = b := by cases b <;> rfl
theorem beq_f {b : Bool} : (b == false) = !b := by cases b <;> rfl
section
variable {E : En} {N : Nat} {P : Program} {T : Tb P} {ops : Array Oper} {o : Oper} {st : St} {r : List Oper} {acc : List (Fp × Ef)} {K : List (Fp × Ef) → St → Prop} {d : Nat} {ty : Nat} {pos : String} {af : Array Edge} {gd : Option (Nat × Bool)} {op : Op} {f : Fp} {t : TV} {fr : List (Nat × TV)} {H : List (Bid × Option Bk)}
/-- A guarded operation that only computes or reads; its guard need not be known. -/
theorem run_gn {j dj : Nat} {want b g g0 : Bool} (hj : (ops[j]?).bind (·.dst) = some dj) (hb : (⟨fr, H⟩ : St).g dj = gt g0 (.c (.p (.v (.bool b))))) (hg : (g0 && (b == want)) = g) (hop : g = true → OpL E N P ops ⟨some d, op, ty, pos, af, some (j, want)⟩ ⟨fr, H⟩ f ⟨t, []⟩)
    (h : Run E N P ops r ((f, ⟨gt g t, []⟩) :: acc) ⟨(d, gt g t) :: fr, H⟩ K) : Run E N P ops (⟨some d, op, ty, pos, af, some (j, want)⟩ :: r) acc ⟨fr, H⟩ K := by
  refine ⟨f, ⟨gt g t, []⟩, ?_, h⟩
  have hw : wn ops ⟨some d, op, ty, pos, af, some (j, want)⟩ ⟨fr, H⟩ = some g := by
    unfold wn
    simp only [hj, hb]
    subst hg
    cases g0
    · rfl
    · simp [gt]
  cases g with
  | true => exact .inl ⟨hw, hop rfl⟩
  | false => exact .inr ⟨hw, trivial, rfl⟩
theorem run_g {j dj : Nat} {want b g : Bool} (hj : (ops[j]?).bind (·.dst) = some dj) (hb : (⟨fr, H⟩ : St).g dj = .c (.p (.v (.bool b)))) (hg : (b == want) = g) (hop : g = true → OpL E N P ops ⟨some d, op, ty, pos, af, some (j, want)⟩ ⟨fr, H⟩ f ⟨t, []⟩)
    (h : Run E N P ops r ((f, ⟨gt g t, []⟩) :: acc) ⟨(d, gt g t) :: fr, H⟩ K) : Run E N P ops (⟨some d, op, ty, pos, af, some (j, want)⟩ :: r) acc ⟨fr, H⟩ K := run_gn (g0 := true) hj hb (by simpa using hg) hop h
theorem opL_pick_gl {c x y : Operand} {b g : Bool} {v w : Value} {u : Value} (hv : st.ev c = .c (.p (.v (.bool b)))) (hx : st.ev x = gt g (.c (.p (.v v)))) (hg : (b == true) = g) (hy : st.ev y = .c (.p (.v w))) (hu : (bif b then v else w) = u) (hb : okC c = true) (h1 : okC x = true) (h2 : okC y = true) :
    OpL E N P ops ⟨some d, .pick c x y, ty, pos, af, gd⟩ st ⟨[], []⟩ ⟨.c (.p (.v u)), []⟩ := by
  refine opL_pick hb h1 h2 hv ?_
  subst hg hu
  cases b
  · rw [if_neg (by simp)]; exact hy
  · rw [if_pos rfl]; exact hx
theorem opL_pick_gr {c x y : Operand} {b g : Bool} {v w : Value} {u : Value} (hv : st.ev c = .c (.p (.v (.bool b)))) (hx : st.ev x = .c (.p (.v v))) (hg : (b == false) = g) (hy : st.ev y = gt g (.c (.p (.v w)))) (hu : (bif b then v else w) = u) (hb : okC c = true) (h1 : okC x = true) (h2 : okC y = true) :
    OpL E N P ops ⟨some d, .pick c x y, ty, pos, af, gd⟩ st ⟨[], []⟩ ⟨.c (.p (.v u)), []⟩ := by
  refine opL_pick hb h1 h2 hv ?_
  subst hg hu
  cases b
  · rw [if_neg (by simp)]; exact hy
  · rw [if_pos rfl]; exact hx
theorem bif_v {b x y : Bool} : (bif b then Value.bool x else Value.bool y) = .bool (bif b then x else y) := by cases b <;> rfl
end
/-- Whatever the one state stands for, the other stands for, too. -/
def Sub (st st' : St) : Prop := ∀ (E : En) (N : Nat) (cx : Cx) (a : Act) (w : World), Rel E N cx st a w → ∃ cx', Rel E N cx' st' a w
/-- A way meets others: what comes behind is k. -/
def jn {α : Type} (k : α → Prop) (m : (α → Prop) → Prop) : Prop := m k
/-- A loop: the least relation. -/
def lp {σ : Type} (step : (σ → Prop) → σ → Prop) (s : σ) : Prop := ∀ X : σ → Prop, (∀ s, step X s → X s) → X s
/-- Element n of a list is x. -/
def ix {α : Type} (l : List α) (n : Int) (x : α) : Prop := 0 ≤ n ∧ l[n.toNat]? = some x
/-- A loop, from behind its first step. -/
def LoopOK (P : Program) (c : Code) (Q : Exit → Act → World → Prop) (a : Act) (w : World) : Prop :=
  ∀ (b : Frame) (kk : List Item) (cs : List Frame), ∃ e a' w', Q e a' w' ∧ Arrives P (lone (b.at a (.code c :: .inLoop c :: kk)) cs w) b kk cs e a' w'
theorem loop_of_ok {P : Program} {c : Code} {Q : Exit → Act → World → Prop} {a : Act} {w : World} (h : LoopOK P c Q a w) : (Code.loop c).wp P Q a w := by
  intro b kk cs
  obtain ⟨e, a', w', hq, harr⟩ := h b kk cs
  exact ⟨e, a', w', hq, .of_steps (.one step_loop) harr⟩
theorem ok_round {P : Program} {c : Code} {Q : Exit → Act → World → Prop} {a : Act} {w : World} (h : c.wp P (Exit.then (LoopOK P c Q) Q) a w) : LoopOK P c Q a w := by
  intro b kk cs
  obtain ⟨e, a₁, w₁, hq, harr⟩ := h b (.inLoop c :: kk) cs
  cases e with
  | normal =>
    obtain ⟨e₂, a₂, w₂, hq₂, harr₂⟩ := hq b kk cs
    exact ⟨e₂, a₂, w₂, hq₂, .of_steps (Steps.trans harr (.one step_inLoop)) harr₂⟩
  | exit id => exact ⟨_, a₁, w₁, hq, .pass (x := .inLoop c) rfl (fun _ _ => .inl (by simp)) harr⟩
  | goto l => exact ⟨_, a₁, w₁, hq, .pass (x := .inLoop c) rfl (fun _ _ => .inl (by simp)) harr⟩
  | ret => exact ⟨_, a₁, w₁, hq, .pass (x := .inLoop c) rfl (fun _ _ => .inl (by simp)) harr⟩
  | panic ch => exact ⟨_, a₁, w₁, hq, .pass (x := .inLoop c) rfl (fun _ _ => .inl (by simp)) harr⟩
  | outgrown => exact ⟨_, a₁, w₁, hq, .pass (x := .inLoop c) rfl (fun _ _ => .inl (by simp)) harr⟩
section
variable {E : En} {N : Nat} {P : Program} {T : Tb P} {Q : Exit → St → Prop} {st st' st2 : St}
theorem Sub.refl (st : St) : Sub st st := fun _ _ cx _ _ h => ⟨cx, h⟩
theorem Sub.trans (h : Sub st st') (h2 : Sub st' st2) : Sub st st2 := fun E N cx a w hr => let ⟨cx', hr'⟩ := h E N cx a w hr; h2 E N cx' a w hr'
theorem Sub.nm (ks : List Nat) (σ : List (Bid × Bid)) (h1 : okS σ = true) (h : st.norm ks σ = st') : Sub st st' := fun E N cx a w hr => by subst h; exact hr.norm h1
theorem aw_sub {c : Code} (h : Sub st st') (h2 : AW E N P c Q st') : AW E N P c Q st := fun cx a w hr => let ⟨cx', hr'⟩ := h E N cx a w hr; h2 cx' a w hr'
def AL (E : En) (N : Nat) (P : Program) (c : Code) (Q : Exit → St → Prop) (st : St) : Prop :=
  ∀ cx a w, Rel E N cx st a w → LoopOK P c (fun e a' w' => ∃ st' cx', Q e st' ∧ Rel E N cx' st' a' w') a w
theorem aw_of_al {c : Code} (h : AL E N P c Q st) : AW E N P (.loop c) Q st := fun cx a w hr => loop_of_ok (h cx a w hr)
theorem al_round {c : Code} (h : AW E N P c (thenQ Q (AL E N P c Q)) st) : AL E N P c Q st := by
  intro cx a w hr
  refine ok_round (wp_mono (h cx a w hr) ?_)
  rintro e a' w' ⟨st', cx', h1, h2⟩
  cases e with
  | normal => exact h1 cx' a' w' h2
  | _ => exact ⟨st', cx', h1, h2⟩
theorem al_sub {c : Code} (h : Sub st st') (h2 : AL E N P c Q st') : AL E N P c Q st := fun cx a w hr => let ⟨cx', hr'⟩ := h E N cx a w hr; h2 cx' a w hr'
theorem aw_lp {σ : Type} {c : Code} {step : (σ → Prop) → σ → Prop} {s0 : σ} (S : σ → St) (h : lp step s0) (hs : Sub st (S s0))
    (hb : ∀ (X : σ → Prop) (L : St → Prop), (∀ p st, X p → Sub st (S p) → L st) → ∀ s, step X s → AW E N P c (thenQ Q L) (S s)) : AW E N P (.loop c) Q st :=
  aw_of_al (h (fun s => ∀ st, Sub st (S s) → AL E N P c Q st) (fun s hstep st hst => al_sub hst (al_round (hb _ _ (fun p st hp hst => hp st hst) s hstep))) st hs)
theorem aw_jn {α : Type} {x y : Code} {k : α → Prop} {m : (α → Prop) → Prop} (S : α → St) (h : jn k m) (hk : ∀ p, k p → AW E N P y Q (S p))
    (hm : ∀ (J : α → Prop) (L : St → Prop), (∀ p st, J p → Sub st (S p) → L st) → m J → AW E N P x (thenQ Q L) st) : AW E N P (.seq x y) Q st :=
  aw_seq (hm k _ (fun p st hp hst => aw_sub hst (hk p hp)) h)
theorem aw_Q {c : Code} {Q0 : Exit → St → Prop} (h : ∀ Q : Exit → St → Prop, (∀ e st, Q0 e st → Q e st) → AW E N P c Q st) : AW E N P c Q0 st := h _ fun _ _ h => h
theorem sub_L {L : St → Prop} {c : Code} {st : St} (h : Sub st st') (hL : ∀ st, AW E N P c Q st → L st) (h2 : AW E N P c Q st') : L st := hL _ (aw_sub h h2)
end
end Go.Proofs.Ythlaenafkihjiaa
/- Over abstract worlds: what is seen in another way. Conditions: those of the rules. -/
namespace Go.Proofs.Ythlaenafkihjiaa
open Go.RowKit
set_option linter.unusedVariables false
set_option linter.unusedSimpArgs false
theorem h_cons (b b' : Bid) (x : Option Bk) (fr : List (Nat × TV)) (H : List (Bid × Option Bk)) : (⟨fr, (b, x) :: H⟩ : St).h b' = if b' = b then x else (⟨fr, H⟩ : St).h b' := by
  show (lkB ((b, x) :: H) b').getD none = _
  simp only [lkB]
  by_cases h : b' = b
  · subst h; rw [beqB_iff.2 rfl, if_pos rfl]; rfl
  · have : beqB b b' = false := by
      cases hb : beqB b b' with
      | false => rfl
      | true => exact absurd (beqB_iff.1 hb).symm h
    rw [this, if_neg h]; rfl
theorem g_cons (s s' : Nat) (t : TV) (fr : List (Nat × TV)) (H : List (Bid × Option Bk)) : (⟨(s, t) :: fr, H⟩ : St).g s' = if s' = s then t else (⟨fr, H⟩ : St).g s' := by
  show (lkN ((s, t) :: fr) s').getD (.c .any) = _
  simp only [lkN]
  by_cases h : s' = s
  · subst h; simp
  · have : Nat.beq s s' = false := by
      cases hb : Nat.beq s s' with
      | false => rfl
      | true => exact absurd (Nat.eq_of_beq_eq_true hb).symm h
    rw [this, if_neg h]; rfl
section
variable {E : En} {N : Nat} {P : Program} {T : Tb P} {Q : Exit → St → Prop} {st st' st2 : St} {cx : Cx} {a : Act} {w : World} {fr : List (Nat × TV)} {H : List (Bid × Option Bk)}
/-- A new block without rows. -/
theorem Sub.blk (b : Bid) (e : Nat) (he : Nat.blt 0 e = true) (hb0 : Nat.blt b.1 65536 = true) (hf : freshB b ⟨fr, H⟩ = true) : Sub ⟨fr, H⟩ ⟨fr, (b, some (.row e [] true)) :: H⟩ := by
  intro E N cx a w hr
  have hf := freshB_spec hf
  have hh := h_cons b (x := some (.row e [] true)) (fr := fr) (H := H)
  have hcmp : ∀ b', b' ≠ b → Cmp cx w (⟨fr, H⟩ : St).h (cx.upd b none) w (⟨fr, (b, some (.row e [] true)) :: H⟩ : St).h b' := by
    intro b' hne bk' hb
    rw [hh, if_neg hne] at hb
    exact ⟨bk', hb, rfl, Nat.le_refl _, by simp [Cx.upd, hne], fun g o c el fz _ h => ⟨c, el, fz, h, fun _ => rfl⟩⟩
  have hk : Keeps cx.A w w := Keeps.refl _ _
  refine ⟨cx.upd b none, hr.defers, hr.size, fun s' => ?_, fun b' bk hb => ?_, fun b1 b2 g o g' o' h1 h2 h3 h4 hne => ?_, fun b1 g o h1 h2 => ?_, hr.A, hr.A0, hr.kept, hr.sz, hr.os, hr.tape, hr.output, hr.hN, (upd_pin (Nat.le_of_ble_eq_true hb0)).trans hr.pin⟩
  · refine RT.tr (cx := cx) (fun _ h => h) hk (fun b' hb' => hcmp b' ?_) (hr.fr s')
    rintro rfl
    exact hf.2.1 s' hb'
  · rw [hh] at hb
    by_cases h : b' = b
    · rw [if_pos h] at hb
      cases hb
      subst h
      exact ⟨Nat.le_of_ble_eq_true he, by simp, by simp [Cx.upd]⟩
    · rw [if_neg h] at hb
      refine RB.tr (cx := cx) (fun _ h => h) hk (fun b2 hb2 => hcmp b2 ?_) (by simp [Cx.upd, h]) (fun g o _ => ⟨rfl, fun h => h⟩) (hr.bl b' bk hb)
      rintro rfl
      exact hf.2.2 b' bk hb hb2
  · rw [hh] at h1 h2
    simp only [Cx.upd] at h3 h4
    by_cases e1 : b1 = b
    · rw [if_pos e1] at h3; cases h3
    · by_cases e2 : b2 = b
      · rw [if_pos e2] at h4; cases h4
      · rw [if_neg e1] at h1 h3; rw [if_neg e2] at h2 h4
        exact hr.inj b1 b2 g o g' o' h1 h2 h3 h4 hne
  · rw [hh] at h1
    simp only [Cx.upd] at h2
    by_cases e1 : b1 = b
    · rw [if_pos e1] at h2; cases h2
    · rw [if_neg e1] at h1 h2
      exact hr.own b1 g o h1 h2
/-- A block's rows are not written any more. -/
theorem Rel.frz {b : Bid} {e : Nat} {rows : List (List PV)} {mu : Bool} (hb : st.h b = some (.row e rows mu)) (hr : Rel E N cx st a w) : ∃ cx', (∀ x, cx.A x → cx'.A x) ∧ cx'.ι = cx.ι ∧ Rel E N cx' ⟨st.fr, (b, some (.row e rows false)) :: st.H⟩ a w := by
  have hh := h_cons b (x := some (.row e rows false)) (fr := st.fr) (H := st.H)
  let cx' : Cx := ⟨cx.ι, fun x => cx.A x ∨ ∃ q, cx.ι b = some (x, q)⟩
  have hA : ∀ x, cx.A x → cx'.A x := fun x h => .inl h
  have hk : Keeps cx.A w w := Keeps.refl _ _
  have hcmp : ∀ b', Cmp cx w st.h cx' w (⟨st.fr, (b, some (.row e rows false)) :: st.H⟩ : St).h b' := by
    intro b' bk' hb'
    rw [hh] at hb'
    by_cases h : b' = b
    · rw [if_pos h] at hb'
      cases hb'
      subst h
      exact ⟨_, hb, rfl, Nat.le_refl _, rfl, fun g o c el fz _ h => ⟨c, el, fz, h, fun _ => rfl⟩⟩
    · rw [if_neg h] at hb'
      exact ⟨bk', hb', rfl, Nat.le_refl _, rfl, fun g o c el fz _ h => ⟨c, el, fz, h, fun _ => rfl⟩⟩
  have hlive : ∀ b', (⟨st.fr, (b, some (.row e rows false)) :: st.H⟩ : St).h b' ≠ none → st.h b' ≠ none := by
    intro b' h1
    rw [hh] at h1
    by_cases h : b' = b
    · rw [h, hb]; simp
    · rwa [if_neg h] at h1
  refine ⟨cx', hA, rfl, hr.defers, hr.size, fun s' => ?_, fun b' bk hb' => ?_, fun b1 b2 g o g' o' h1 h2 h3 h4 hne => ?_, fun b1 g o h1 h2 => ?_, fun g hg => ?_, fun g hg => hA g (hr.A0 g hg), hr.kept, hr.sz, hr.os, hr.tape, hr.output, hr.hN, hr.pin⟩
  · exact RT.tr (cx := cx) hA hk (fun b' _ => hcmp b') (hr.fr s')
  · rw [hh] at hb'
    by_cases h : b' = b
    · rw [if_pos h] at hb'
      cases hb'
      subst h
      obtain ⟨h1, h2, h3⟩ := hr.bl b' _ hb
      refine ⟨h1, h2, ?_⟩
      revert h3
      show (match cx.ι b' with | none => _ | some (g, o) => _) → (match cx.ι b' with | none => _ | some (g, o) => _)
      cases hι : cx.ι b' with
      | none => exact fun h => h
      | some x =>
        obtain ⟨g, o⟩ := x
        rintro ⟨h3, c, el, fz, capR, h4, h5, h6, h7, h8, h9, h10⟩
        exact ⟨h3, c, el, fz, capR, h4, (fun h => by cases h), fun _ => .inr ⟨o, hι⟩, h7, h8, h9, fun i r k p hi hk' => let ⟨cv, hc, hp⟩ := h10 i r k p hi hk'; ⟨cv, hc, hp.mono hA (Nat.le_refl _) (fun _ _ _ => rfl)⟩⟩
    · rw [if_neg h] at hb'
      refine RB.tr (cx := cx) hA hk (fun b2 _ => hcmp b2) rfl (fun g o hg => ⟨rfl, fun hn hA' => ?_⟩) (hr.bl b' bk hb')
      rcases hA' with hA' | ⟨q, hq⟩
      · exact hn hA'
      · exact hr.inj b' b g o g q (by rw [hb']; simp) (by rw [hb]; simp) hg hq h rfl
  · exact hr.inj b1 b2 g o g' o' (hlive b1 h1) (hlive b2 h2) h3 h4 hne
  · exact hr.own b1 g o (hlive b1 h1) h2
  · rcases hg with hg | ⟨q, hq⟩
    · exact hr.A g hg
    · obtain ⟨h1, h2⟩ := hr.own b g q (by rw [hb]; simp) hq
      exact ⟨h1, h2.elim (fun h => .inr (.inl h)) (fun h => .inr (.inr h))⟩
theorem Sub.frz (b : Bid) {e : Nat} {rows : List (List PV)} {mu : Bool} (hb : (⟨fr, H⟩ : St).h b = some (.row e rows mu)) : Sub ⟨fr, H⟩ ⟨fr, (b, some (.row e rows false)) :: H⟩ := fun E N cx a w hr =>
  let ⟨cx', _, _, h⟩ := hr.frz hb; ⟨cx', h⟩
/-- A cell seen in another way. -/
inductive Ct (st : St) : CV → CV → Prop
  | k (c : CV) : Ct st c c
  | any (c : CV) : Ct st c .any
  | nil (e : Nat) : Ct st (.p (.v (.slice none 0 0))) (.p (.l e []))
  | nilo {b : Bid} {bk : Bk} (hb : st.h b = some bk) : Ct st (.p (.v (.slice none 0 0))) (.sl b 0 0)
  | n {b : Bid} {off n n' : Nat} (h : n = n') : Ct st (.sl b off n) (.sl b off n')
  | fr {b : Bid} {e off n : Nat} {rows rows' : List (List PV)} (hb : st.h b = some (.row e rows false)) (hr : (rows.drop off).take n = rows') : Ct st (.sl b off n) (.p (.l e rows'))
theorem ct_rc {c c' : CV} {v : Value} (hr : Rel E N cx st a w) (h : Ct st c c') (hc : RC cx w st.h c v) : RC cx w st.h c' v := by
  cases h with
  | k => exact hc
  | any => trivial
  | nil e => cases hc with | v _ _ => exact rp_nil e
  | n h => subst h; exact hc
  | nilo hb =>
    cases hc with
    | v _ _ =>
      intro bk hbk
      exact ⟨none, 0, rfl, Nat.le_refl _, Nat.zero_le _, Nat.zero_le _, .inl rfl⟩
  | @fr b e off n rows rows' hb hr' =>
    have hA : ∀ b' ∈ [b], ∀ g q, cx.ι b' = some (g, q) → cx.A g := by
      intro b' hb' g q hg
      rw [List.mem_singleton.1 hb'] at hg
      obtain ⟨_, _, h3⟩ := hr.bl b _ hb
      rw [hg] at h3
      obtain ⟨_, c, el, fz, capR, _, _, h6, _⟩ := h3
      exact h6 rfl
    exact toC_rel (x := .p (.l e rows')) (o := none) hr (.fr hb hr') hc (fun _ h => h) hA (fun b h => by cases h)
inductive Cts (st : St) : List CV → List CV → Prop
  | nil : Cts st [] []
  | cons {c c' : CV} {cs cs' : List CV} (h : Ct st c c') (hs : Cts st cs cs') : Cts st (c :: cs) (c' :: cs')
theorem Cts.k (cs : List CV) : Cts st cs cs := by
  induction cs with
  | nil => exact .nil
  | cons c cs ih => exact .cons (.k c) ih
theorem Cts.at {cs cs' : List CV} (h : Cts st cs cs') : cs'.length = cs.length ∧ ∀ (k : Nat) (c' : CV), cs'[k]? = some c' → ∃ c, cs[k]? = some c ∧ Ct st c c' := by
  induction h with
  | nil => exact ⟨rfl, fun k c' h => by simp at h⟩
  | cons h hs ih =>
    refine ⟨by simp [ih.1], fun k c' hk => ?_⟩
    cases k with
    | zero => rw [List.getElem?_cons_zero] at hk; cases hk; exact ⟨_, rfl, h⟩
    | succ k => rw [List.getElem?_cons_succ] at hk; obtain ⟨c, h1, h2⟩ := ih.2 k c' hk; exact ⟨c, by rw [List.getElem?_cons_succ]; exact h1, h2⟩
theorem cts_rl {cs cs' : List CV} {vs : Array Value} (hr : Rel E N cx st a w) (h : Cts st cs cs') (hc : RL cx w st.h cs vs) : RL cx w st.h cs' vs := by
  obtain ⟨h1, h2⟩ := h.at
  refine ⟨by rw [h1]; exact hc.1, fun i c hi => ?_⟩
  obtain ⟨c0, h3, h4⟩ := h2 i c hi
  obtain ⟨u, hu, h5, h6⟩ := hc.2 i c0 h3
  exact ⟨u, hu, h5, ct_rc hr h4 h6⟩
theorem Rel.re (hr : Rel E N cx st a w) {s : Nat} {t : TV} (ht : RT cx w st.h t (a.tmps.getD s undef)) : Rel E N cx ⟨(s, t) :: st.fr, st.H⟩ a w := by
  refine ⟨hr.defers, hr.size, fun s' => ?_, hr.bl, hr.inj, hr.own, hr.A, hr.A0, hr.kept, hr.sz, hr.os, hr.tape, hr.output, hr.hN, hr.pin⟩
  rw [g_cons]
  by_cases h : s' = s
  · rw [if_pos h, h]; exact ht
  · rw [if_neg h]; exact hr.fr s'
theorem Sub.slot (s : Nat) {c c' : CV} (hs : (⟨fr, H⟩ : St).g s = .c c) (hc : Ct ⟨fr, H⟩ c c') : Sub ⟨fr, H⟩ ⟨(s, .c c') :: fr, H⟩ := by
  intro E N cx a w hr
  refine ⟨cx, hr.re ?_⟩
  have := hr.fr s
  rw [hs] at this
  refine ⟨?_, ct_rc hr hc this.2⟩
  rcases this.1 with h | h
  · subst h; cases hc <;> exact .inl rfl
  · exact .inr h
theorem Sub.slots (s : Nat) {cs cs' : List CV} (hs : (⟨fr, H⟩ : St).g s = .agg cs) (hc : Cts ⟨fr, H⟩ cs cs') : Sub ⟨fr, H⟩ ⟨(s, .agg cs') :: fr, H⟩ := by
  intro E N cx a w hr
  refine ⟨cx, hr.re ?_⟩
  have := hr.fr s
  rw [hs] at this
  obtain ⟨vs, h1, h2⟩ := this
  exact ⟨vs, h1, cts_rl hr hc h2⟩
theorem Sub.cells (b : Bid) {cs cs' : List CV} (hb : (⟨fr, H⟩ : St).h b = some (.box cs)) (hc : Cts ⟨fr, H⟩ cs cs') : Sub ⟨fr, H⟩ ⟨fr, (b, some (.box cs')) :: H⟩ := by
  intro E N cx a w hr
  have hh := h_cons b (x := some (.box cs')) (fr := fr) (H := H)
  obtain ⟨hl, hat⟩ := hc.at
  have hcmp : ∀ b', Cmp cx w (⟨fr, H⟩ : St).h cx w (⟨fr, (b, some (.box cs')) :: H⟩ : St).h b' := by
    intro b' bk' hb'
    rw [hh] at hb'
    by_cases h : b' = b
    · rw [if_pos h] at hb'
      cases hb'
      subst h
      exact ⟨_, hb, rfl, Nat.le_refl _, rfl, fun g o c el fz _ h => ⟨c, el, fz, h, fun _ => rfl⟩⟩
    · rw [if_neg h] at hb'
      exact ⟨bk', hb', rfl, Nat.le_refl _, rfl, fun g o c el fz _ h => ⟨c, el, fz, h, fun _ => rfl⟩⟩
  have hk : Keeps cx.A w w := Keeps.refl _ _
  have hlive : ∀ b', (⟨fr, (b, some (.box cs')) :: H⟩ : St).h b' ≠ none → (⟨fr, H⟩ : St).h b' ≠ none := by
    intro b' h1
    rw [hh] at h1
    by_cases h : b' = b
    · rw [h, hb]; simp
    · rwa [if_neg h] at h1
  refine ⟨cx, hr.defers, hr.size, fun s' => ?_, fun b' bk hb' => ?_, fun b1 b2 g o g' o' h1 h2 h3 h4 hne => ?_, fun b1 g o h1 h2 => ?_, hr.A, hr.A0, hr.kept, hr.sz, hr.os, hr.tape, hr.output, hr.hN, hr.pin⟩
  · exact RT.tr (cx := cx) (fun _ h => h) hk (fun b' _ => hcmp b') (hr.fr s')
  · rw [hh] at hb'
    by_cases h : b' = b
    · rw [if_pos h] at hb'
      cases hb'
      subst h
      obtain ⟨g, o, c, el, h1, h2, h3, h4, h5⟩ := hr.bl b' _ hb
      refine ⟨g, o, c, el, h1, h2, h3, by rw [hl]; exact h4, fun k x hx => ?_⟩
      obtain ⟨x0, h6, h7⟩ := hat k x hx
      obtain ⟨cv, h8, h9, h10⟩ := h5 k x0 h6
      exact ⟨cv, h8, h9, RC.tr (cx := cx) (fun _ h => h) hk (fun b' _ => hcmp b') (ct_rc hr h7 h10)⟩
    · rw [if_neg h] at hb'
      exact RB.tr (cx := cx) (fun _ h => h) hk (fun b2 _ => hcmp b2) rfl (fun g o _ => ⟨rfl, fun h => h⟩) (hr.bl b' bk hb')
  · exact hr.inj b1 b2 g o g' o' (hlive b1 h1) (hlive b2 h2) h3 h4 hne
  · exact hr.own b1 g o (hlive b1 h1) h2
/-- An operation ahead of which a block's rows are seen as no more written. -/
theorem opL_frz {ops : Array Oper} {o : Oper} {rb al : List Bid} {t : TV} {bl : List (Bid × Option Bk)} {b : Bid} {e : Nat} {rows : List (List PV)} {mu : Bool} (hb : (⟨fr, H⟩ : St).h b = some (.row e rows mu)) (hal : disB al [b] = true)
    (h : OpL E N P ops o ⟨fr, (b, some (.row e rows false)) :: H⟩ ⟨rb, al⟩ ⟨t, bl⟩) : OpL E N P ops o ⟨fr, H⟩ ⟨b :: rb, al⟩ ⟨t, bl ++ [(b, some (.row e rows false))]⟩ := by
  intro st' ha hf hd cx a w Q hr
  have hb' : st'.h b = some (.row e rows mu) := by rw [ha.2 b (by simp)]; exact hb
  obtain ⟨cx', hA, hι, hr'⟩ := hr.frz hb'
  have hh := h_cons b (x := some (.row e rows false)) (fr := st'.fr) (H := st'.H)
  refine Oper.wp_mono (fun a' w' ⟨cx2, h2⟩ => ⟨cx2, ?_⟩) (h ⟨st'.fr, (b, some (.row e rows false)) :: st'.H⟩ ⟨ha.1, fun b' hb2 => ?_⟩ (fun b' hb2 => ?_) hd cx' a w Q hr')
  · rw [hh, h_cons]
    by_cases hbb : b' = b
    · rw [if_pos hbb, if_pos hbb]
    · rw [if_neg hbb, if_neg hbb]; exact ha.2 b' (List.mem_cons_of_mem _ hb2)
  · obtain ⟨h1, h2, h3⟩ := hf b' hb2
    have hne : b' ≠ b := by have := disB_spec hal b' hb2; simpa using this
    refine ⟨by rw [hh, if_neg hne]; exact h1, h2, fun b2 bk hbk => ?_⟩
    rw [hh] at hbk
    by_cases h4 : b2 = b
    · rw [if_pos h4] at hbk; cases hbk; simp [Bk.ment]
    · rw [if_neg h4] at hbk; exact h3 b2 bk hbk
  · have e1 : (Ef.ap ⟨t, bl ++ [(b, some (.row e rows false))]⟩ o st') = Ef.ap ⟨t, bl⟩ o ⟨st'.fr, (b, some (.row e rows false)) :: st'.H⟩ := by
      unfold Ef.ap; simp
    rw [e1]; exact h2
end
end Go.Proofs.Ythlaenafkihjiaa
/- Operations over abstract worlds, with lists of typed elements. Conditions: those of the operations. -/
namespace Go.Proofs.Ythlaenafkihjiaa
open Go.RowKit
set_option linter.unusedVariables false
set_option linter.unusedSimpArgs false
def eI (k : IntKind) (n : Int) : List PV := [.v (.int k n)]
def eS (s : ByteArray) : List PV := [.v (.string s)]
def eB (b : Bool) : List PV := [.v (.bool b)]
/-- The byte of a string. -/
def bx (s : ByteArray) (n v : Int) : Prop := 0 ≤ n ∧ ∃ b : UInt8, s[n.toNat]? = some b ∧ v = (b.toNat : Int)
def bOr (k : IntKind) (a b : Int) : Int := k.wrap (BitVec.ofInt k.bits a ||| BitVec.ofInt k.bits b).toNat
def bAnd (k : IntKind) (a b : Int) : Int := k.wrap (BitVec.ofInt k.bits a &&& BitVec.ofInt k.bits b).toNat
def bXor (k : IntKind) (a b : Int) : Int := k.wrap (BitVec.ofInt k.bits a ^^^ BitVec.ofInt k.bits b).toNat
def bAndNot (k : IntKind) (a b : Int) : Int := k.wrap (BitVec.ofInt k.bits a &&& ~~~ BitVec.ofInt k.bits b).toNat
def iShl (k : IntKind) (a b : Int) : Int := k.wrap (a * 2 ^ (min b.toNat k.bits))
def iShr (k : IntKind) (a b : Int) : Int := a.fdiv (2 ^ (min b.toNat k.bits))
def iMin (a b : Int) : Int := if b < a then b else a
def iMax (a b : Int) : Int := if b > a then b else a
def eqV : Value → Value → Bool
  | .int _ a, .int _ b => a == b
  | .bool a, .bool b => a == b
  | .string a, .string b => a.toList == b.toList
  | _, _ => false
def eqVs : List Value → List Value → Bool
  | [], [] => true
  | a :: l, b :: m => eqV a b && eqVs l m
  | _, _ => false
section
variable {α : Type} {f : α → List PV} {L L' : List α} {E : En} {N : Nat} {P : Program} {T : Tb P} {ops : Array Oper} {o : Oper} {st : St} {d : Nat} {ty : Nat} {pos : String} {af : Array Edge} {gd : Option (Nat × Bool)} {cx : Cx} {a : Act} {w w' : World}
theorem tn {n : Int} (h : 0 ≤ n) : n = (n.toNat : Int) := (Int.toNat_of_nonneg h).symm
theorem o_idx_l {x y : Operand} {t el e : Nat} {k : IntKind} {n : Int} {v : α} {tt te : TE} (hv : ix L n v) (h1 : st.ev x = .c (.p (.l e (L.map f)))) (h2 : st.ev y = .c (.p (.v (.int k n)))) (ht : lkN T.ty t = some tt) (hk : tt.kd = .slice el) (hel : lkN T.ty el = some te) (he : te.size = e) (hx : okC x = true) (hy : okC y = true) :
    OpL E N P ops ⟨some d, .indexAddr t x y, ty, pos, af, gd⟩ st ⟨[], []⟩ ⟨.c (.ep (f v) 0), []⟩ := opL_index_l h1 h2 (tn hv.1) (gm hv.2) ht hk hel he hx hy
theorem o_idx_sl {x y : Operand} {t el e m : Nat} {b : Bid} {mu : Bool} {k : IntKind} {n : Int} {v : α} {tt te : TE} (hv : ix L n v) (h1 : st.ev x = .c (.sl b 0 m)) (hb : st.h b = some (.row e (L.map f) mu)) (hm : (L.map f).length = m) (h2 : st.ev y = .c (.p (.v (.int k n)))) (ht : lkN T.ty t = some tt) (hk : tt.kd = .slice el) (hel : lkN T.ty el = some te) (he : te.size = e) (hx : okC x = true) (hy : okC y = true) :
    OpL E N P ops ⟨some d, .indexAddr t x y, ty, pos, af, gd⟩ st ⟨[b], []⟩ ⟨.c (.ptr b n.toNat 0), []⟩ :=
  opL_index_sl h1 hb h2 (tn hv.1) (by rw [← hm, List.length_map]; exact (List.getElem?_eq_some_iff.1 hv.2).1) ht hk hel he (Nat.zero_add _) hx hy
theorem ix_sub {off m : Nat} {n : Int} {v : α} (hv : ix ((L.drop off).take m) n v) : n.toNat < m ∧ L[off + n.toNat]? = some v := by
  have h := hv.2
  rw [List.getElem?_take] at h
  split at h
  · rename_i h2
    rw [List.getElem?_drop] at h
    exact ⟨h2, h⟩
  · cases h
theorem o_idx_slg {x y : Operand} {t el e off m : Nat} {b : Bid} {mu : Bool} {k : IntKind} {n : Int} {v : α} {tt te : TE} (hv : ix ((L.drop off).take m) n v) (h1 : st.ev x = .c (.sl b off m)) (hb : st.h b = some (.row e (L.map f) mu)) (h2 : st.ev y = .c (.p (.v (.int k n)))) (ht : lkN T.ty t = some tt) (hk : tt.kd = .slice el) (hel : lkN T.ty el = some te) (he : te.size = e) (hx : okC x = true) (hy : okC y = true) :
    OpL E N P ops ⟨some d, .indexAddr t x y, ty, pos, af, gd⟩ st ⟨[b], []⟩ ⟨.c (.ptr b (off + n.toNat) 0), []⟩ :=
  opL_index_sl h1 hb h2 (tn hv.1) (ix_sub hv).1 ht hk hel he rfl hx hy
theorem o_index_str {x y : Operand} {t : Nat} {s : ByteArray} {k : IntKind} {n v : Int} {tt : TE} (hv : bx s n v) (h1 : st.ev x = .c (.p (.v (.string s)))) (h2 : st.ev y = .c (.p (.v (.int k n)))) (ht : lkN T.ty t = some tt) (hk : tt.kd = .string) (hx : okC x = true) (hy : okC y = true) :
    OpL E N P ops ⟨some d, .index t x y, ty, pos, af, gd⟩ st ⟨[], []⟩ ⟨.c (.p (.v (.int .u8 v))), []⟩ := by
  obtain ⟨h0, b, hb, rfl⟩ := hv
  exact opL_index_str h1 h2 (tn h0) hb ht hk hx hy
theorem o_len_l {x : Operand} {t e : TypeId} {tt : TE} {k : Nat} (h1 : st.ev x = .c (.p (.l k (L.map f)))) (ht : lkN T.ty t = some tt) (hk : tt.kd = .slice e) (hx : okC x = true) :
    OpL E N P ops ⟨some d, .call { callee := .builtin .len, args := #[x], argTypes := #[t] }, ty, pos, af, gd⟩ st ⟨[], []⟩ ⟨.c (.p (.v (.int .i64 (L.length : Int)))), []⟩ := by
  have := opL_len_l (E := E) (N := N) (ops := ops) (d := d) (ty := ty) (pos := pos) (af := af) (gd := gd) h1 ht hk hx
  rwa [List.length_map] at this
theorem o_len_sl {x : Operand} {t e e' : TypeId} {tt : TE} {b : Bid} {m : Nat} {mu : Bool} (h1 : st.ev x = .c (.sl b 0 m)) (hb : st.h b = some (.row e' (L.map f) mu)) (hm : (L.map f).length = m) (ht : lkN T.ty t = some tt) (hk : tt.kd = .slice e) (hx : okC x = true) :
    OpL E N P ops ⟨some d, .call { callee := .builtin .len, args := #[x], argTypes := #[t] }, ty, pos, af, gd⟩ st ⟨[b], []⟩ ⟨.c (.p (.v (.int .i64 (L.length : Int)))), []⟩ := by
  have := opL_len_sl (E := E) (N := N) (ops := ops) (d := d) (ty := ty) (pos := pos) (af := af) (gd := gd) h1 (by rw [hb]; rfl) ht hk hx
  rwa [← hm, List.length_map] at this
theorem o_shl {xt yt : TypeId} {x y : Operand} {k k' : IntKind} {a b : Int} (hb : 0 ≤ b) (h1 : st.ev x = .c (.p (.v (.int k a)))) (h2 : st.ev y = .c (.p (.v (.int k' b)))) (hx : okC x = true) (hy : okC y = true) :
    OpL E N P ops ⟨some d, .binOp .shl xt x y yt, ty, pos, af, gd⟩ st ⟨[], []⟩ ⟨.c (.p (.v (.int k (iShl k a b)))), []⟩ := opL_shl h1 h2 hb rfl hx hy
theorem o_shr {xt yt : TypeId} {x y : Operand} {k k' : IntKind} {a b : Int} (hb : 0 ≤ b) (h1 : st.ev x = .c (.p (.v (.int k a)))) (h2 : st.ev y = .c (.p (.v (.int k' b)))) (hx : okC x = true) (hy : okC y = true) :
    OpL E N P ops ⟨some d, .binOp .shr xt x y yt, ty, pos, af, gd⟩ st ⟨[], []⟩ ⟨.c (.p (.v (.int k (iShr k a b)))), []⟩ := opL_shr h1 h2 hb rfl hx hy
theorem o_quo {xt yt : TypeId} {x y : Operand} {k : IntKind} {a b : Int} (hb : b ≠ 0) (h1 : st.ev x = .c (.p (.v (.int k a)))) (h2 : st.ev y = .c (.p (.v (.int k b)))) (hx : okC x = true) (hy : okC y = true) :
    OpL E N P ops ⟨some d, .binOp .quo xt x y yt, ty, pos, af, gd⟩ st ⟨[], []⟩ ⟨.c (.p (.v (.int k (k.wrap (a.tdiv b))))), []⟩ := opL_int h1 h2 (by simp [intOp, hb]) hx hy
theorem o_rem {xt yt : TypeId} {x y : Operand} {k : IntKind} {a b : Int} (hb : b ≠ 0) (h1 : st.ev x = .c (.p (.v (.int k a)))) (h2 : st.ev y = .c (.p (.v (.int k b)))) (hx : okC x = true) (hy : okC y = true) :
    OpL E N P ops ⟨some d, .binOp .rem xt x y yt, ty, pos, af, gd⟩ st ⟨[], []⟩ ⟨.c (.p (.v (.int k (a.tmod b)))), []⟩ := opL_int h1 h2 (by simp [intOp, hb]) hx hy
theorem map_cut {lo hi : Nat} : ((L.map f).take hi).drop lo = ((L.take hi).drop lo).map f := by simp
/- Parts of a list that is not written. -/
theorem o_slice_l {x : Operand} {y z : Option Operand} {t el e lo hi : Nat} {tt te : TE} (h1 : st.ev x = .c (.p (.l e (L.map f)))) (hlo : Bd st y 0 lo) (hhi : Bd st z L.length hi) (hlh : lo ≤ hi) (hhl : hi ≤ L.length) (ht : lkN T.ty t = some tt) (hk : tt.kd = .slice el) (hel : lkN T.ty el = some te) (he : te.size = e) (hx : okC x = true) :
    OpL E N P ops ⟨some d, .slice t x y z none, ty, pos, af, gd⟩ st ⟨[], []⟩ ⟨.c (.p (.l e (((L.take hi).drop lo).map f))), []⟩ := by
  have := opL_slice_l (E := E) (N := N) (ops := ops) (d := d) (ty := ty) (pos := pos) (af := af) (gd := gd) (T := T) (lo := lo) (hi := hi) h1 hlo (by rw [List.length_map]; exact hhi) hlh (by rw [List.length_map]; exact hhl) ht hk hel he hx
  rwa [map_cut] at this
theorem bd_none {n : Nat} : Bd st none n n := rfl
theorem bd_some {x : Operand} {k : IntKind} {z : Int} {m : Nat} (h0 : 0 ≤ z) (h : st.ev x = .c (.p (.v (.int k z)))) (hc : okC x = true) : Bd st (some x) m z.toNat := ⟨hc, k, z, h, tn h0⟩
theorem o_slice_lo {x y : Operand} {t el e : Nat} {k : IntKind} {p : Int} {tt te : TE} (hp : 0 ≤ p ∧ p ≤ L.length) (h1 : st.ev x = .c (.p (.l e (L.map f)))) (h2 : st.ev y = .c (.p (.v (.int k p)))) (ht : lkN T.ty t = some tt) (hk : tt.kd = .slice el) (hel : lkN T.ty el = some te) (he : te.size = e) (hx : okC x = true) (hy : okC y = true) :
    OpL E N P ops ⟨some d, .slice t x (some y) none none, ty, pos, af, gd⟩ st ⟨[], []⟩ ⟨.c (.p (.l e ((L.drop p.toNat).map f))), []⟩ := by
  have := o_slice_l (E := E) (N := N) (ops := ops) (d := d) (ty := ty) (pos := pos) (af := af) (gd := gd) (T := T) h1 (bd_some hp.1 h2 hy) bd_none (by have := hp.2; omega) (Nat.le_refl _) ht hk hel he hx
  rwa [List.take_length] at this
theorem o_slice_hi {x z : Operand} {t el e : Nat} {k : IntKind} {q : Int} {tt te : TE} (hp : 0 ≤ q ∧ q ≤ L.length) (h1 : st.ev x = .c (.p (.l e (L.map f)))) (h2 : st.ev z = .c (.p (.v (.int k q)))) (ht : lkN T.ty t = some tt) (hk : tt.kd = .slice el) (hel : lkN T.ty el = some te) (he : te.size = e) (hx : okC x = true) (hy : okC z = true) :
    OpL E N P ops ⟨some d, .slice t x none (some z) none, ty, pos, af, gd⟩ st ⟨[], []⟩ ⟨.c (.p (.l e ((L.take q.toNat).map f))), []⟩ := by
  have := o_slice_l (E := E) (N := N) (ops := ops) (d := d) (ty := ty) (pos := pos) (af := af) (gd := gd) (T := T) h1 bd_none (bd_some hp.1 h2 hy) (Nat.zero_le _) (by have := hp.2; omega) ht hk hel he hx
  simpa using this
theorem o_slice_both {x y z : Operand} {t el e : Nat} {k k' : IntKind} {p q : Int} {tt te : TE} (hp : 0 ≤ p ∧ p ≤ q ∧ q ≤ L.length) (h1 : st.ev x = .c (.p (.l e (L.map f)))) (h2 : st.ev y = .c (.p (.v (.int k p)))) (h3 : st.ev z = .c (.p (.v (.int k' q)))) (ht : lkN T.ty t = some tt) (hk : tt.kd = .slice el) (hel : lkN T.ty el = some te) (he : te.size = e) (hx : okC x = true) (hy : okC y = true) (hz : okC z = true) :
    OpL E N P ops ⟨some d, .slice t x (some y) (some z) none, ty, pos, af, gd⟩ st ⟨[], []⟩ ⟨.c (.p (.l e (((L.take q.toNat).drop p.toNat).map f))), []⟩ :=
  o_slice_l h1 (bd_some hp.1 h2 hy) (bd_some (by omega) h3 hz) (by omega) (by omega) ht hk hel he hx
/- Parts of a string. -/
theorem o_str_lo {x y : Operand} {t : Nat} {k : IntKind} {p : Int} {s : ByteArray} {tt : TE} (hp : 0 ≤ p ∧ p ≤ s.size) (h1 : st.ev x = .c (.p (.v (.string s)))) (h2 : st.ev y = .c (.p (.v (.int k p)))) (ht : lkN T.ty t = some tt) (hk : tt.kd = .string) (hx : okC x = true) (hy : okC y = true) :
    OpL E N P ops ⟨some d, .slice t x (some y) none none, ty, pos, af, gd⟩ st ⟨[], []⟩ ⟨.c (.p (.v (.string (s.extract p.toNat s.size)))), []⟩ := opL_slice_str h1 (bd_some hp.1 h2 hy) bd_none (by have := hp.2; omega) (Nat.le_refl _) ht hk hx
theorem o_str_hi {x z : Operand} {t : Nat} {k : IntKind} {q : Int} {s : ByteArray} {tt : TE} (hp : 0 ≤ q ∧ q ≤ s.size) (h1 : st.ev x = .c (.p (.v (.string s)))) (h2 : st.ev z = .c (.p (.v (.int k q)))) (ht : lkN T.ty t = some tt) (hk : tt.kd = .string) (hx : okC x = true) (hy : okC z = true) :
    OpL E N P ops ⟨some d, .slice t x none (some z) none, ty, pos, af, gd⟩ st ⟨[], []⟩ ⟨.c (.p (.v (.string (s.extract 0 q.toNat)))), []⟩ := opL_slice_str h1 bd_none (bd_some hp.1 h2 hy) (Nat.zero_le _) (by have := hp.2; omega) ht hk hx
theorem o_str_both {x y z : Operand} {t : Nat} {k k' : IntKind} {p q : Int} {s : ByteArray} {tt : TE} (hp : 0 ≤ p ∧ p ≤ q ∧ q ≤ s.size) (h1 : st.ev x = .c (.p (.v (.string s)))) (h2 : st.ev y = .c (.p (.v (.int k p)))) (h3 : st.ev z = .c (.p (.v (.int k' q)))) (ht : lkN T.ty t = some tt) (hk : tt.kd = .string) (hx : okC x = true) (hy : okC y = true) (hz : okC z = true) :
    OpL E N P ops ⟨some d, .slice t x (some y) (some z) none, ty, pos, af, gd⟩ st ⟨[], []⟩ ⟨.c (.p (.v (.string (s.extract p.toNat q.toNat)))), []⟩ := opL_slice_str h1 (bd_some hp.1 h2 hy) (bd_some (by omega) h3 hz) (by omega) (by omega) ht hk hx
/- Parts of a list of one's own: the bounds are taken as they come. -/
theorem o_sl_lo {x y : Operand} {t el e off m : Nat} {b : Bid} {mu : Bool} {rows : List (List PV)} {k : IntKind} {p : Int} {tt te : TE} (hp : 0 ≤ p ∧ p ≤ m) (h1 : st.ev x = .c (.sl b off m)) (hb : st.h b = some (.row e rows mu)) (h2 : st.ev y = .c (.p (.v (.int k p)))) (ht : lkN T.ty t = some tt) (hk : tt.kd = .slice el) (hel : lkN T.ty el = some te) (he : te.size = e) (hx : okC x = true) (hy : okC y = true) :
    OpL E N P ops ⟨some d, .slice t x (some y) none none, ty, pos, af, gd⟩ st ⟨[b], []⟩ ⟨.c (.sl b (off + p.toNat) (m - p.toNat)), []⟩ := opL_slice_sl h1 hb (bd_some hp.1 h2 hy) bd_none (by have := hp.2; omega) (Nat.le_refl _) ht hk hel he rfl rfl hx
theorem o_sl_hi {x z : Operand} {t el e off m : Nat} {b : Bid} {mu : Bool} {rows : List (List PV)} {k : IntKind} {q : Int} {tt te : TE} (hp : 0 ≤ q ∧ q ≤ m) (h1 : st.ev x = .c (.sl b off m)) (hb : st.h b = some (.row e rows mu)) (h2 : st.ev z = .c (.p (.v (.int k q)))) (ht : lkN T.ty t = some tt) (hk : tt.kd = .slice el) (hel : lkN T.ty el = some te) (he : te.size = e) (hx : okC x = true) (hy : okC z = true) :
    OpL E N P ops ⟨some d, .slice t x none (some z) none, ty, pos, af, gd⟩ st ⟨[b], []⟩ ⟨.c (.sl b off q.toNat), []⟩ := opL_slice_sl h1 hb bd_none (bd_some hp.1 h2 hy) (Nat.zero_le _) (by have := hp.2; omega) ht hk hel he (Nat.add_zero _) (Nat.sub_zero _) hx
theorem o_sl_both {x y z : Operand} {t el e off m : Nat} {b : Bid} {mu : Bool} {rows : List (List PV)} {k k' : IntKind} {p q : Int} {tt te : TE} (hp : 0 ≤ p ∧ p ≤ q ∧ q ≤ m) (h1 : st.ev x = .c (.sl b off m)) (hb : st.h b = some (.row e rows mu)) (h2 : st.ev y = .c (.p (.v (.int k p)))) (h3 : st.ev z = .c (.p (.v (.int k' q)))) (ht : lkN T.ty t = some tt) (hk : tt.kd = .slice el) (hel : lkN T.ty el = some te) (he : te.size = e) (hx : okC x = true) (hy : okC y = true) (hz : okC z = true) :
    OpL E N P ops ⟨some d, .slice t x (some y) (some z) none, ty, pos, af, gd⟩ st ⟨[b], []⟩ ⟨.c (.sl b (off + p.toNat) (q.toNat - p.toNat)), []⟩ := opL_slice_sl h1 hb (bd_some hp.1 h2 hy) (bd_some (by omega) h3 hz) (by omega) (by omega) ht hk hel he rfl rfl hx
/- Append. -/
/-- What is appended, as a typed list. -/
def SrcT (E : En) (N : Nat) (P : Program) (ops : Array Oper) (o : Oper) (st : St) (rb : List Bid) (tx : TypeId) (e : Nat) (y : Operand) (f : α → List PV) (L : List α) : Prop := SrcR E N P ops o st rb tx e y (L.map f)
theorem srcT_l {y : Operand} {tx e' : TypeId} {e : Nat} {tt : TE} (hm : y ∈ o.op.operands.toList) (hy : okC y = true) (h1 : st.ev y = .c (.p (.l e (L.map f)))) (he : Nat.blt 0 e = true) (ht : lkN T.ty tx = some tt) (hk : tt.kd = .slice e') : SrcT E N P ops o st [] tx e y f L := srcR_l hm hy h1 (Nat.le_of_ble_eq_true he) ht hk
theorem srcT_sl {y : Operand} {tx e' : TypeId} {e m : Nat} {b : Bid} {tt : TE} {mu : Bool} (hm : y ∈ o.op.operands.toList) (hy : okC y = true) (h1 : st.ev y = .c (.sl b 0 m)) (hb : st.h b = some (.row e (L.map f) mu)) (hl : (L.map f).length = m) (ht : lkN T.ty tx = some tt) (hk : tt.kd = .slice e') : SrcT E N P ops o st [b] tx e y f L := by
  have := srcR_sl (E := E) (N := N) (P := P) (ops := ops) hm hy h1 hb ht hk
  rw [List.drop_zero, ← hl, List.take_length] at this
  exact this
theorem srcT_slg {y : Operand} {tx e' : TypeId} {e off m : Nat} {b : Bid} {tt : TE} {mu : Bool} (hm : y ∈ o.op.operands.toList) (hy : okC y = true) (h1 : st.ev y = .c (.sl b off m)) (hb : st.h b = some (.row e (L.map f) mu)) (ht : lkN T.ty tx = some tt) (hk : tt.kd = .slice e') : SrcT E N P ops o st [b] tx e y f ((L.drop off).take m) := by
  have := srcR_sl (E := E) (N := N) (P := P) (ops := ops) hm hy h1 hb ht hk
  rw [← List.map_drop, ← List.map_take] at this
  exact this
theorem srcT_str {y : Operand} {tx : TypeId} {tt : TE} {s : ByteArray} (hm : y ∈ o.op.operands.toList) (hy : okC y = true) (h1 : st.ev y = .c (.p (.v (.string s)))) (ht : lkN T.ty tx = some tt) (hk : tt.kd = .string) : SrcT E N P ops o st [] tx 1 y (eI .u8) (sI s) := srcR_str hm hy h1 ht hk
theorem srcT_nil {y : Operand} {tx e' : TypeId} {e : Nat} {tt : TE} (hm : y ∈ o.op.operands.toList) (hy : okC y = true) (h1 : st.ev y = .c (.p (.v (.slice none 0 0)))) (ht : lkN T.ty tx = some tt) (hk : tt.kd = .slice e') : SrcT E N P ops o st [] tx e y f [] := srcR_nil hm hy h1 ht hk
theorem o_app_nil {x y : Operand} {t tx el : TypeId} {te tt : TE} {e by' : Nat} {rb : List Bid} (hb : L.length * by' ≤ 140737488355328) (hx : st.ev x = .c (.p (.v (.slice none 0 0)))) (hcx : okC x = true) (ht : lkN T.ty t = some tt) (hk : tt.kd = .slice el) (hel : lkN T.ty el = some te) (hes : te.size = e) (hbt : te.bytes = by') (hpos : Nat.blt 0 by' = true) (he : Nat.blt 0 e = true) (hz : te.zero.cells.size = e)
    (hsrc : SrcT E N P ops ⟨some d, .call { callee := .builtin .append, args := #[x, y], argTypes := #[t, tx] }, ty, pos, af, gd⟩ st rb tx e y f L) :
    OpL E N P ops ⟨some d, .call { callee := .builtin .append, args := #[x, y], argTypes := #[t, tx] }, ty, pos, af, gd⟩ st ⟨rb, [(d, 0)]⟩ ⟨.c (.sl (d, 0) 0 (L.map f).length), [((d, 0), some (.row e (L.map f) true))]⟩ :=
  opL_app_nil hx hcx ht hk hel hes (Nat.le_of_ble_eq_true he) hz hsrc (by rw [List.length_map]; exact Nat.le_trans (Nat.le_mul_of_pos_right _ (Nat.le_of_ble_eq_true hpos)) hb) (by rw [List.length_map, hbt]; exact hb)
theorem o_app_sl {x y : Operand} {t tx el : TypeId} {te tt : TE} {e m by' : Nat} {b : Bid} {rb : List Bid} (hby : (L.length + L'.length) * by' ≤ 140737488355328) (hx : st.ev x = .c (.sl b 0 m)) (hcx : okC x = true) (hb : st.h b = some (.row e (L.map f) true)) (hm : (L.map f).length = m) (ht : lkN T.ty t = some tt) (hk : tt.kd = .slice el) (hel : lkN T.ty el = some te) (hes : te.size = e) (hbt : te.bytes = by') (hpos : Nat.blt 0 by' = true) (hz : te.zero.cells.size = e)
    (hsrc : SrcT E N P ops ⟨some d, .call { callee := .builtin .append, args := #[x, y], argTypes := #[t, tx] }, ty, pos, af, gd⟩ st rb tx e y f L') :
    OpL E N P ops ⟨some d, .call { callee := .builtin .append, args := #[x, y], argTypes := #[t, tx] }, ty, pos, af, gd⟩ st ⟨b :: rb, [(d, 0)]⟩ ⟨.c (.sl (d, 0) 0 ((L ++ L').map f).length), [((d, 0), some (.row e ((L ++ L').map f) true)), (b, none)]⟩ := by
  have hb2 : L.length + L'.length ≤ 140737488355328 := Nat.le_trans (Nat.le_mul_of_pos_right _ (Nat.le_of_ble_eq_true hpos)) hby
  exact opL_app_sl hx hcx hb hm ht hk hel hes hz hsrc (List.map_append).symm (by rw [← hm]; simp) (by simpa using hb2) (by rw [hbt]; simpa using hby)
theorem o_string_l {x : Operand} {s t e : TypeId} {ts te tt : TE} {l : List Int} (h1 : st.ev x = .c (.p (.l 1 (l.map (eI .u8))))) (hs : lkN T.ty s = some ts) (hsk : ts.kd = .slice e) (he : lkN T.ty e = some te) (hek : te.kd = .int .u8) (ht : lkN T.ty t = some tt) (htk : tt.kd = .string) (hx : okC x = true) :
    OpL E N P ops ⟨some d, .convert s t x, ty, pos, af, gd⟩ st ⟨[], []⟩ ⟨.c (.p (.v (.string (strOfNums l)))), []⟩ := opL_string_l h1 rfl hs hsk he hek ht htk hx
theorem o_string_sl {x : Operand} {s t e : TypeId} {ts te tt : TE} {b : Bid} {m : Nat} {mu : Bool} {l : List Int} (h1 : st.ev x = .c (.sl b 0 m)) (hb : st.h b = some (.row 1 (l.map (eI .u8)) mu)) (hm : (l.map (eI .u8)).length = m) (hs : lkN T.ty s = some ts) (hsk : ts.kd = .slice e) (he : lkN T.ty e = some te) (hek : te.kd = .int .u8) (ht : lkN T.ty t = some tt) (htk : tt.kd = .string) (hx : okC x = true) :
    OpL E N P ops ⟨some d, .convert s t x, ty, pos, af, gd⟩ st ⟨[b], []⟩ ⟨.c (.p (.v (.string (strOfNums l)))), []⟩ := by
  have := opL_string_sl (E := E) (N := N) (ops := ops) (d := d) (ty := ty) (pos := pos) (af := af) (gd := gd) (T := T) h1 hb rfl hs hsk he hek ht htk hx
  rw [List.length_map] at hm
  rwa [List.drop_zero, ← hm, List.take_length] at this
theorem map_set {n : Nat} {x : α} : (L.map f).set n (f x) = (L.set n x).map f := by rw [List.map_set]
theorem get_set {n : Nat} {x y : α} (h : L[n]? = some y) : (L.set n x)[n]? = some x := by
  rw [List.getElem?_set, if_pos rfl, if_pos (List.getElem?_eq_some_iff.1 h).1]
theorem o_store_row {x y : Operand} {t : TypeId} {te : TE} {b : Bid} {i k e : Nat} {x0 x1 : α} {ps : List PV} {v : TV} {dst : Option Nat} (hi : L[i]? = some x0) (hx : st.ev x = .c (.ptr b i k)) (hb : st.h b = some (.row e (L.map f) true)) (hv : st.ev y = v) (hk : v.known = true) (hps : pvs v.cells = some ps)
    (ht : lkN T.ty t = some te) (hsz : ps.length = te.size) (hin : Nat.ble (k + ps.length) e = true) (hr' : setAt (f x0) k ps = f x1) (hcx : okC x = true) (hcy : okC y = true) :
    OpL E N P ops ⟨dst, .store t x y, ty, pos, af, gd⟩ st ⟨[b], []⟩ ⟨.c .any, [(b, some (.row e ((L.set i x1).map f) true))]⟩ :=
  opL_store_row hx hb (gm hi) hv hk (pvs_at hps) ht hsz (Nat.le_of_ble_eq_true hin) hr' map_set hcx hcy
end
end Go.Proofs.Ythlaenafkihjiaa
/- Operations over abstract worlds, more of them with typed lists. Conditions: those of the operations. -/
namespace Go.Proofs.Ythlaenafkihjiaa
open Go.RowKit
set_option linter.unusedVariables false
set_option linter.unusedSimpArgs false
theorem dt_all {α : Type} (l : List α) : (l.drop 0).take l.length = l := by simp
theorem dt_alln {α : Type} {l : List α} {n : Nat} (h : l.length = n) : (l.drop 0).take n = l := by subst h; simp
theorem dt_map {α β : Type} {f : α → β} {l : List α} {i n : Nat} : ((l.map f).drop i).take n = ((l.drop i).take n).map f := by simp
theorem dt_map0 {α β : Type} {f : α → β} {l : List α} {n : Nat} : ((l.map f).drop 0).take n = (l.take n).map f := by simp
theorem toA_g {st : St} {g : Bool} {t : TV} {x : AV} {bs : List Bid} (hg : g = true) (h : ToA st t x bs) : ToA st (gt g t) x bs := by rw [gt_t hg]; exact h
theorem and_l {a b : Bool} (h : (a && b) = true) : a = true := by simp at h; exact h.1
theorem gand_t {a b : Bool} : (a && (b == true)) = (a && b) := by cases b <;> simp
theorem gand_f {a b : Bool} : (a && (b == false)) = (a && !b) := by cases b <;> simp
theorem beq_tn {a b : Bool} (h : a = true) : (b == true) = (a && b) := by subst h; cases b <;> rfl
theorem beq_fn {a b : Bool} (h : a = true) : (b == false) = (a && !b) := by subst h; cases b <;> rfl
theorem bif_s {b : Bool} {x y : ByteArray} : (bif b then Value.string x else Value.string y) = .string (bif b then x else y) := by cases b <;> rfl
theorem bif_i {b : Bool} {k : IntKind} {x y : Int} : (bif b then Value.int k x else Value.int k y) = .int k (bif b then x else y) := by cases b <;> rfl
theorem mem_app {x y : Operand} {ats : Array TypeId} : y ∈ (Op.call { callee := .builtin .append, args := #[x, y], argTypes := ats }).operands.toList := by simp [Op.operands, Call.operands]
def eL {α : Type} (e : Nat) (f : α → List PV) (l : List α) : List PV := [.l e (l.map f)]
theorem nl_eI {k : IntKind} (n : Int) : (eI k n).all noL = true := rfl
theorem nl_eS (s : ByteArray) : (eS s).all noL = true := rfl
theorem nl_eB (b : Bool) : (eB b).all noL = true := rfl
theorem noL_map {α : Type} {f : α → List PV} (h : ∀ x, (f x).all noL = true) {L : List α} : ∀ r ∈ L.map f, ∀ p ∈ r, noL p = true := by
  intro r hr p hp
  obtain ⟨x, _, rfl⟩ := List.mem_map.1 hr
  exact List.all_eq_true.1 (h x) p hp
inductive NoLc : RV → Prop
  | p {x : PV} (h : noL x = true) : NoLc (.p x)
  | o {e : Nat} {rows : List (List PV)} (h : ∀ r ∈ rows, ∀ p ∈ r, noL p = true) : NoLc (.own e rows)
inductive NoLl : List RV → Prop
  | nil : NoLl []
  | cons {x : RV} {l : List RV} (h : NoLc x) (hs : NoLl l) : NoLl (x :: l)
theorem noLl {cs : List RV} (h : NoLl cs) : NoLs cs := by
  induction h with
  | nil => exact fun x hx => by cases hx
  | cons h hs ih =>
    intro x hx
    rcases List.mem_cons.1 hx with rfl | hx
    · cases h with
      | p h => exact h
      | o h => exact h
    · exact ih x hx
section
variable {P : Program} {T : Tb P} {st : St} {k0 : Nat}
theorem ResT.p {x : PV} (h : st.g k0 = .c (.p x)) : ResT T st (.tmp k0) (.c (.p x)) := .tmpc h (by simp)
theorem ResT.s {b : Bid} {off n : Nat} (h : st.g k0 = .c (.sl b off n)) : ResT T st (.tmp k0) (.c (.sl b off n)) := .tmpc h (by simp)
end
section
variable {α : Type} {f : α → List PV} {L L' : List α} {E : En} {N : Nat} {P : Program} {T : Tb P} {ops : Array Oper} {o : Oper} {st : St} {d : Nat} {ty : Nat} {pos : String} {af : Array Edge} {gd : Option (Nat × Bool)} {cx : Cx} {a : Act} {w w' : World} {fr : List (Nat × TV)} {H : List (Bid × Option Bk)}
/-- A call that makes and freezes nothing. -/
theorem opL_call0 {f : FuncId} {xs : Array Operand} {tys : Array TypeId} {avs : List AV} {r : List RS} {t : TV} (hcon : Contract P f avs r []) (hn : avs.any AV.isRef = false) (hok : xs.toList.all okC = true) (hargs : ToAs st (xs.toList.map st.ev) avs []) (hids : (adB d 0 (flatR r)).map (·.1) = []) (hbl : adB d 0 (flatR r) ++ frzL st [] = []) (ht : adT d r = t) :
    OpL E N P ops ⟨some d, .call { callee := .value (.func f), args := xs, argTypes := tys }, ty, pos, af, gd⟩ st ⟨[], []⟩ ⟨t, []⟩ := opL_call hcon hn hok hargs hids hbl ht
/- Comparisons. -/
theorem o_eqlb {xt yt : TypeId} {x y : Operand} {b c : Bool} {te : TE} (h1 : st.ev x = .c (.p (.v (.bool b)))) (h2 : st.ev y = .c (.p (.v (.bool c)))) (ht : lkN T.ty xt = some te) (hk : te.kd = .bool) (hx : okC x = true) (hy : okC y = true) :
    OpL E N P ops ⟨some d, .binOp .eql xt x y yt, ty, pos, af, gd⟩ st ⟨[], []⟩ ⟨.c (.p (.v (.bool (b == c)))), []⟩ :=
  opL_pure fun st' cx a' w ha hr => by
    obtain ⟨e1, w1⟩ := evv h1 hx ha (by simp [Op.operands]) hr
    obtain ⟨e2, w2⟩ := evv h2 hy ha (by simp [Op.operands]) hr
    obtain ⟨dd, i, g1, g2, g3, g4, g5, g6⟩ := te_inv (T.ok _ _ ht)
    have hu : P.underlying xt = some .bool := by rw [g1]; rw [hk] at g3; cases dd <;> simp_all [kdOf]
    refine ⟨.bool (b == c), ?_, .inr rfl, .v _ rfl⟩
    simp only [execOp, e1, e2, Sem.run_bind, run_guard_bool, Result.andThen_ok, binOp, Op.equal, Op.maxDepth, run_equalIn_bool' w _ _ _ _ hu, Sem.run_pure]
theorem o_neqb {xt yt : TypeId} {x y : Operand} {b c : Bool} {te : TE} (h1 : st.ev x = .c (.p (.v (.bool b)))) (h2 : st.ev y = .c (.p (.v (.bool c)))) (ht : lkN T.ty xt = some te) (hk : te.kd = .bool) (hx : okC x = true) (hy : okC y = true) :
    OpL E N P ops ⟨some d, .binOp .neq xt x y yt, ty, pos, af, gd⟩ st ⟨[], []⟩ ⟨.c (.p (.v (.bool (!(b == c))))), []⟩ :=
  opL_pure fun st' cx a' w ha hr => by
    obtain ⟨e1, w1⟩ := evv h1 hx ha (by simp [Op.operands]) hr
    obtain ⟨e2, w2⟩ := evv h2 hy ha (by simp [Op.operands]) hr
    obtain ⟨dd, i, g1, g2, g3, g4, g5, g6⟩ := te_inv (T.ok _ _ ht)
    have hu : P.underlying xt = some .bool := by rw [g1]; rw [hk] at g3; cases dd <;> simp_all [kdOf]
    refine ⟨.bool (!(b == c)), ?_, .inr rfl, .v _ rfl⟩
    simp only [execOp, e1, e2, Sem.run_bind, run_guard_bool, Result.andThen_ok, binOp, Op.equal, Op.maxDepth, run_equalIn_bool' w _ _ _ _ hu, Sem.run_pure]
/-- A struct whose parts are single cells, each of a plain type. -/
def flatAt (P : Program) : Nat → List Field → List Value → List Value → Bool
  | _, [], [], [] => true
  | i, f :: fs, x :: xs, y :: ys => f.name != "_" && Nat.beq f.offset i && (match P.underlying f.type, x, y with
    | some (.int _), .int k _, .int k' _ => decide (k = k')
    | some .bool, .bool _, .bool _ => true
    | some .string, .string _, .string _ => true
    | _, _, _ => false) && flatAt P (i + 1) fs xs ys
  | _, _, _, _ => false
def flatS (P : Program) (t : TypeId) (xs ys : List Value) : Bool := match P.underlying t with
  | some (.struct fs) => flatAt P 0 fs.toList xs ys && !P.stoodInHeld t && !P.eqGuardType P.depth t
  | _ => false
def plainD : TypeDesc → Bool
  | .int _ | .bool | .string => true
  | _ => false
theorem run_part1 {e : TypeId} {dsc : TypeDesc} (hu : P.underlying e = some dsc) (ha : plainD dsc = true) {xs : Array Value} {i : Nat} {v : Value} (hx : xs[i]? = some v) : (part e xs i).run P w = .ok v w := by
  cases dsc <;> simp [plainD] at ha <;> simp [part, isAgg, run_underlying hu, hx]
theorem run_eqFields {xs ys : Array Value} : ∀ (fs : List Field) (i : Nat) (us vs : List Value), flatAt P i fs us vs = true → xs.toList.drop i = us → ys.toList.drop i = vs → (Op.eqFields 9999 xs ys fs).run P w = .ok (eqVs us vs) w := by
  intro fs
  induction fs with
  | nil =>
    intro i us vs h h1 h2
    cases us <;> cases vs <;> simp [flatAt] at h
    simp [Op.eqFields, eqVs, Sem.run_pure]
  | cons f fs ih =>
    intro i us vs h h1 h2
    cases us with
    | nil => simp [flatAt] at h
    | cons u us =>
      cases vs with
      | nil => simp [flatAt] at h
      | cons v vs =>
        simp only [flatAt, Bool.and_eq_true] at h
        obtain ⟨⟨⟨hn, hi⟩, hk⟩, hr⟩ := h
        have hi := Nat.eq_of_beq_eq_true hi
        have hu : xs[i]? = some u := by have := congrArg (·[0]?) h1; simpa [List.getElem?_drop] using this
        have hv : ys[i]? = some v := by have := congrArg (·[0]?) h2; simpa [List.getElem?_drop] using this
        have h1' : xs.toList.drop (i + 1) = us := by rw [← List.drop_drop, h1]; rfl
        have h2' : ys.toList.drop (i + 1) = vs := by rw [← List.drop_drop, h2]; rfl
        have hih := ih (i + 1) us vs hr h1' h2'
        have hne : f.name ≠ "_" := by simpa using hn
        have key : ∃ dsc, P.underlying f.type = some dsc ∧ plainD dsc = true ∧ (Op.equalIn 9999 f.type u v).run P w = .ok (eqV u v) w := by
          split at hk
          · rename_i k0 k a k' b hd
            have := of_decide_eq_true hk; subst this
            exact ⟨_, hd, rfl, run_equalIn_int w 9998 _ _ _ _ _ hd⟩
          · rename_i a b hd
            exact ⟨_, hd, rfl, run_equalIn_bool' w 9998 _ _ _ hd⟩
          · rename_i a b hd
            exact ⟨_, hd, rfl, run_equalIn_string w 9998 _ _ _ hd⟩
          · cases hk
        obtain ⟨dsc, hd, ha, he⟩ := key
        simp only [Op.eqFields, if_pos hne, Sem.run_bind, hi, run_part1 hd ha hu, run_part1 hd ha hv, Result.andThen_ok, he, eqVs]
        cases heq : eqV u v
        · simp [Sem.run_pure]
        · simp [hih]
theorem run_eqS {t : TypeId} {us vs : List Value} (h : flatS P t us vs = true) : (Op.equalIn 10000 t (.agg us.toArray) (.agg vs.toArray)).run P w = .ok (eqVs us vs) w ∧ P.eqGuardType P.depth t = false := by
  unfold flatS at h
  split at h
  · rename_i fs hu
    simp only [Bool.and_eq_true, Bool.not_eq_true'] at h
    obtain ⟨⟨h1, h2⟩, h3⟩ := h
    have hfo : P.fieldsOf t = fs := by unfold Program.fieldsOf; rw [hu]
    refine ⟨?_, h3⟩
    rw [run_equalIn_struct w 9999 t _ _ (by rw [hfo]; exact hu) h2, hfo]
    exact run_eqFields fs.toList 0 us vs h1 rfl rfl
  · cases h
theorem agg_vals {st' : St} {x : Operand} {us : List Value} {f : Fp} (hx : st.ev x = .agg (us.map fun v => .p (.v v))) (hc : okC x = true) (ha : Agree ops o f st st') (hm : x ∈ o.op.operands.toList) (hr : Rel E N cx st' a w) : a.eval x = .agg us.toArray := by
  have := hr.ev hc
  rw [ev_agree ha hm, hx] at this
  obtain ⟨vs, h1, h2, h3⟩ := this
  rw [h1]
  have key : vs = us.toArray := by
    apply Array.ext_getElem?
    intro i
    cases hu : us[i]? with
    | none =>
      have h4 : us.length ≤ i := by simpa using hu
      rw [Array.getElem?_eq_none (by rw [h2]; simpa using h4), List.getElem?_toArray, hu]
    | some u =>
      obtain ⟨v, h5, h6, h7⟩ := h3 i (.p (.v u)) (by rw [List.getElem?_map, hu]; rfl)
      rw [h5, List.getElem?_toArray, hu]
      cases h7 with | v _ _ => rfl
  rw [key]
theorem o_eqls {xt yt : TypeId} {x y : Operand} {us vs : List Value} {c : Bool} {cx1 cy1 : List CV} (h1 : st.ev x = .agg cx1) (h2 : st.ev y = .agg cy1) (hf : flatS P xt us vs = true) (he : eqVs us vs = c) (hcx : cx1 = us.map fun v => .p (.v v)) (hcy : cy1 = vs.map fun v => .p (.v v)) (hx : okC x = true) (hy : okC y = true) (htr : true = true) :
    OpL E N P ops ⟨some d, .binOp .eql xt x y yt, ty, pos, af, gd⟩ st ⟨[], []⟩ ⟨.c (.p (.v (.bool c))), []⟩ :=
  opL_pure fun st' cx a' w ha hr => by
    subst hcx hcy he
    have e1 := agg_vals h1 hx ha (by simp [Op.operands]) hr
    have e2 := agg_vals h2 hy ha (by simp [Op.operands]) hr
    obtain ⟨h3, h4⟩ := run_eqS (w := w) hf
    refine ⟨_, ?_, .inr rfl, .v _ rfl⟩
    simp only [execOp, e1, e2, Sem.run_bind, run_eqGuard_agg w _ _ _ _ _ _ h4, Result.andThen_ok, run_eql_struct, h3, Sem.run_pure]
theorem o_neqs {xt yt : TypeId} {x y : Operand} {us vs : List Value} {c : Bool} {cx1 cy1 : List CV} (h1 : st.ev x = .agg cx1) (h2 : st.ev y = .agg cy1) (hf : flatS P xt us vs = true) (he : (!eqVs us vs) = c) (hcx : cx1 = us.map fun v => .p (.v v)) (hcy : cy1 = vs.map fun v => .p (.v v)) (hx : okC x = true) (hy : okC y = true) (htr : true = true) :
    OpL E N P ops ⟨some d, .binOp .neq xt x y yt, ty, pos, af, gd⟩ st ⟨[], []⟩ ⟨.c (.p (.v (.bool c))), []⟩ :=
  opL_pure fun st' cx a' w ha hr => by
    subst hcx hcy he
    have e1 := agg_vals h1 hx ha (by simp [Op.operands]) hr
    have e2 := agg_vals h2 hy ha (by simp [Op.operands]) hr
    obtain ⟨h3, h4⟩ := run_eqS (w := w) hf
    refine ⟨_, ?_, .inr rfl, .v _ rfl⟩
    simp only [execOp, e1, e2, Sem.run_bind, run_eqGuard_agg w _ _ _ _ _ _ h4, Result.andThen_ok, run_neq_struct, h3, Sem.run_pure]
end
end Go.Proofs.Ythlaenafkihjiaa
/- Operations over abstract worlds: cells handed to rows, make, bytes of strings. Conditions: those of the operations. -/
namespace Go.Proofs.Ythlaenafkihjiaa
open Go.RowKit
set_option linter.unusedVariables false
set_option linter.unusedSimpArgs false
/-- A cell as a row has it. -/
inductive Cr (st : St) : CV → PV → Prop
  | k (x : PV) : Cr st (.p x) x
  | nil (e : Nat) : Cr st (.p (.v (.slice none 0 0))) (.l e [])
  | fr {b : Bid} {e off n : Nat} {rows rows' : List (List PV)} (hb : st.h b = some (.row e rows false)) (hr : (rows.drop off).take n = rows') : Cr st (.sl b off n) (.l e rows')
inductive Crs (st : St) : List CV → List PV → Prop
  | nil : Crs st [] []
  | cons {c : CV} {x : PV} {cs : List CV} {xs : List PV} (h : Cr st c x) (hs : Crs st cs xs) : Crs st (c :: cs) (x :: xs)
theorem Crs.agree {st st' : St} {cs : List CV} {xs : List PV} (h : Crs st cs xs) (ha : ∀ b ∈ mentL cs, st'.h b = st.h b) : Crs st' cs xs := by
  induction h with
  | nil => exact .nil
  | @cons c x cs xs h hs ih =>
    have h1 : ∀ b ∈ c.ment, st'.h b = st.h b := fun b hb => ha b (by unfold mentL; rw [List.flatMap_cons]; exact List.mem_append_left _ hb)
    refine .cons ?_ (ih fun b hb => ha b (by unfold mentL at hb ⊢; rw [List.flatMap_cons]; exact List.mem_append_right _ hb))
    cases h with
    | k => exact .k _
    | nil e => exact .nil e
    | @fr b e off n rows rows' hb hr => exact .fr (by rw [h1 b (by simp [CV.ment])]; exact hb) hr
theorem Crs.cts {st : St} {cs : List CV} {xs : List PV} (h : Crs st cs xs) : Cts st cs (xs.map .p) := by
  induction h with
  | nil => exact .nil
  | cons h hs ih =>
    refine .cons ?_ ih
    cases h with
    | k => exact .k _
    | nil e => exact .nil e
    | fr hb hr => exact .fr hb hr
section
variable {E : En} {N : Nat} {P : Program} {T : Tb P} {ops : Array Oper} {o : Oper} {st : St} {d : Nat} {ty : Nat} {pos : String} {af : Array Edge} {gd : Option (Nat × Bool)} {cx : Cx} {a : Act} {w w' : World}
theorem crs_rl {cs : List CV} {xs : List PV} {vs : Array Value} (hr : Rel E N cx st a w) (h : Crs st cs xs) (hc : RL cx w st.h cs vs) : RL cx w st.h (xs.map .p) vs := cts_rl hr h.cts hc
theorem o_build_slc {parts : Array (Nat × Operand)} {t e n sz : Nat} {tt te : TE} {zs : List Value} {cs : List CV} {ps : List PV} {rows : List (List PV)} (ht : lkN T.ty t = some tt) (hk : tt.kd = .slice e) (hel : lkN T.ty e = some te) (hsz : te.size = sz) (hpos : Nat.blt 0 (n * sz) = true) (hsm : Nat.ble (n * sz) 16777216 = true)
    (hz : te.zero.cells.toList = zs) (hat : zs.all atomB = true) (hf : fillC (fun i => some (i * sz, sz)) ((List.range (n * sz)).map fun i => .p (.v (zs.getD (i % zs.length) undef))) (parts.toList.map fun x => (x.1, st.ev x.2)) = some cs) (hct : Crs st cs ps) (hrows : chunk sz n ps = rows)
    (hzl : zs.length = sz) (hok : parts.toList.all (fun x => okC x.2) = true) :
    OpL E N P ops ⟨some d, .buildSlice t n parts, ty, pos, af, gd⟩ st ⟨mentL cs, [(d, 0)]⟩ ⟨.c (.sl (d, 0) 0 n), [((d, 0), some (.row sz rows true))]⟩ := by
  intro st' ha hfr hd cx a w Q hr
  have hpos := Nat.le_of_ble_eq_true hpos
  have hsm := Nat.le_of_ble_eq_true hsm
  have hn0 : 0 < n := Nat.pos_of_ne_zero (fun h => by rw [h] at hpos; omega)
  have hsz0 : 0 < sz := Nat.pos_of_ne_zero (fun h => by rw [h] at hpos; omega)
  have hu := kd_slice ht hk
  obtain ⟨dd', i', h1', h2', h3', h4', h5', h6'⟩ := te_inv (T.ok _ _ hel)
  have hm : ∀ x ∈ parts.toList, x.2 ∈ (Op.buildSlice t n parts).operands.toList := fun x hx => by
    simp only [Op.operands, Array.toList_map, List.mem_map]; exact ⟨x, hx, rfl⟩
  have hz0 : RL cx w st'.h ((List.range (n * sz)).map fun i => .p (.v (zs.getD (i % zs.length) undef))) ((Array.range (n * te.size)).map (te.zero.cells[· % te.zero.cells.size]!)) := by
    have hzs : te.zero.cells.size = sz := by rw [← hzl, ← hz]; simp
    refine ⟨by simp [hsz], fun i c hi => ?_⟩
    rw [List.getElem?_map, Option.map_eq_some_iff] at hi
    obtain ⟨j, hj, rfl⟩ := hi
    have hil : i < n * sz := by simpa using (List.getElem?_eq_some_iff.1 hj).1
    rw [List.getElem?_range hil] at hj
    cases hj
    have hmod : i % sz < sz := Nat.mod_lt _ hsz0
    have hat' : atomB (zs.getD (i % zs.length) undef) = true := by
      rw [hzl, List.getD_eq_getElem?_getD, List.getElem?_eq_getElem (by omega)]
      exact List.all_eq_true.1 hat _ (List.getElem_mem _)
    refine ⟨zs.getD (i % zs.length) undef, ?_, atomB_one hat', .v _ hat'⟩
    rw [Array.getElem?_map, Array.getElem?_range, hsz, if_pos hil, Option.map_some, hzs, hzl]
    congr 1
    have hbd : i % sz < te.zero.cells.size := by rw [hzs]; exact hmod
    have hg : zs[i % sz]? = some (te.zero.cells[i % sz]'hbd) := by rw [← hz, Array.getElem?_toList, Array.getElem?_eq_getElem]
    rw [getElem!_pos te.zero.cells _ hbd, List.getD_eq_getElem?_getD, hg]
    rfl
  obtain ⟨cells', h7, h8⟩ := fill_rel (cx := cx) (w := w) (h := st'.h) hf hz0 (vs := (parts.map fun (i, x) => (i, a.eval x)).toList) (by simp) (parts_rel hr ha (fun x hx => hm x hx) hok)
  replace h8 := crs_rl hr (hct.agree ha.2) h8
  have hlen : cells'.size = n * sz := by
    rw [fill_size h7]; simp [hsz]
  have hpl : ps.length = n * sz := by
    have := h8.1; rw [List.length_map] at this; omega
  obtain ⟨c1, c2, c3⟩ := chunk_spec sz n ps hpl
  rw [hrows] at c1 c2 c3
  have hrun := run_buildSlice (P := P) w t e n (parts.map fun (i, x) => (i, a.eval x)) cells' i' te.zero hu h2' h6' (by rw [h4', hsz]; omega) (by rw [h4', hsz]; omega) (by rw [h4', hsz]; rw [hsz] at h7; exact h7)
  refine upon_ok (v := .slice (some ⟨w.heap.size, 0, none⟩) n n) (w' := w.alloc (.cells cells' e)) (by simp only [execOp, Sem.run_bind, hrun]; rfl) ⟨_, step_alloc (w' := w.alloc (.cells cells' e)) (bk := .row sz rows true) (t := .c (.sl (d, 0) 0 n)) hr hd (b := (d, 0)) (hd d rfl) (hfr (d, 0) (by simp)) (ob := .cells cells' e) rfl rfl rfl rfl ?_ ?_⟩
  · refine ⟨hsz0, c2, ?_⟩
    simp only [Cx.upd, if_true]
    refine ⟨trivial, cells', e, (0, 0), n, push_new rfl, fun _ => ⟨rfl, fun h => ?_⟩, (fun h => by cases h), hlen, by omega, by unfold maxLen; have := Nat.le_mul_of_pos_right n hsz0; omega, fun i r k p hi hk => ?_⟩
    · have := (hr.A _ h).1; omega
    · have hp := c3 i r k p hi hk
      obtain ⟨u, hu, h9, h10⟩ := h8.2 (i * sz + k) (.p p) (by rw [List.getElem?_map, hp]; rfl)
      exact ⟨u, by simpa using hu, RP.keeps h10 (fun _ h => h) (keeps_push rfl)⟩
  · refine ⟨.inr rfl, fun bk hbk => ?_⟩
    rw [ap_h1, if_pos rfl] at hbk
    cases hbk
    refine ⟨_, n, rfl, Nat.le_refl _, by unfold maxLen; have := Nat.le_mul_of_pos_right n hsz0; omega, by simp [Bk.len, c1], .inr ⟨w.heap.size, cells', e, (0, 0), by simp [Cx.upd], by simp [Bk.e], push_new rfl, fun _ => by simp [Bk.e, hlen]⟩⟩
theorem opL_store_rowc {x y : Operand} {t : TypeId} {te : TE} {b : Bid} {i k e : Nat} {rows rows' : List (List PV)} {r r' ps : List PV} {v : TV} {dst : Option Nat} (hx : st.ev x = .c (.ptr b i k)) (hb : st.h b = some (.row e rows true)) (hi : rows[i]? = some r) (hv : st.ev y = v) (hk : v.known = true) (hct : Crs st v.cells ps)
    (ht : lkN T.ty t = some te) (hsz : ps.length = te.size) (hin : k + ps.length ≤ e) (hr' : setAt r k ps = r') (hrows : rows.set i r' = rows') (hcx : okC x = true) (hcy : okC y = true) :
    OpL E N P ops ⟨dst, .store t x y, ty, pos, af, gd⟩ st ⟨b :: mentL v.cells, []⟩ ⟨.c .any, [(b, some (.row e rows' true))]⟩ := by
  intro st' ha hf hd cx a w Q hr
  have he := hr.ev hcy
  rw [ev_agree ha (by simp [Op.operands]), hv] at he
  have hrl := cells_of hk he
  replace hrl := crs_rl hr (hct.agree fun b' hb' => ha.2 b' (List.mem_cons_of_mem _ hb')) hrl
  obtain ⟨-, h4⟩ := evc hx hcx ha (by simp [Op.operands]) hr
  have hb' : st'.h b = some (.row e rows true) := by rw [ha.2 b (by simp)]; exact hb
  obtain ⟨g, q, h5, h6⟩ := h4 _ hb'
  have hbl := hr.bl b _ hb'
  obtain ⟨h7, h8, h9⟩ := hbl
  rw [h5] at h9
  obtain ⟨rfl, c, el, fz, capR, h10, h11, h12, h13, h14, h15, h16⟩ := h9
  obtain ⟨rfl, hnA⟩ := h11 rfl
  have hil := (List.getElem?_eq_some_iff.1 hi).1
  have hrl2 := h8 r (List.mem_of_getElem? hi)
  have h6' : a.eval x = .pointer (some ⟨g, i * e + k, none⟩) := by simpa [Bk.e] using h6
  have hcl : (a.eval y).cells.size = ps.length := by have := hrl.1; simpa using this
  have hbig : i * e + e ≤ c.size := by
    have : (i + 1) * e ≤ capR * e := Nat.mul_le_mul_right e (by omega)
    rw [Nat.add_mul] at this
    omega
  have hrun := run_storeVar (w := w) (g := g) (q := i * e + k) (u := a.eval y) ht (by rw [hcl, hsz]) h10 (by omega) (rl_one hrl)
  obtain ⟨c2, hc2⟩ : ∃ c2, c2 = (c.toList.take (i * e + k) ++ (a.eval y).cells.toList ++ c.toList.drop (i * e + k + (a.eval y).cells.size)).toArray := ⟨_, rfl⟩
  rw [← hc2] at hrun
  have hlen : c2.size = c.size := by rw [hc2]; simp; omega
  refine upon_skip (w' := w.setRow g c2) (by simp only [execOp, h6', Sem.run_bind, Instr.storeAt, Instr.sureAddr, Sem.run_pure, Result.andThen_ok, hrun]) ⟨cx, ?_⟩
  have hkeep : Keeps cx.A w (w.setRow g c2) := ⟨by simp, fun g' hA _ => setRow_other w g g' c2 (fun e => hnA (e ▸ hA))⟩
  have hr'l : r'.length = e := by rw [← hr', setAt_len r k ps (by omega)]; exact hrl2
  refine step_write (t := .c .any) (bk' := .row e rows' true) hr hd hb' rfl (by simp [Bk.len, ← hrows]) h5 hnA h10 rfl hlen ⟨h7, ?_, ?_⟩ ⟨.inl rfl, trivial⟩
  · intro r2 hr2
    rw [← hrows] at hr2
    rcases List.mem_or_eq_of_mem_set hr2 with h | h
    · exact h8 r2 h
    · rw [h]; exact hr'l
  · rw [h5]
    refine ⟨rfl, c2, el, (0, 0), capR, setRow_heap w g c c2 el _ h10, fun _ => ⟨rfl, hnA⟩, (fun h => by cases h), by rw [hlen]; exact h13, by rw [← hrows]; simpa using h14, h15, fun i2 r2 k2 p2 hi2 hk2 => ?_⟩
    have hidx : ∀ j, c2[j]? = if j < i * e + k ∨ i * e + k + ps.length ≤ j then c[j]? else (a.eval y).cells[j - (i * e + k)]? := by
      intro j
      have h17 := setAt_eq c.toList (i * e + k) (a.eval y).cells.toList (by simp; omega)
      rw [hc2, show i * e + k + (a.eval y).cells.size = i * e + k + (a.eval y).cells.toList.length by simp, ← h17, List.getElem?_toArray, setAt_at _ _ _ (by simp; omega)]
      simp only [Array.length_toList, hcl, Array.getElem?_toList]
    have hk2l : k2 < e := by
      have h1 := (List.getElem?_eq_some_iff.1 hk2).1
      have : r2.length = e := by
        rw [← hrows] at hi2
        rcases List.mem_or_eq_of_mem_set (List.mem_of_getElem? hi2) with h | h
        · exact h8 r2 h
        · rw [h]; exact hr'l
      omega
    rw [← hrows, List.getElem?_set] at hi2
    rw [hidx]
    by_cases e1 : i = i2
    · rw [if_pos e1, if_pos hil] at hi2
      cases hi2
      subst e1
      rw [← hr', setAt_at r k ps (by omega)] at hk2
      by_cases h17 : k2 < k ∨ k + ps.length ≤ k2
      · rw [if_pos h17] at hk2
        rw [if_pos (by omega)]
        obtain ⟨cv, h18, h19⟩ := h16 i r k2 p2 hi hk2
        exact ⟨cv, h18, h19.keeps (fun _ h => h) hkeep⟩
      · rw [if_neg h17] at hk2
        rw [if_neg (by omega)]
        obtain ⟨u, h18, h19, h20⟩ := hrl.2 (k2 - k) (.p p2) (by rw [List.getElem?_map, hk2]; rfl)
        refine ⟨u, ?_, RP.keeps h20 (fun _ h => h) hkeep⟩
        rw [← h18]
        congr 1
        omega
    · rw [if_neg e1] at hi2
      have hi2l := (List.getElem?_eq_some_iff.1 hi2).1
      have hout : i2 * e + k2 < i * e + k ∨ i * e + k + ps.length ≤ i2 * e + k2 := by
        rcases Nat.lt_or_gt_of_ne e1 with h | h
        · right
          have : (i + 1) * e ≤ i2 * e := Nat.mul_le_mul_right e h
          rw [Nat.add_mul] at this
          omega
        · left
          have : (i2 + 1) * e ≤ i * e := Nat.mul_le_mul_right e h
          rw [Nat.add_mul] at this
          omega
      rw [if_pos hout]
      obtain ⟨cv, h18, h19⟩ := h16 i2 r2 k2 p2 hi2 hk2
      exact ⟨cv, h18, h19.keeps (fun _ h => h) hkeep⟩
/-- A store into an element, with typed rows. -/
theorem o_store_rowc {α : Type} {f : α → List PV} {L : List α} {x y : Operand} {t : TypeId} {te : TE} {b : Bid} {i k e : Nat} {x0 x1 : α} {ps : List PV} {v : TV} {dst : Option Nat} (hi : L[i]? = some x0) (hx : st.ev x = .c (.ptr b i k)) (hb : st.h b = some (.row e (L.map f) true)) (hv : st.ev y = v) (hk : v.known = true) (hct : Crs st v.cells ps)
    (ht : lkN T.ty t = some te) (hsz : ps.length = te.size) (hin : Nat.ble (k + ps.length) e = true) (hr' : setAt (f x0) k ps = f x1) (hcx : okC x = true) (hcy : okC y = true) :
    OpL E N P ops ⟨dst, .store t x y, ty, pos, af, gd⟩ st ⟨b :: mentL v.cells, []⟩ ⟨.c .any, [(b, some (.row e ((L.set i x1).map f) true))]⟩ :=
  opL_store_rowc hx hb (gm hi) hv hk hct ht hsz (Nat.le_of_ble_eq_true hin) hr' map_set hcx hcy
/-- make. -/
theorem o_make {α : Type} {f : α → List PV} {z : α} {x y : Operand} {t el e by' : Nat} {tt te : TE} {k k' : IntKind} {n : Int} {zs : List Value} (hn : 0 ≤ n ∧ n * (by' : Nat) ≤ 140737488355328) (h1 : st.ev x = .c (.p (.v (.int k n)))) (h2 : st.ev y = .c (.p (.v (.int k' n)))) (ht : lkN T.ty t = some tt) (hk : tt.kd = .slice el) (hel : lkN T.ty el = some te) (hes : te.size = e) (hbt : te.bytes = by') (hpos : (Nat.blt 0 by' && Nat.blt 0 e) = true) (hz : te.zero.cells.toList = zs)
    (hct : Crs (⟨[], []⟩ : St) (zs.map fun v => .p (.v v)) (f z)) (hat : zs.all atomB = true) (hok : (okC x && okC y && Nat.beq zs.length e) = true) :
    OpL E N P ops ⟨some d, .makeSlice t x y, ty, pos, af, gd⟩ st ⟨[], [(d, 0)]⟩ ⟨.c (.sl (d, 0) 0 ((List.replicate n.toNat z).map f).length), [((d, 0), some (.row e ((List.replicate n.toNat z).map f) true))]⟩ := by
  intro st' ha hfr hd cx a w Q hr
  simp only [Bool.and_eq_true] at hok hpos
  have he0 : 0 < e := Nat.le_of_ble_eq_true hpos.2
  have hb0 : 0 < by' := Nat.le_of_ble_eq_true hpos.1
  have e1 := (evv h1 hok.1.1 ha (by simp [Op.operands]) hr).1
  have e2 := (evv h2 hok.1.2 ha (by simp [Op.operands]) hr).1
  obtain ⟨i, hi1, hi2, hi3, hi4⟩ := te_full hel
  have hzl : te.zero.cells.size = e := by have := Nat.eq_of_beq_eq_true hok.2; rw [← hz] at this; simpa using this
  have hnb : n ≤ 140737488355328 := by
    have h3 : n * 1 ≤ n * (by' : Nat) := Int.mul_le_mul_of_nonneg_left (by omega) hn.1
    omega
  have hrun := run_make (P := P) (w := w) t el i te.zero (kd_slice ht hk) hi1 hi4 k k' n n hn.1 (Int.le_refl _) (by rw [hi3, hbt, Int.mul_comm]; omega) (by omega)
  rw [hi2, hes] at hrun
  have hct' : Crs st' (zs.map fun v => .p (.v v)) (f z) := by
    refine (Crs.agree hct (fun b hb => ?_) : Crs st' _ _)
    simp only [mentL, List.mem_flatMap, List.mem_map] at hb
    obtain ⟨c, ⟨y, _, rfl⟩, h2⟩ := hb
    simp [CV.ment] at h2
  have hrz := crs_rl hr hct' (atoms_rl (cx := cx) (w := w) (h := st'.h) hz hat)
  have hfl : (f z).length = e := by have := hrz.1; rw [List.length_map] at this; omega
  have hmk : ∀ (i : Nat) (r : List PV) (k : Nat) (p : PV), ((List.replicate n.toNat z).map f)[i]? = some r → r[k]? = some p → ∃ cv, (madeCells te.zero.cells (n.toNat * e))[i * e + k]? = some cv ∧ RP w cx.A p cv := by
    intro i r k p hi hk
    rw [List.getElem?_map, Option.map_eq_some_iff] at hi
    obtain ⟨z', hz', rfl⟩ := hi
    have hil : i < n.toNat := by have := (List.getElem?_eq_some_iff.1 hz').1; simpa using this
    have : z' = z := by have := List.mem_of_getElem? hz'; exact (List.mem_replicate.1 this).2
    subst this
    obtain ⟨u, hu, h3, h4⟩ := hrz.2 k (.p p) (by rw [List.getElem?_map, hk]; rfl)
    have hkl : k < e := by have := (List.getElem?_eq_some_iff.1 hk).1; omega
    refine ⟨u, ?_, h4⟩
    have hlt : i * e + k < n.toNat * e := by
      have : (i + 1) * e ≤ n.toNat * e := Nat.mul_le_mul_right e hil
      rw [Nat.add_mul] at this
      omega
    have hmod : (i * e + k) % e = k := by rw [Nat.mul_comm, Nat.mul_add_mod]; exact Nat.mod_eq_of_lt hkl
    unfold madeCells
    rw [Array.getElem?_map, Array.getElem?_range, if_pos hlt, Option.map_some, hzl, hmod, ← hu]
    have hb : k < te.zero.cells.size := by omega
    rw [getElem!_pos te.zero.cells _ hb, Array.getElem?_eq_getElem hb]
  have hsz : (madeCells te.zero.cells (n.toNat * e)).size = n.toNat * e := size_madeCells _ _
  have hlen : ((List.replicate n.toNat z).map f).length = n.toNat := by simp
  refine upon_ok (v := .slice (some ⟨w.heap.size, 0, none⟩) n.toNat n.toNat) (w' := w.alloc (.cells (madeCells te.zero.cells (n.toNat * e)) el)) (by simp only [execOp, e1, e2, Sem.run_bind, hrun]; rfl) ⟨_, step_alloc (w' := w.alloc (.cells (madeCells te.zero.cells (n.toNat * e)) el)) (bk := .row e ((List.replicate n.toNat z).map f) true) (t := .c (.sl (d, 0) 0 ((List.replicate n.toNat z).map f).length)) hr hd (b := (d, 0)) (hd d rfl) (hfr (d, 0) (by simp)) (ob := .cells (madeCells te.zero.cells (n.toNat * e)) el) rfl rfl rfl rfl ?_ ?_⟩
  · refine ⟨he0, fun r hr' => ?_, ?_⟩
    · obtain ⟨z', hz', rfl⟩ := List.mem_map.1 hr'
      rw [(List.mem_replicate.1 hz').2]; exact hfl
    · simp only [Cx.upd, if_true]
      refine ⟨trivial, _, el, (0, 0), n.toNat, push_new rfl, fun _ => ⟨rfl, fun h => ?_⟩, (fun h => by cases h), hsz, by rw [hlen]; exact Nat.le_refl _, by unfold maxLen; omega, fun i r k p hi hk => ?_⟩
      · have := (hr.A _ h).1; omega
      · obtain ⟨cv, h3, h4⟩ := hmk i r k p hi hk
        exact ⟨cv, h3, RP.keeps h4 (fun _ h => h) (keeps_push rfl)⟩
  · refine ⟨.inr rfl, fun bk hbk => ?_⟩
    rw [ap_h1, if_pos rfl] at hbk
    cases hbk
    refine ⟨_, n.toNat, by rw [hlen], by rw [hlen]; exact Nat.le_refl _, by unfold maxLen; omega, by simp [Bk.len], .inr ⟨w.heap.size, _, el, (0, 0), by simp [Cx.upd], by simp [Bk.e], push_new rfl, fun _ => by simp [Bk.e, hsz]⟩⟩
/-- The bytes of a string. -/
theorem o_bytes {x : Operand} {s0 t e : TypeId} {ts tt : TE} {s : ByteArray} (hb : s.size ≤ 140737488355328) (h1 : st.ev x = .c (.p (.v (.string s)))) (hs : lkN T.ty s0 = some ts) (hsk : ts.kd = .string) (ht : lkN T.ty t = some tt) (htk : tt.kd = .slice e) (hok : okC x = true) (he : (lkN T.ty e).map (·.kd) = some (.int .u8)) :
    OpL E N P ops ⟨some d, .convert s0 t x, ty, pos, af, gd⟩ st ⟨[], []⟩ ⟨.c (.p (.l 1 ((sI s).map (eI .u8)))), []⟩ := by
  intro st' ha hfr hd cx a w Q hr
  have e1 := (evv h1 hok ha (by simp [Op.operands]) hr).1
  obtain ⟨te, hte, hek⟩ := Option.map_eq_some_iff.1 he
  obtain ⟨de, ie, g1, g2, g3, g4, g5, g6⟩ := te_inv (T.ok _ _ hte)
  have hue : P.underlying e = some (.int .u8) := by
    rw [g1]; rw [hek] at g3
    cases de <;> simp [kdOf] at g3
    rw [g3]
  have hrun := run_bytes_of_string (P := P) w s0 t e s (kd_string hs hsk) (kd_slice ht htk) hue
  have hcge := grownCap_ge w s.size 0 e
  have hcle := grownCap_le_maxLen w s.size 0 e (by unfold maxLen; omega)
  generalize hcap : grownCap w s.size 0 e = cap at hrun hcge hcle
  obtain ⟨w', hw'⟩ : ∃ w', w' = w.drew.alloc (.cells (bytesRow s cap) e ((bytesRow s cap).size, (bytesRow s cap).size + 1)) := ⟨_, rfl⟩
  rw [← hw'] at hrun
  have hh : w'.heap = w.heap.push (.cells (bytesRow s cap) e ((bytesRow s cap).size, (bytesRow s cap).size + 1)) := by rw [hw']; rfl
  let cx' : Cx := ⟨cx.ι, fun x => cx.A x ∨ x = w.heap.size⟩
  have hA : ∀ g, cx.A g → cx'.A g := fun g h => .inl h
  have hk : Keeps cx.A w w' := keeps_push hh
  have hlen : ((sI s).map (eI .u8)).length = s.size := by rw [List.length_map, length_sI]
  refine upon_ok (v := .slice (some ⟨w.heap.size, 0, none⟩) s.size cap) (w' := w') (by simp only [execOp, e1, Sem.run_bind, hrun]; rfl) ⟨cx', ?_⟩
  refine hr.step (ef := ⟨.c (.p (.l 1 ((sI s).map (eI .u8)))), []⟩) hd [] (fun b hb => by cases hb) hA (fun g hg => hg.elim .inl fun h => .inr ⟨by rw [h, hh]; simp, .inl (by rw [h]; exact hr.sz)⟩) hk (fun g hg _ => push_old hh (Nat.lt_of_lt_of_le hg hr.sz)) (by rw [hw']; rfl) (by rw [hw']; rfl) (by rw [hw']; rfl) ?_ ?_ ?_ ?_ ?_ rfl
  · intro b _ bk' hbk
    exact ⟨bk', hbk, rfl, Nat.le_refl _, rfl, fun g q c el fz h1 h2 => ⟨c, el, fz, by rw [push_old hh (Array.getElem?_eq_some_iff.1 h2).1]; exact h2, fun _ => rfl⟩⟩
  · intro b bk' hbk
    refine .inl ⟨by simp, hbk, rfl, fun g q hg => ?_⟩
    have hl := (hr.own b g q (by rw [show st'.h b = _ from hbk]; simp) hg).1
    exact ⟨push_old hh hl, fun hn h => h.elim hn fun h => by omega⟩
  · exact hr.inj
  · intro b g q h1 h2
    obtain ⟨h3, h4⟩ := hr.own b g q h1 h2
    exact ⟨by rw [hh]; simp; omega, h4⟩
  · refine ⟨.inr rfl, ?_⟩
    have key := RP.l (w := w') (A := cx'.A) 1 ((sI s).map (eI .u8)) (some ⟨w.heap.size, 0, none⟩) cap (fun i _ => .int .u8 (gI (sI s) i)) (by rw [hlen]; exact hcge) hcle (fun r hr => by obtain ⟨n, _, rfl⟩ := List.mem_map.1 hr; rfl) (.inr ⟨w.heap.size, 0, rfl, .inr rfl, by rw [hh]; simp, fun i r k p hi hk => ?_⟩) (fun i r k p hi hk => ?_)
    · rw [hlen] at key; exact key
    · rw [List.getElem?_map, Option.map_eq_some_iff] at hi
      obtain ⟨n, hn, rfl⟩ := hi
      have hlt := (List.getElem?_eq_some_iff.1 hn).1
      cases k with
      | succ k => simp [eI] at hk
      | zero =>
        unfold World.cell?
        have h0 : (w.heap.push (.cells (bytesRow s cap) e ((bytesRow s cap).size, (bytesRow s cap).size + 1)))[w.heap.size]? = some (.cells (bytesRow s cap) e ((bytesRow s cap).size, (bytesRow s cap).size + 1)) := by simp
        simp only [hh, h0]
        have h5 : i < (s.data.map fun b => Value.int .u8 b.toNat).size := by rw [length_sI] at hlt; simpa using hlt
        have h7 : i < s.data.size := by simpa using h5
        have h6 : (sI s)[i]? = some ((s.data[i]'h7).toNat : Int) := by unfold sI; rw [List.getElem?_map, Array.getElem?_toList, Array.getElem?_eq_getElem h7]; rfl
        simp only [bytesRow, Nat.zero_add, Nat.mul_one, Nat.add_zero, Option.isSome_none, Bool.false_eq_true, if_false]
        rw [Array.getElem?_append_left h5, Array.getElem?_map, Array.getElem?_eq_getElem h7]
        simp [gI, h6]
    · rw [List.getElem?_map, Option.map_eq_some_iff] at hi
      obtain ⟨n, hn, rfl⟩ := hi
      have hlt := (List.getElem?_eq_some_iff.1 hn).1
      cases k with
      | succ k => simp [eI] at hk
      | zero =>
        simp only [eI, List.getElem?_cons_zero, Option.some.injEq] at hk
        subst hk
        have : gI (sI s) i = n := by simp [gI, hn]
        rw [this]
        exact .v _ (wf_sI s _ (List.mem_of_getElem? hn))
theorem run_oplN {op : Op} {f : Fp} {t : TV} {fr : List (Nat × TV)} {H : List (Bid × Option Bk)} {bl : List (Bid × Option Bk)} {r : List Oper} {acc : List (Fp × Ef)} {K : List (Fp × Ef) → St → Prop} (hw : wn ops ⟨none, op, ty, pos, af, gd⟩ ⟨fr, H⟩ = some true) (hop : OpL E N P ops ⟨none, op, ty, pos, af, gd⟩ ⟨fr, H⟩ f ⟨t, bl⟩) (h : Run E N P ops r ((f, ⟨t, bl⟩) :: acc) ⟨fr, bl ++ H⟩ K) : Run E N P ops (⟨none, op, ty, pos, af, gd⟩ :: r) acc ⟨fr, H⟩ K := ⟨f, ⟨t, bl⟩, .inl ⟨hw, hop⟩, h⟩
/-- An empty list's literal. -/
theorem o_build0 {α : Type} {f : α → List PV} {t e sz : Nat} {tt te : TE} (ht : lkN T.ty t = some tt) (hk : tt.kd = .slice e) (hel : lkN T.ty e = some te) (hsz : te.size = sz) (hpos : Nat.blt 0 sz = true) :
    OpL E N P ops ⟨some d, .buildSlice t 0 #[], ty, pos, af, gd⟩ st ⟨[], [(d, 0)]⟩ ⟨.c (.sl (d, 0) 0 (([] : List α).map f).length), [((d, 0), some (.row sz (([] : List α).map f) true))]⟩ := by
  intro st' ha hfr hd cx a w Q hr
  have hpos := Nat.le_of_ble_eq_true hpos
  obtain ⟨i, hi1, hi2, hi3, hi4⟩ := te_full hel
  have hrun : (Instr.buildSlice t 0 #[]).run P w = .ok (.slice (some ⟨w.heap.size, 0, none⟩) 0 0) (w.alloc (.cells #[] e)) := by
    simp [Instr.buildSlice, run_underlying (kd_slice ht hk), sizeOf, typeInfo, hi1, Instr.fill, newRow, Array.range_zero']
  refine upon_ok (v := .slice (some ⟨w.heap.size, 0, none⟩) 0 0) (w' := w.alloc (.cells #[] e)) (by simp only [execOp, Sem.run_bind]; rw [show (#[] : Array (Nat × Operand)).map (fun x => (x.fst, a.eval x.snd)) = #[] from by simp, hrun]; rfl) ⟨_, step_alloc (w' := w.alloc (.cells #[] e)) (bk := .row sz [] true) (t := .c (.sl (d, 0) 0 0)) hr hd (b := (d, 0)) (hd d rfl) (hfr (d, 0) (by simp)) (ob := .cells #[] e) rfl rfl rfl rfl ?_ ?_⟩
  · refine ⟨hpos, by simp, ?_⟩
    simp only [Cx.upd, if_true]
    exact ⟨trivial, #[], e, (0, 0), 0, push_new rfl, fun _ => ⟨rfl, fun h => by have := (hr.A _ h).1; omega⟩, (fun h => by cases h), by simp, by simp, by unfold maxLen; omega, fun i r k p hi hk => by simp at hi⟩
  · refine ⟨.inr rfl, fun bk hbk => ?_⟩
    rw [ap_h1, if_pos rfl] at hbk
    cases hbk
    exact ⟨_, 0, rfl, Nat.le_refl _, by unfold maxLen; omega, by simp [Bk.len], .inl rfl⟩
end
/- A scope whose label lies ahead of every jump. -/
def gotoQ (l : Nat) (G : St → Prop) (Q : Exit → St → Prop) : Exit → St → Prop
  | .goto l', st => l' = l ∧ G st
  | e, st => Q e st
def noG (Q : Exit → St → Prop) : Exit → St → Prop
  | .goto _, _ => False
  | e, st => Q e st
section
variable {E : En} {N : Nat} {P : Program} {Q : Exit → St → Prop} {st : St}
theorem aw_goto {l : Nat} (h : Q (.goto l) st) : AW E N P (.goto l) Q st := fun cx a w hr => wp_goto ⟨st, cx, h, hr⟩
theorem aw_scope {c rest : Code} {l : Nat} (hf : findLabel c l = some rest) (h : ∀ G : St → Prop, (∀ st, AW E N P rest (noG Q) st → G st) → AW E N P c (gotoQ l G (noG Q)) st) : AW E N P (.scope c) Q st := by
  intro cx a w hr
  have h1 := h (AW E N P rest (noG Q)) (fun _ h => h) cx a w hr
  have conv : ∀ (e : Exit) (a' : Act) (w' : World), (∃ st' cx', noG Q e st' ∧ Rel E N cx' st' a' w') → Exit.jump l (fun a' w' => (∃ st' cx', AW E N P rest (noG Q) st' ∧ Rel E N cx' st' a' w') ∧ 0 < 0) (fun e a' w' => ∃ st' cx', Q e st' ∧ Rel E N cx' st' a' w') e a' w' := by
    rintro e a' w' ⟨st', cx', h2, h3⟩
    cases e with
    | goto l' => exact h2.elim
    | _ => exact ⟨st', cx', h2, h3⟩
  refine wp_scope_jumps l (fun a' w' => ∃ st' cx', AW E N P rest (noG Q) st' ∧ Rel E N cx' st' a' w') (fun _ _ => 0) hf (wp_mono h1 ?_) ?_
  · rintro e a' w' ⟨st', cx', h2, h3⟩
    cases e with
    | goto l' => exact ⟨h2.1, st', cx', h2.2, h3⟩
    | _ => exact ⟨st', cx', h2, h3⟩
  · rintro a' w' ⟨st', cx', h2, h3⟩
    exact wp_mono (h2 cx' a' w' h3) (fun e a2 w2 h4 => conv e a2 w2 h4)
end
end Go.Proofs.Ythlaenafkihjiaa
/- Contracts over abstract worlds as calls in a world. No condition. -/
namespace Go.Proofs.Ythlaenafkihjiaa
open Go.RowKit
set_option linter.unusedVariables false
set_option linter.unusedSimpArgs false
section
variable {P : Program} {w w' : World}
theorem asR_mono {A : Nat → Prop} {gs : Nat → Option Nat} {g q g' q' : Nat} (hg : w.grownBy w' none) (hA : ∀ x, A x → x < w.heap.size) : ∀ {avs : List AV} {vs : List Value}, avs.any AV.isRef = false → AsR w A gs g q avs vs → AsR w' A gs g' q' avs vs := by
  intro avs
  induction avs with
  | nil => intro vs _ h; cases vs with | nil => trivial | cons v vs => exact h.elim
  | cons a avs ih =>
    intro vs hn h
    cases vs with
    | nil => exact h.elim
    | cons v vs =>
      simp only [List.any_cons, Bool.or_eq_false_iff] at hn
      refine ⟨?_, ih hn.2 h.2⟩
      have hm : ∀ {p : PV} {u : Value}, RP w A p u → RP w' A p u := fun h => h.mono (fun _ h => h) hg.size (fun x hx hl => hg.block x hl (by simp))
      have hcs : ∀ {n : Nat} {xs : List PV} {us : List Value}, CsR w A (fun _ => none) n (xs.map .p) us → CsR w' A (fun _ => none) n (xs.map .p) us := by
        intro n xs
        induction xs generalizing n with
        | nil => intro us h; cases us with | nil => trivial | cons u us => exact h.elim
        | cons x xs ih2 =>
          intro us h
          cases us with
          | nil => exact h.elim
          | cons u us => exact ⟨h.1, hm h.2.1, ih2 h.2.2⟩
      cases a with
      | c x => exact hm h.1
      | agg xs => obtain ⟨us, h1, h2⟩ := h.1; exact ⟨us, h1, hcs h2⟩
      | ref cs => exact absurd hn.1 (by simp [AV.isRef])
/-- A contract with one plain result, in a world. -/
theorem calls_of_contract {f : FuncId} {avs : List AV} {x : Value} {vs : Array Value} {A : Nat → Prop} {g q : Nat} (hc : Contract P f avs [.c (.p (.v x))] []) (hn : avs.any AV.isRef = false) (hA : ∀ x, A x → x < w.heap.size) (hR : AsR w A (fun _ => none) g q avs vs.toList) :
    Calls P f vs w fun e w' => e = .returned x ∧ w.grownBy w' none := by
  refine (hc.run A (fun _ => none) w.heap.size 0 w vs hA (fun n m x h => by cases h) (fun n x h => by cases h) (fun _ => ⟨fun _ => rfl, rfl⟩) (asR_mono ⟨rfl, rfl, rfl, Nat.le_refl _, fun _ _ _ => rfl⟩ hA hn hR)).mono ?_
  rintro e w' ⟨v, A', gs', h1, h2, h3, h4, h5, h6, h7, h8, h9, h10, h11, h12⟩
  have hv : v = x := by
    have := h11.2.1
    cases this with | v _ _ => rfl
  subst hv
  exact ⟨h1, h6, h7, h8, h4, fun k hk _ => h5 k hk (by omega) (fun n h => by cases h)⟩
theorem contract_atomA {f : FuncId} {avs : List AV} {x : Value} (he : entB P f = true) (hx : atomB x = true) (hn : avs.any AV.isRef = false) (h : ∀ A q w vs, (∀ x, A x → x < w.heap.size) → AsR w A (fun _ => none) w.heap.size q avs vs.toList → Calls P f vs w fun e w' => e = .returned x ∧ w.grownBy w' none) : Contract P f avs [.c (.p (.v x))] [] := by
  refine ⟨he, fun A gs g q w vs hA hinj hgs hg hR => ?_⟩
  obtain ⟨hg1, rfl⟩ := hg hn
  have e : gs = fun _ => none := funext hg1
  subst e
  refine (h A q w vs hA hR).mono ?_
  rintro _ w' ⟨rfl, hgr⟩
  exact ⟨x, A, fun _ => none, rfl, fun _ h => h, fun _ h => .inl h, hgr.size, fun y hy _ _ => hgr.block y hy (by simp), hgr.os, hgr.tape, hgr.output, fun n m y h => (by cases h), fun n y h => (by cases h), ⟨atomB_one hx, .v x hx, trivial⟩, fun h => by rw [hn] at h; cases h⟩
end
end Go.Proofs.Ythlaenafkihjiaa
/- The walks of IsKey and ValidateItem. No condition. -/
namespace Go.Proofs.Ythlaenafkihjiaa
open Go.RowKit Go.ChangeShapes Go.WideShapes
set_option linter.unusedVariables false
set_option linter.unusedSimpArgs false
def keyB (s : ByteArray) : Bool := decide (1 ≤ s.size ∧ s.size ≤ 32)
def itemE (s : ByteArray) (n : Int) : Int := if keyB s = false then 7 else if n < 1 ∨ n > 4294967295 then 5 else 0
theorem ret_b {x y : Bool} (h : x = y) : Ending.returned (.bool x) = .returned (.bool y) := by rw [h]
theorem iskey_any (s : ByteArray) (w : World) (hs : s.size ≤ maxLen) :
    Calls Try.prog 57 #[.string s] w fun e w' => e = .returned (.bool (keyB s)) ∧ w = w' := by
  unfold maxLen at hs
  by_cases h1 : 1 ≤ s.size
  · by_cases h2 : s.size ≤ 32
    · have hk : Hid (keyB s = true) := decide_eq_true ⟨h1, h2⟩
      go_enter Try.func57, Try.ntmps57
      go_wp2
      go_ret
      rw [hk.out]
      exact ⟨by first | rfl | exact ret_b (decide_eq_true (by omega)) | exact ret_b (decide_eq_false (by omega)), rfl⟩
    · have hk : Hid (keyB s = false) := decide_eq_false (by omega)
      go_enter Try.func57, Try.ntmps57
      go_wp2
      go_ret
      rw [hk.out]
      exact ⟨by first | rfl | exact ret_b (decide_eq_true (by omega)) | exact ret_b (decide_eq_false (by omega)), rfl⟩
  · have hk : Hid (keyB s = false) := decide_eq_false (by omega)
    go_enter Try.func57, Try.ntmps57
    go_wp2
    go_ret
    rw [hk.out]
    exact ⟨by first | rfl | exact ret_b (decide_eq_true (by omega)) | exact ret_b (decide_eq_false (by omega)), rfl⟩
theorem validItem_any (s : ByteArray) (n : Int) (w : World) (hs : s.size ≤ maxLen) :
    Calls Try.prog 56 #[.agg #[.string s, .int .i64 n]] w fun e w' => e = .returned (.int .i64 (itemE s n)) ∧ w.grownBy w' none := by
  cases hk : keyB s
  · have h : Hid (itemE s n = 7) := by show _ = _; unfold itemE; rw [if_pos hk]
    have HK := Lib.hid hk
    clear hk
    go_enter Try.func56, Try.ntmps56
    go_wp2_with (go_at_call 57; refine (iskey_any _ _ hs).mono ?_; rw [HK.out]; rintro e w' ⟨rfl, rfl⟩)
    go_ret
    rw [h.out]
    exact ⟨rfl, grown_alloc _ _⟩
  · have HK := Lib.hid hk
    by_cases h1 : n < 1
    · have h : Hid (itemE s n = 5) := by show _ = _; unfold itemE; rw [if_neg (by rw [hk]; simp), if_pos (.inl h1)]
      clear hk
      go_enter Try.func56, Try.ntmps56
      go_wp2_with (go_at_call 57; refine (iskey_any _ _ hs).mono ?_; rw [HK.out]; rintro e w' ⟨rfl, rfl⟩)
      go_ret
      rw [h.out]
      exact ⟨rfl, grown_alloc _ _⟩
    · by_cases h2 : n > 4294967295
      · have h : Hid (itemE s n = 5) := by show _ = _; unfold itemE; rw [if_neg (by rw [hk]; simp), if_pos (.inr h2)]
        clear hk
        go_enter Try.func56, Try.ntmps56
        go_wp2_with (go_at_call 57; refine (iskey_any _ _ hs).mono ?_; rw [HK.out]; rintro e w' ⟨rfl, rfl⟩)
        go_ret
        rw [h.out]
        exact ⟨rfl, grown_alloc _ _⟩
      · have h : Hid (itemE s n = 0) := by show _ = _; unfold itemE; rw [if_neg (by rw [hk]; simp), if_neg (by omega)]
        clear hk
        go_enter Try.func56, Try.ntmps56
        go_wp2_with (go_at_call 57; refine (iskey_any _ _ hs).mono ?_; rw [HK.out]; rintro e w' ⟨rfl, rfl⟩)
        go_ret
        rw [h.out]
        exact ⟨rfl, grown_alloc _ _⟩
theorem iskeyr_any (s : ByteArray) (w : World) (hs : s.size ≤ maxLen) :
    Calls Try.prog 49 #[.string s] w fun e w' => e = .returned (.bool (keyB s)) ∧ w = w' := by
  unfold maxLen at hs
  by_cases h1 : 1 ≤ s.size
  · by_cases h2 : s.size ≤ 32
    · have hk : Hid (keyB s = true) := decide_eq_true ⟨h1, h2⟩
      go_enter Try.func49, Try.ntmps49
      go_wp2
      go_ret
      rw [hk.out]
      exact ⟨by first | rfl | exact ret_b (decide_eq_true (by omega)) | exact ret_b (decide_eq_false (by omega)), rfl⟩
    · have hk : Hid (keyB s = false) := decide_eq_false (by omega)
      go_enter Try.func49, Try.ntmps49
      go_wp2
      go_ret
      rw [hk.out]
      exact ⟨by first | rfl | exact ret_b (decide_eq_true (by omega)) | exact ret_b (decide_eq_false (by omega)), rfl⟩
  · have hk : Hid (keyB s = false) := decide_eq_false (by omega)
    go_enter Try.func49, Try.ntmps49
    go_wp2
    go_ret
    rw [hk.out]
    exact ⟨by first | rfl | exact ret_b (decide_eq_true (by omega)) | exact ret_b (decide_eq_false (by omega)), rfl⟩
theorem validItemr_any (s : ByteArray) (n : Int) (w : World) (hs : s.size ≤ maxLen) :
    Calls Try.prog 47 #[.agg #[.string s, .int .i64 n]] w fun e w' => e = .returned (.int .i64 (itemE s n)) ∧ w.grownBy w' none := by
  cases hk : keyB s
  · have h : Hid (itemE s n = 7) := by show _ = _; unfold itemE; rw [if_pos hk]
    have HK := Lib.hid hk
    clear hk
    go_enter Try.func47, Try.ntmps47
    go_wp2_with (go_at_call 49; refine (iskeyr_any _ _ hs).mono ?_; rw [HK.out]; rintro e w' ⟨rfl, rfl⟩)
    go_ret
    rw [h.out]
    exact ⟨rfl, grown_alloc _ _⟩
  · have HK := Lib.hid hk
    by_cases h1 : n < 1
    · have h : Hid (itemE s n = 5) := by show _ = _; unfold itemE; rw [if_neg (by rw [hk]; simp), if_pos (.inl h1)]
      clear hk
      go_enter Try.func47, Try.ntmps47
      go_wp2_with (go_at_call 49; refine (iskeyr_any _ _ hs).mono ?_; rw [HK.out]; rintro e w' ⟨rfl, rfl⟩)
      go_ret
      rw [h.out]
      exact ⟨rfl, grown_alloc _ _⟩
    · by_cases h2 : n > 4294967295
      · have h : Hid (itemE s n = 5) := by show _ = _; unfold itemE; rw [if_neg (by rw [hk]; simp), if_pos (.inr h2)]
        clear hk
        go_enter Try.func47, Try.ntmps47
        go_wp2_with (go_at_call 49; refine (iskeyr_any _ _ hs).mono ?_; rw [HK.out]; rintro e w' ⟨rfl, rfl⟩)
        go_ret
        rw [h.out]
        exact ⟨rfl, grown_alloc _ _⟩
      · have h : Hid (itemE s n = 0) := by show _ = _; unfold itemE; rw [if_neg (by rw [hk]; simp), if_neg (by omega)]
        clear hk
        go_enter Try.func47, Try.ntmps47
        go_wp2_with (go_at_call 49; refine (iskeyr_any _ _ hs).mono ?_; rw [HK.out]; rintro e w' ⟨rfl, rfl⟩)
        go_ret
        rw [h.out]
        exact ⟨rfl, grown_alloc _ _⟩
end Go.Proofs.Ythlaenafkihjiaa
/- The walks of IsName and of its reference. Conditions: strings lie in memory. -/
namespace Go.Proofs.Ythlaenafkihjiaa
open Go.RowKit Go.ChangeShapes Go.WideShapes
set_option linter.unusedVariables false
set_option linter.unusedSimpArgs false
/-- A byte of a name. -/
def nameC (c : Int) : Bool := decide ((97 ≤ c ∧ c ≤ 122) ∨ (48 ≤ c ∧ c ≤ 57) ∨ c = 45 ∨ c = 46)
def nameB (s : ByteArray) : Bool := decide (1 ≤ s.size ∧ s.size ≤ 16) && (decide (97 ≤ gI (sI s) 0 ∧ gI (sI s) 0 ≤ 122) && (sI s).all nameC)
theorem sI_at {s : ByteArray} {k : Nat} (h : k < s.size) : gI (sI s) k = (s[k].toNat : Int) := by
  rw [gI_eq (by rw [length_sI]; exact h)]
  simp [sI]
  rfl
theorem all_take_snoc {l : List Int} {f : Int → Bool} {k : Nat} (h : k < l.length) : (l.take (k + 1)).all f = ((l.take k).all f && f (gI l k)) := by
  rw [take_succ_gI h, List.all_append]; simp
theorem nameB_bad {s : ByteArray} {k : Nat} (h : k < s.size) (hb : nameC (s[k].toNat : Int) = false) : nameB s = false := by
  unfold nameB
  have : (sI s).all nameC = false := by
    rw [List.all_eq_false]
    exact ⟨gI (sI s) k, gI_mem (by rw [length_sI]; exact h), by rw [sI_at h, hb]; simp⟩
  rw [this]; simp
theorem nameB_size {s : ByteArray} (h : ¬ (1 ≤ s.size ∧ s.size ≤ 16)) : nameB s = false := by unfold nameB; rw [decide_eq_false h]; rfl
theorem nameB_head {s : ByteArray} (h0 : 0 < s.size) (h : ¬ ((97 : Int) ≤ (s[0].toNat : Int) ∧ (s[0].toNat : Int) ≤ 122)) : nameB s = false := by
  unfold nameB; rw [sI_at h0, decide_eq_false h]; simp
theorem nameB_ok {s : ByteArray} (h : 1 ≤ s.size ∧ s.size ≤ 16) (h0 : 0 < s.size) (h1 : (97 : Int) ≤ (s[0].toNat : Int) ∧ (s[0].toNat : Int) ≤ 122) (h2 : ∀ k (hk : k < s.size), nameC (s[k].toNat : Int) = true) : nameB s = true := by
  unfold nameB
  rw [sI_at h0, decide_eq_true h, decide_eq_true h1, Bool.true_and, Bool.true_and, List.all_eq_true]
  intro x hx
  obtain ⟨i, hi, rfl⟩ := List.getElem_of_mem hx
  have hi' := hi
  rw [length_sI] at hi'
  have := h2 i hi'
  rw [← sI_at hi', gI_eq hi] at this
  exact this
theorem byte8 (c : Nat) : c < 45 ∨ c = 45 ∨ c = 46 ∨ c = 47 ∨ (48 ≤ c ∧ c ≤ 57) ∨ (58 ≤ c ∧ c ≤ 96) ∨ (97 ≤ c ∧ c ≤ 122) ∨ 123 ≤ c := by omega
set_option maxRecDepth 100000 in
set_option maxHeartbeats 800000 in
theorem isname_any (s : ByteArray) (w : World) (hs : s.size ≤ 140737488355328) :
    Calls Try.prog 54 #[.string s] w fun e w' => e = .returned (.bool (nameB s)) ∧ w = w' := by
  by_cases hz : 1 ≤ s.size ∧ s.size ≤ 16
  · have h0 : 0 < s.size := by omega
    by_cases hh : (97 : Int) ≤ (s[0].toNat : Int) ∧ (s[0].toNat : Int) ≤ 122
    · have HB := Lib.hid (fun k (h : k < s.size) hb => nameB_bad h hb)
      have HO := Lib.hid (fun h2 => nameB_ok hz h0 hh h2)
      generalize nameB s = B at *
      obtain ⟨z1, z2⟩ := hz
      obtain ⟨hh1, hh2⟩ := hh
      go_enter Try.func54, Try.ntmps54
      go_wp2
      go_loop [3, 4, 21] (fun _ _ i => ∃ k : Nat, k ≤ s.size ∧ i = .int .i64 k ∧ Hid (∀ j (hj : j < k) (hs : j < s.size), nameC (s[j].toNat : Int) = true)) (fun _ _ i => s.size - (intOf i).toNat)
      case atStart => exact ⟨0, by omega, rfl, fun j hj => absurd hj (by omega)⟩
      case round =>
        obtain ⟨k, hk, rfl, hall⟩ := hrel
        by_cases hlt : k < s.size
        · have hbad := HB.out k hlt
          obtain ⟨c, hc⟩ : ∃ c, s[k].toNat = c := ⟨_, rfl⟩
          have hstep : nameC (c : Int) = true → Hid (∀ j (hj : j < k + 1) (hs : j < s.size), nameC (s[j].toNat : Int) = true) := fun h j hj hs => by
            by_cases e : j = k
            · subst e; rw [hc]; exact h
            · exact hall.out j (by omega) hs
          rw [hc] at hbad
          clear hh1 hh2
          rcases byte8 c with h | rfl | rfl | rfl | ⟨h, h'⟩ | ⟨h, h'⟩ | ⟨h, h'⟩ | h
          · have HF := Lib.hid (hbad (by unfold nameC; exact decide_eq_false (by omega)))
            have n1 : ((c : Int) != 45) = true := bne_iff_ne.2 (by omega)
            have n2 : ((c : Int) != 46) = true := bne_iff_ne.2 (by omega)
            clear hstep hbad
            go_wp2
            go_ret
            rw [HF.out]; exact ⟨rfl, rfl⟩
          · have HS := Lib.hid (hstep (by decide))
            clear hstep hbad
            go_wp2
            go_round
            case rel => exact ⟨k + 1, by omega, by go_num, HS.out⟩
            case measure => simp [intOf]; omega
          · have HS := Lib.hid (hstep (by decide))
            clear hstep hbad
            go_wp2
            go_round
            case rel => exact ⟨k + 1, by omega, by go_num, HS.out⟩
            case measure => simp [intOf]; omega
          · have HF := Lib.hid (hbad (by decide))
            clear hstep hbad
            go_wp2
            go_ret
            rw [HF.out]; exact ⟨rfl, rfl⟩
          · have HS := Lib.hid (hstep (by unfold nameC; exact decide_eq_true (by omega)))
            clear hstep hbad
            go_wp2
            go_round
            case rel => exact ⟨k + 1, by omega, by go_num, HS.out⟩
            case measure => simp [intOf]; omega
          · have HF := Lib.hid (hbad (by unfold nameC; exact decide_eq_false (by omega)))
            have n1 : ((c : Int) != 45) = true := bne_iff_ne.2 (by omega)
            have n2 : ((c : Int) != 46) = true := bne_iff_ne.2 (by omega)
            have d57 := decide_eq_false (show ¬ (c : Int) ≤ 57 by omega)
            clear hstep hbad
            go_wp2
            go_ret
            rw [HF.out]; exact ⟨rfl, rfl⟩
          · have HS := Lib.hid (hstep (by unfold nameC; exact decide_eq_true (by omega)))
            clear hstep hbad
            go_wp2
            go_round
            case rel => exact ⟨k + 1, by omega, by go_num, HS.out⟩
            case measure => simp [intOf]; omega
          · have HF := Lib.hid (hbad (by unfold nameC; exact decide_eq_false (by omega)))
            have n1 : ((c : Int) != 45) = true := bne_iff_ne.2 (by omega)
            have n2 : ((c : Int) != 46) = true := bne_iff_ne.2 (by omega)
            have d57 := decide_eq_false (show ¬ (c : Int) ≤ 57 by omega)
            have d122 := decide_eq_false (show ¬ (c : Int) ≤ 122 by omega)
            clear hstep hbad
            go_wp2
            go_ret
            rw [HF.out]; exact ⟨rfl, rfl⟩
        · obtain rfl : k = s.size := by omega
          have HF := Lib.hid (HO.out (fun j hj => hall.out j hj hj))
          go_wp2
          go_ret
          rw [HF.out]; exact ⟨rfl, rfl⟩
    · have HF := Lib.hid (nameB_head h0 hh)
      by_cases h1 : (97 : Int) ≤ (s[0].toNat : Int)
      · have h2 : ¬ (s[0].toNat : Int) ≤ 122 := fun h => hh ⟨h1, h⟩
        clear hh
        go_enter Try.func54, Try.ntmps54
        go_wp2
        go_ret
        rw [HF.out]; exact ⟨rfl, rfl⟩
      · clear hh
        go_enter Try.func54, Try.ntmps54
        go_wp2
        go_ret
        rw [HF.out]; exact ⟨rfl, rfl⟩
  · have HF := Lib.hid (nameB_size hz)
    by_cases h1 : s.size < 1
    · clear hz
      go_enter Try.func54, Try.ntmps54
      go_wp2
      go_ret
      rw [HF.out]; exact ⟨rfl, rfl⟩
    · have h2 : s.size > 16 := by omega
      clear hz
      go_enter Try.func54, Try.ntmps54
      go_wp2
      go_ret
      rw [HF.out]; exact ⟨rfl, rfl⟩
set_option maxRecDepth 100000 in
set_option maxHeartbeats 800000 in
theorem isnamer_any (s : ByteArray) (w : World) (hs : s.size ≤ 140737488355328) :
    Calls Try.prog 26 #[.string s] w fun e w' => e = .returned (.bool (nameB s)) ∧ w = w' := by
  by_cases hz : 1 ≤ s.size ∧ s.size ≤ 16
  · have h0 : 0 < s.size := by omega
    by_cases hh : (97 : Int) ≤ (s[0].toNat : Int) ∧ (s[0].toNat : Int) ≤ 122
    · have HB := Lib.hid (fun k (h : k < s.size) hb => nameB_bad h hb)
      have HO := Lib.hid (fun h2 => nameB_ok hz h0 hh h2)
      generalize nameB s = B at *
      obtain ⟨z1, z2⟩ := hz
      obtain ⟨hh1, hh2⟩ := hh
      go_enter Try.func26, Try.ntmps26
      go_wp2
      go_loop [3] (fun i => ∃ k : Nat, k ≤ s.size ∧ i = .int .i64 k ∧ Hid (∀ j (hj : j < k) (hs : j < s.size), nameC (s[j].toNat : Int) = true)) (fun i => s.size - (intOf i).toNat)
      case atStart => exact ⟨0, by omega, rfl, fun j hj => absurd hj (by omega)⟩
      case round =>
        obtain ⟨k, hk, rfl, hall⟩ := hrel
        by_cases hlt : k < s.size
        · have hbad := HB.out k hlt
          obtain ⟨c, hc⟩ : ∃ c, s[k].toNat = c := ⟨_, rfl⟩
          have hstep : nameC (c : Int) = true → Hid (∀ j (hj : j < k + 1) (hs : j < s.size), nameC (s[j].toNat : Int) = true) := fun h j hj hs => by
            by_cases e : j = k
            · subst e; rw [hc]; exact h
            · exact hall.out j (by omega) hs
          rw [hc] at hbad
          clear hh1 hh2
          rcases byte8 c with h | rfl | rfl | rfl | ⟨h, h'⟩ | ⟨h, h'⟩ | ⟨h, h'⟩ | h
          · have HF := Lib.hid (hbad (by unfold nameC; exact decide_eq_false (by omega)))
            have n1 : ((c : Int) != 45) = true := bne_iff_ne.2 (by omega)
            have n2 : ((c : Int) != 46) = true := bne_iff_ne.2 (by omega)
            clear hstep hbad
            go_wp2
            go_ret
            rw [HF.out]; exact ⟨rfl, rfl⟩
          · have HS := Lib.hid (hstep (by decide))
            clear hstep hbad
            go_wp2
            go_round
            case rel => exact ⟨k + 1, by omega, by go_num, HS.out⟩
            case measure => simp [intOf]; omega
          · have HS := Lib.hid (hstep (by decide))
            clear hstep hbad
            go_wp2
            go_round
            case rel => exact ⟨k + 1, by omega, by go_num, HS.out⟩
            case measure => simp [intOf]; omega
          · have HF := Lib.hid (hbad (by decide))
            clear hstep hbad
            go_wp2
            go_ret
            rw [HF.out]; exact ⟨rfl, rfl⟩
          · have HS := Lib.hid (hstep (by unfold nameC; exact decide_eq_true (by omega)))
            clear hstep hbad
            go_wp2
            go_round
            case rel => exact ⟨k + 1, by omega, by go_num, HS.out⟩
            case measure => simp [intOf]; omega
          · have HF := Lib.hid (hbad (by unfold nameC; exact decide_eq_false (by omega)))
            have n1 : ((c : Int) != 45) = true := bne_iff_ne.2 (by omega)
            have n2 : ((c : Int) != 46) = true := bne_iff_ne.2 (by omega)
            have d57 := decide_eq_false (show ¬ (c : Int) ≤ 57 by omega)
            clear hstep hbad
            go_wp2
            go_ret
            rw [HF.out]; exact ⟨rfl, rfl⟩
          · have HS := Lib.hid (hstep (by unfold nameC; exact decide_eq_true (by omega)))
            clear hstep hbad
            go_wp2
            go_round
            case rel => exact ⟨k + 1, by omega, by go_num, HS.out⟩
            case measure => simp [intOf]; omega
          · have HF := Lib.hid (hbad (by unfold nameC; exact decide_eq_false (by omega)))
            have n1 : ((c : Int) != 45) = true := bne_iff_ne.2 (by omega)
            have n2 : ((c : Int) != 46) = true := bne_iff_ne.2 (by omega)
            have d57 := decide_eq_false (show ¬ (c : Int) ≤ 57 by omega)
            have d122 := decide_eq_false (show ¬ (c : Int) ≤ 122 by omega)
            clear hstep hbad
            go_wp2
            go_ret
            rw [HF.out]; exact ⟨rfl, rfl⟩
        · obtain rfl : k = s.size := by omega
          have HF := Lib.hid (HO.out (fun j hj => hall.out j hj hj))
          go_wp2
          go_ret
          rw [HF.out]; exact ⟨rfl, rfl⟩
    · have HF := Lib.hid (nameB_head h0 hh)
      by_cases h1 : (97 : Int) ≤ (s[0].toNat : Int)
      · have h2 : ¬ (s[0].toNat : Int) ≤ 122 := fun h => hh ⟨h1, h⟩
        clear hh
        go_enter Try.func26, Try.ntmps26
        go_wp2
        go_ret
        rw [HF.out]; exact ⟨rfl, rfl⟩
      · clear hh
        go_enter Try.func26, Try.ntmps26
        go_wp2
        go_ret
        rw [HF.out]; exact ⟨rfl, rfl⟩
  · have HF := Lib.hid (nameB_size hz)
    by_cases h1 : s.size < 1
    · clear hz
      go_enter Try.func26, Try.ntmps26
      go_wp2
      go_ret
      rw [HF.out]; exact ⟨rfl, rfl⟩
    · have h2 : s.size > 16 := by omega
      clear hz
      go_enter Try.func26, Try.ntmps26
      go_wp2
      go_ret
      rw [HF.out]; exact ⟨rfl, rfl⟩
end Go.Proofs.Ythlaenafkihjiaa
/- Plain lemmas about the relations that the programs print. No condition. -/
namespace Go.Proofs.Ythlaenafkihjiaa
open Go.RowKit
set_option linter.unusedVariables false
set_option linter.unusedSimpArgs false
/-- A loop: k rounds at most are to come. -/
theorem lp_up {σ : Type} {step : (σ → Prop) → σ → Prop} (I : Nat → σ → Prop) (h : ∀ k s, I k s → ∀ X : σ → Prop, (∀ k' s', k' < k → I k' s' → X s') → step X s) {k : Nat} {s : σ} (h0 : I k s) : lp step s := by
  intro X hX
  have key : ∀ k s, I k s → X s := by
    intro k
    induction k using Nat.strongRecOn with
    | _ k ih => exact fun s hs => hX s (h k s hs X fun k' s' hk hs' => ih k' hk s' hs')
  exact key k s h0
theorem ix_of {α : Type} {l : List α} {n : Int} {j : Nat} {x : α} (hn : n = (j : Int)) (h : l[j]? = some x) : ix l n x := by
  subst hn; exact ⟨by omega, by simpa using h⟩
theorem bx_of {s : ByteArray} {n v : Int} {j : Nat} (hn : n = (j : Int)) (hj : j < s.size) (h : v = (s[j].toNat : Int)) : bx s n v := by
  subst hn; exact ⟨by omega, s[j], by simp [hj], h⟩
theorem wr64 {n : Int} (h : -9223372036854775808 ≤ n ∧ n ≤ 9223372036854775807) : IntKind.i64.wrap n = n := by rw [IntKind.wrap_i64]; omega
theorem toNat_c (n : Nat) : Int.toNat (n : Int) = n := by simp
def wI (n lo hi : Int) : Bool := decide (lo ≤ n ∧ n ≤ hi)
end Go.Proofs.Ythlaenafkihjiaa
