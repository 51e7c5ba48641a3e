/- Parts of the proof, laid together. No condition. -/
import Derived.Test.YtimfmcpbkdpmoaaGreatKB2
import Derived.Laws.Bits64
import Derived.Lib.Mul64
import Derived.Laws.Bits64b
set_option linter.unusedVariables false
set_option linter.unusedSimpArgs false
namespace Go.Proofs.YtimfmcpbkdpmoaaGreat
open Go.RowKit
def hB (k : Nat) : Qs := (Nat.add 65537 k, 0)
def inH : Nat → List (Nat × List (List PV)) → List (Qs × Option Bk)
 | _, [] => []
 | k, (e, rows) :: r => (hB k, some (.row e rows true)) :: inH (Nat.add k 1) r
def enT : Nat → List TV → List (Nat × TV)
 | _, [] => []
 | j, t :: r => (j, t) :: enT (Nat.add j 1) r
theorem Qhg : ∀ (ins : List (Nat × List (List PV))) (k : Nat) (b : Qs), Y4 (inH k ins) b = if b.2 = 0 ∧ 65537 + k ≤ b.1 then (match ins[b.1 - (65537 + k)]? with | some x => some (some (.row x.1 x.2 true)) | none => none) else none := by
 intro ins
 induction ins with
 | nil => intro k b; simp [inH, Y4]
 | cons x ins ih =>
  obtain ⟨e, rows⟩ := x
  intro k b
  have key := ih (k + 1) b
  obtain ⟨b1, b2⟩ := b
  simp only [inH, Y4]
  cases hq : Xb (hB k) (b1, b2) with
  | true =>
   have := Zb.1 hq
   simp only [hB, Nat.add_eq, Prod.mk.injEq] at this
   obtain ⟨h1, h2⟩ := this
   simp only
   rw [if_pos (by first | omega | (simp only; omega)), show b1 - (65537 + k) = 0 by omega]
   rfl
  | false =>
   have hne : ¬ (65537 + k = b1 ∧ 0 = b2) := by
    intro h
    have : Xb (hB k) (b1, b2) = true := Zb.2 (by simp only [hB, Nat.add_eq, h.1, h.2])
    rw [hq] at this; cases this
   simp only [Nat.add_eq]
   rw [key]
   simp only
   by_cases h : b2 = 0 ∧ 65537 + (k + 1) ≤ b1
   ·rw [if_pos h, if_pos (by omega), show b1 - (65537 + k) = (b1 - (65537 + (k + 1))) + 1 by omega, List.getElem?_cons_succ]
   ·rw [if_neg h]
    rw [if_neg (by omega)]
def Qb5 (st : St) : Nat → List (Nat × List (List PV)) → List (Option (List (List PV))) → Prop
 | _, [], [] => True
 | k, x :: ins, y :: outs => (∀ rows', y = some rows' → st.h (hB k) = some (.row x.1 rows' true)) ∧ Qb5 st (Nat.add k 1) ins outs
 | _, _, _ => False
theorem Q46 {st : St} : ∀ {ins : List (Nat × List (List PV))} {outs : List (Option (List (List PV)))} {k : Nat}, Qb5 st k ins outs → outs.length = ins.length ∧ ∀ i e rows rows', ins[i]? = some (e, rows) → outs[i]? = some (some rows') → st.h (hB (k + i)) = some (.row e rows' true)
 | [], [], k, h => ⟨rfl, fun i e rows rows' h => by simp at h⟩
 | [], _ :: _, k, h => h.elim
 | _ :: _, [], k, h => h.elim
 | x :: ins, y :: outs, k, h => by
  obtain ⟨h1, h2⟩ := h
  obtain ⟨h3, h4⟩ := Q46 h2
  refine ⟨by simp [h3], fun i e rows rows' hi ho => ?_⟩
  cases i with
  | zero =>
   rw [List.getElem?_cons_zero] at hi ho
   cases hi; cases ho
   exact h1 rows' rfl
  | succ i =>
   rw [show k + (i + 1) = k + 1 + i by omega]
   exact h4 i e rows rows' (by simpa using hi) (by simpa using ho)
def Q87 : Nat → List (Option (List (List PV))) → List Qs
 | _, [] => []
 | k, some _ :: r => hB k :: Q87 (Nat.add k 1) r
 | k, none :: r => Q87 (Nat.add k 1) r
theorem TU : ∀ {outs : List (Option (List (List PV)))} {k i : Nat} {rows' : List (List PV)}, outs[i]? = some (some rows') → hB (k + i) ∈ Q87 k outs
 | [], k, i, rows', h => by simp at h
 | y :: outs, k, i, rows', h => by
  cases i with
  | zero => rw [List.getElem?_cons_zero] at h; cases h; exact List.mem_cons_self
  | succ i =>
   have h2 : outs[i]? = some (some rows') := by simpa using h
   have := TU (k := k + 1) h2
   rw [show k + (i + 1) = k + 1 + i by omega]
   cases y with
   | none => exact this
   | some y => exact List.mem_cons_of_mem _ this
def Qhh {P : Program} (T : Tb P) (fn : Func) (ins : List (Nat × List (List PV))) (r : List RS) (outs : List (Option (List (List PV)))) : Exit → St → Prop := fun e st => (e = .normal ∨ e = .ret) ∧ ∃ ts os bs, LN T st fn.results.toList ts ∧ Mz st ts r os bs ∧ Qb5 st 0 ins outs ∧ Ix os = true ∧ CQ (os.filterMap id) bs = true ∧ CQ (Q87 0 outs) (os.filterMap id ++ bs) = true
structure CH (P : Program) (f : FuncId) (ins : List (Nat × List (List PV))) (ts : List TV) (r : List RS) (outs : List (Option (List (List PV)))) : Prop where
 ent : Iv P f = true
 run : ∃ (T : Tb P) (fn : Func) (body : Code), P.funcs[f]? = some fn ∧ fn.body = some body ∧ fn.ntmps ≤ 65536 ∧ ts.length ≤ fn.ntmps ∧ ∀ E, AW E fn.ntmps P body (Qhh T fn ins r outs) ⟨enT 0 ts, inH 0 ins⟩
inductive HC (st : St) (σ : List Qs) : CV → CV → List Qs → Prop
 | p {c : CV} {x : PV} {bs : List Qs} (h : ToC st c (.p x) none bs) : HC st σ c (.p x) bs
 | sl {c : Qs} {k n n' : Nat} (h : σ[k]? = some c) (hn : n = n') : HC st σ (.sl c 0 n) (.sl (hB k) 0 n') []
 | ptr {c : Qs} {k i j i' j' : Nat} (h : σ[k]? = some c) (hi : i = i') (hj : j = j') : HC st σ (.ptr c i j) (.ptr (hB k) i' j') []
inductive HCs (st : St) (σ : List Qs) : List CV → List CV → List Qs → Prop
 | nil : HCs st σ [] [] []
 | cons {c c' : CV} {b : List Qs} {cs cs' : List CV} {bs : List Qs} (h : HC st σ c c' b) (hs : HCs st σ cs cs' bs) : HCs st σ (c :: cs) (c' :: cs') (b ++ bs)
inductive HT (st : St) (σ : List Qs) : TV → TV → List Qs → Prop
 | c {c c' : CV} {bs : List Qs} (h : HC st σ c c' bs) : HT st σ (.c c) (.c c') bs
 | agg {cs cs' : List CV} {bs : List Qs} (h : HCs st σ cs cs' bs) : HT st σ (.agg cs) (.agg cs') bs
inductive HTs (st : St) (σ : List Qs) : List TV → List TV → List Qs → Prop
 | nil : HTs st σ [] [] []
 | cons {t t' : TV} {b : List Qs} {ts ts' : List TV} {bs : List Qs} (h : HT st σ t t' b) (hs : HTs st σ ts ts' bs) : HTs st σ (t :: ts) (t' :: ts') (b ++ bs)
def InS (st : St) : List Qs → List (Nat × List (List PV)) → Prop
 | [], [] => True
 | c :: σ, x :: ins => st.h c = some (.row x.1 x.2 true) ∧ InS st σ ins
 | _, _ => False
theorem Qhi {st : St} : ∀ {σ : List Qs} {ins : List (Nat × List (List PV))}, InS st σ ins → σ.length = ins.length ∧ ∀ (k : Nat) c, σ[k]? = some c → ∃ e rows, ins[k]? = some (e, rows) ∧ st.h c = some (.row e rows true)
 | [], [], h => ⟨rfl, fun k c h => by simp at h⟩
 | [], _ :: _, h => h.elim
 | _ :: _, [], h => h.elim
 | c :: σ, x :: ins, h => by
  obtain ⟨h3, h4⟩ := Qhi h.2
  refine ⟨by simp [h3], fun k c' hk => ?_⟩
  cases k with
  | zero => rw [List.getElem?_cons_zero] at hk; cases hk; exact ⟨x.1, x.2, rfl, h.1⟩
  | succ k => simpa using h4 k c' (by simpa using hk)
def H9 : List Qs → List (Nat × List (List PV)) → List (Option (List (List PV))) → List (Qs × Option Bk)
 | c :: σ, x :: ins, y :: outs => (c, y.map fun rows' => .row x.1 rows' true) :: H9 σ ins outs
 | _, _, _ => []
theorem Oi : ∀ {σ : List Qs} {ins : List (Nat × List (List PV))} {outs : List (Option (List (List PV)))} {b : Qs} {y : Option Bk}, Y4 (H9 σ ins outs) b = some y → ∃ (k : Nat) (x : Nat × List (List PV)) (o : Option (List (List PV))), σ[k]? = some b ∧ ins[k]? = some x ∧ outs[k]? = some o ∧ y = Option.map (fun rows' => Bk.row x.1 rows' true) o
 | [], _, _, b, y, h => by simp [H9, Y4] at h
 | _ :: _, [], _, b, y, h => by simp [H9, Y4] at h
 | _ :: _, _ :: _, [], b, y, h => by simp [H9, Y4] at h
 | c :: σ, x :: ins, o :: outs, b, y, h => by
  simp only [H9, Y4] at h
  cases hb : Xb c b with
  | true => rw [hb] at h; cases h; exact ⟨0, x, o, by rw [Zb.1 hb]; exact List.getElem?_cons_zero, rfl, rfl, rfl⟩
  | false =>
   rw [hb] at h
   obtain ⟨k, x', o', h1, h2, h3, h4⟩ := Oi h
   exact ⟨k + 1, x', o', by simpa using h1, by simpa using h2, by simpa using h3, h4⟩
theorem TW : ∀ {σ : List Qs} {ins : List (Nat × List (List PV))} {outs : List (Option (List (List PV)))} {k : Nat} {b : Qs}, σ.length = ins.length → outs.length = ins.length → σ[k]? = some b → Y4 (H9 σ ins outs) b ≠ none
 | [], _, _, k, b, _, _, h => by simp at h
 | _ :: _, [], _, k, b, h, _, _ => by simp at h
 | _ :: _, _ :: _, [], k, b, _, h, _ => by simp at h
 | c :: σ, x :: ins, o :: outs, k, b, hl, hl2, h => by
  simp only [H9, Y4]
  cases hb : Xb c b with
  | true => simp
  | false =>
   simp only
   cases k with
   | zero => rw [List.getElem?_cons_zero] at h; cases h; rw [Zb.2 rfl] at hb; cases hb
   | succ k => exact TW (by simpa using hl) (by simpa using hl2) (by simpa using h)
section
variable {E : En} {N : Nat} {cx : Cx} {st : St} {a : Act} {w w' : World} {P : Program} {T : Tb P} {ops : Array Oper} {o : Oper} {d : Nat} {ty : Nat} {pos : String} {af : Array Edge} {gg : Option (Nat × Bool)}
theorem ON (hr : XG E N cx st a w) (hd : ∀ d, o.dst = some d → d < N) (hdN : d < N) {r : List RS} {us : List Value} {v : Value} {A2 : Nat → Prop} {gs2 : Nat → Option Nat} {pl : List (Qs × Option Bk)} {fz : List Qs}
  (hfresh : ∀ (n e : Nat) (rows : List (List PV)), (QT r)[n]? = some (.own e rows) → Wp (d, n) st) (hA2 : ∀ x, cx.A x → A2 x)
  (hA2' : ∀ x, A2 x → cx.A x ∨ (w.heap.size ≤ x ∧ x < w'.heap.size) ∨ ∃ b, (b ∈ fz ∨ Y4 pl b ≠ none) ∧ st.h b ≠ none ∧ ∃ q, cx.ι b = some (x, q))
  (hfz : ∀ b ∈ fz, (∃ e rows mu, st.h b = some (.row e rows mu)) ∧ ∀ g q, cx.ι b = some (g, q) → A2 g) (hfd : ∀ b, Y4 pl b ≠ none → b ∉ fz)
  (hdl : ∀ b y, Y4 pl b = some y → (∃ e rows, st.h b = some (.row e rows true)) ∧ ∀ bk, y = some bk → ∃ e rows rows', st.h b = some (.row e rows true) ∧ bk = .row e rows' true ∧ rows.length ≤ rows'.length ∧ RB ⟨cx.ι, A2⟩ w' st.h b (.row e rows' true))
  (hsz : w.heap.size ≤ w'.heap.size) (hszk : SzK w w') (hkept : ∀ x, x < w.heap.size → (∀ b, Y4 pl b ≠ none → ∀ q, cx.ι b ≠ some (x, q)) → w'.heap[x]? = w.heap[x]?) (hos : w'.os = w.os) (htp : w'.tape = w.tape) (hou : w'.output = w.output)
  (hinj : Q7p gs2) (hgs : ∀ n x, gs2 n = some x → x < w'.heap.size ∧ (w.heap.size ≤ x ∨ ∃ b, Y4 pl b = some none ∧ ∃ q, cx.ι b = some (x, q))) (hval : My w' A2 gs2 0 (QT r) us)
  (hrt : ∀ (cx : Cx) (h : Qs → Option Bk), (∀ k x u, (QT r)[k]? = some x → us[k]? = some u → RC cx w' h (adC d k x) u) → RT cx w' h (HY d r) v) :
  ∃ cx', XG E N cx' (Ef.ap ⟨HY d r, AD d 0 (QT r) ++ (pl ++ YH st fz)⟩ o st) (a.put o.dst v) w' := by
 obtain ⟨hul, hua⟩ := Di hval
 have hpn : ∀ b, Y4 pl b ≠ none → ∃ e rows, st.h b = some (.row e rows true) := fun b h => by
  obtain ⟨y, hy⟩ := Option.ne_none_iff_exists'.1 h
  exact (hdl b y hy).1
 have hpll : ∀ b, Y4 pl b ≠ none → st.h b ≠ none := fun b hb => by obtain ⟨_, _, h⟩ := hpn b hb; rw [h]; simp
 have hplA : ∀ b, Y4 pl b ≠ none → ∀ x q, cx.ι b = some (x, q) → ¬ cx.A x := by
  intro b hb x q hx
  obtain ⟨e1, rows, hbk⟩ := hpn b hb
  obtain ⟨_, _, h8⟩ := hr.bl b _ hbk
  rw [hx] at h8
  obtain ⟨_, c, el, fz, capR, _, h9, _⟩ := h8
  exact (h9 rfl).2
 have hkeep : Xy cx.A w w' := ⟨hsz, fun x hA hx => hkept x hx (fun b hb q hq => hplA b hb x q hq hA), hszk⟩
 generalize hL : QT r = L at *
 let st' := Ef.ap ⟨HY d r, AD d 0 L ++ (pl ++ YH st fz)⟩ o st
 -- the blocks behind
 have hh : ∀ x, st'.h x = match (if x.1 = d then L[x.2]? else none) with
   | some (.own e rows) => some (.row e rows true)
   | _ => match Y4 pl x with
    | some y => y
    | none => if x ∈ fz then frz (st.h x) else st.h x := by
  intro x
  have key : (Y4 (pl ++ YH st fz ++ st.H) x).getD none = match Y4 pl x with
    | some y => y
    | none => if x ∈ fz then frz (st.h x) else st.h x := by
   rw [List.append_assoc, Xc, Xc, Q7q]
   cases Y4 pl x with
   | some y => rfl
   | none =>
    simp only [Option.none_or]
    by_cases h2 : x ∈ fz
    ·rw [if_pos h2, if_pos h2]; rfl
    ·rw [if_neg h2, if_neg h2]; rfl
  show (Y4 (AD d 0 L ++ (pl ++ YH st fz) ++ st.H) x).getD none = _
  rw [List.append_assoc, Xc, Wq]
  by_cases hx : x.1 = d
  ·rw [if_pos ⟨hx, Nat.zero_le _⟩, if_pos hx, Nat.sub_zero]
   cases hy : L[x.2]? with
   | none => simp only [Option.none_or]; exact key
   | some y =>
    cases y with
    | p p => simp only [Option.none_or]; exact key
    | own e rows => rfl
  ·rw [if_neg (fun h => hx h.1), if_neg hx]
   simp only [Option.none_or]
   exact key
 -- which are new
 let nw : Qs → Bool := fun b => match (if b.1 = d then L[b.2]? else none) with
  | some (.own _ _) => true
  | _ => false
 have hnw : ∀ b, nw b = true → ∃ n e rows, b = (d, n) ∧ L[n]? = some (.own e rows) := by
  intro b hb
  simp only [nw] at hb
  by_cases h1 : b.1 = d
  ·rw [if_pos h1] at hb
   cases hx : L[b.2]? with
   | none => rw [hx] at hb; cases hb
   | some x =>
    rw [hx] at hb
    cases x with
    | p p => cases hb
    | own e rows => exact ⟨b.2, e, rows, by rw [← h1], hx⟩
  ·rw [if_neg h1] at hb; cases hb
 have hnw2 : ∀ n e rows, L[n]? = some (.own e rows) → nw (d, n) = true := by
  intro n e rows h
  simp only [nw, if_true, h]
 have hnwn : ∀ x, nw x = true → st.h x = none := fun x hx => by
  obtain ⟨n, e, rows, rfl, h⟩ := hnw x hx
  exact (hfresh n e rows h).1
 have hold' : ∀ x, st.h x ≠ none → nw x = false := fun x hx => by
  cases h : nw x with
  | false => rfl
  | true => exact absurd (hnwn x h) hx
 have hh1 : ∀ x, nw x = false → st'.h x = match Y4 pl x with
   | some y => y
   | none => if x ∈ fz then frz (st.h x) else st.h x := by
  intro x hx
  rw [hh]
  simp only [nw] at hx
  revert hx
  generalize (if x.1 = d then L[x.2]? else none) = y
  intro hx
  match y, hx with
  | none, _ => rfl
  | some (.p _), _ => rfl
  | some (.own _ _), hx => cases hx
 have hh2 : ∀ n e rows, L[n]? = some (.own e rows) → st'.h (d, n) = some (.row e rows true) := by
  intro n e rows h
  rw [hh]
  simp only [if_true, h]
 -- what was live
 have hold : ∀ x, nw x = false → st'.h x ≠ none → st.h x ≠ none ∧ Y4 pl x ≠ some none := by
  intro x hx h
  rw [hh1 x hx] at h
  cases hp : Y4 pl x with
  | some y =>
   rw [hp] at h
   exact ⟨hpll x (by rw [hp]; simp), fun e => by cases e; exact h rfl⟩
  | none =>
   rw [hp] at h
   refine ⟨?_, by simp⟩
   simp only at h
   split at h
   ·intro e; rw [e] at h; exact h rfl
   ·exact h
 let cx2 : Cx := ⟨fun b => if nw b = true then ιOf (gs2 b.2) ((us[b.2]?).getD undef) else cx.ι b, A2⟩
 have hι1 : ∀ b, nw b = true → cx2.ι b = ιOf (gs2 b.2) ((us[b.2]?).getD undef) := fun b h => by show (if nw b = true then _ else _) = _; rw [if_pos h]
 have hι2 : ∀ b, nw b = false → cx2.ι b = cx.ι b := fun b h => by show (if nw b = true then _ else _) = _; rw [if_neg (by rw [h]; simp)]
 have hnew : ∀ b g q, nw b = true → cx2.ι b = some (g, q) → gs2 b.2 = some g := by
  intro b g q h1 h2
  rw [hι1 b h1] at h2
  exact (ιOf_in h2).1
 -- an old block that stays is not touched
 have hstay : ∀ x gx qx, st.h x ≠ none → Y4 pl x = none → cx.ι x = some (gx, qx) → w'.heap[gx]? = w.heap[gx]? := by
  intro x gx qx h1 h3 h4
  refine hkept gx (hr.own x gx qx h1 h4).1 (fun y hy q' hq => ?_)
  exact hr.inj x y gx qx gx q' h1 (hpll y hy) h4 hq (fun e => hy (e ▸ h3)) rfl
 have hown2 : ∀ k x u, L[k]? = some x → us[k]? = some u → RC cx2 w' st'.h (adC d k x) u := by
  intro k x u hk hu
  obtain ⟨u', hu', h1, h2⟩ := hua k x hk
  rw [hu] at hu'
  cases hu'
  rw [Nat.zero_add] at h2
  cases x with
  | p p => exact h2
  | own e rows =>
   have hn := hnw2 k e rows hk
   exact Od (cx := cx2) h2 (hh2 k e rows hk) (by rw [hι1 _ hn]; simp [hu])
 refine ⟨cx2, hr.step (ef := ⟨HY d r, AD d 0 L ++ (pl ++ YH st fz)⟩) hd ((AD d 0 L).map (·.1)) (fun x hx => ?_) hA2 (fun x hx => ?_) hkeep (fun x hx hM => ?_) hos htp hou (fun x hx => ?_) (fun x bk hx => ?_) (fun x x' gx qx gx' qx' hx hx' hi hi' hne => ?_) (fun x gx qx hx hi => ?_) ?_ ?_⟩
 ·obtain ⟨y, hy⟩ := GW hx
  rw [Wq] at hy
  split at hy
  ·rename_i h1
   rw [Nat.sub_zero] at hy
   cases hz : L[x.2]? with
   | none => rw [hz] at hy; cases hy
   | some z =>
    rw [hz] at hy
    cases z with
    | p p => cases hy
    | own e rows =>
     have := hfresh x.2 e rows hz
     obtain ⟨b1, b2⟩ := x
     simp only at h1
     rw [← h1.1] at this
     exact this
  ·cases hy
 ·rcases hA2' x hx with h | h | ⟨y, hy, hyl, q, hq⟩
  ·exact .inl h
  ·exact .inr ⟨h.2, .inl (Nat.le_trans hr.sz h.1)⟩
  ·obtain ⟨h1, h2⟩ := hr.own y x q hyl hq
   exact .inr ⟨Nat.lt_of_lt_of_le h1 hsz, h2⟩
 ·refine hkept x (Nat.lt_of_lt_of_le hx hr.sz) (fun y hy q' hq => ?_)
  rcases (hr.own y x q' (hpll y hy) hq).2 with h | h
  ·omega
  ·exact hM h
 ·have hb' : nw x = false := by
   cases h : nw x with
   | false => rfl
   | true =>
    obtain ⟨n, e, rows, rfl, h1⟩ := hnw x h
    exfalso
    refine hx ?_
    have := Wq d L 0 (d, n)
    rw [if_pos ⟨rfl, Nat.zero_le _⟩, Nat.sub_zero, h1] at this
    exact List.mem_map.2 ⟨_, YF this, rfl⟩
  intro bk' hbk
  have hbk2 : st'.h x = some bk' := hbk
  obtain ⟨hl1, hl2⟩ := hold x hb' (by rw [hbk2]; simp)
  rw [hh1 x hb'] at hbk2
  cases hp : Y4 pl x with
  | some y =>
   rw [hp] at hbk2
   simp only at hbk2
   subst hbk2
   obtain ⟨e, rows, rows', h1, rfl, h3, h4⟩ := (hdl x _ hp).2 _ rfl
   refine ⟨_, h1, rfl, h3, hι2 x hb', fun gx qx c el fz' h6 h7 => ?_⟩
   obtain ⟨c', el', fz2, h8, h9⟩ := hszk gx c el fz' h7
   exact ⟨c', el', fz2, h8, fun _ => h9⟩
  | none =>
   rw [hp] at hbk2
   simp only at hbk2
   have hex : ∃ bk, st.h x = some bk ∧ bk.e = bk'.e ∧ bk.len ≤ bk'.len := by
    split at hbk2
    ·rename_i hf
     obtain ⟨⟨e, rows, mu, h1⟩, _⟩ := hfz x hf
     rw [h1] at hbk2 ⊢
     cases hbk2
     exact ⟨_, rfl, rfl, Nat.le_refl _⟩
    ·exact ⟨bk', hbk2, rfl, Nat.le_refl _⟩
   obtain ⟨bk, h3, h4, h5⟩ := hex
   refine ⟨bk, h3, h4, h5, hι2 x hb', fun gx qx c el fz' h6 h7 => ⟨c, el, fz', ?_, fun _ => rfl⟩⟩
   rw [hstay x gx qx hl1 hp h6]; exact h7
 ·have hx0 : st'.h x = some bk := hx
  cases hb' : nw x with
  | true =>
   obtain ⟨n, e, rows, rfl, h1⟩ := hnw x hb'
   rw [hh2 n e rows h1] at hx0
   cases hx0
   obtain ⟨u, hu, h2, h3⟩ := hua n _ h1
   refine .inr (Oe (cx := cx2) (go := gs2 n) (u := u) ?_ ?_)
   ·rw [Nat.zero_add] at h3; exact h3
   ·rw [hι1 _ hb']; simp [hu]
  | false =>
   obtain ⟨hl1, hl2⟩ := hold x hb' (by rw [hx0]; simp)
   have hx1 := hx0
   rw [hh1 x hb'] at hx1
   cases hp : Y4 pl x with
   | some y =>
    rw [hp] at hx1
    simp only at hx1
    subst hx1
    obtain ⟨e, rows, rows', h1, rfl, h3, h4⟩ := (hdl x _ hp).2 _ rfl
    right
    obtain ⟨h5, h6, h7⟩ := h4
    refine ⟨h5, h6, ?_⟩
    rw [hι2 x hb']
    exact h7
   | none =>
    rw [hp] at hx1
    simp only at hx1
    split at hx1
    ·rename_i hf
     obtain ⟨⟨e, rows, mu, h3⟩, h4⟩ := hfz x hf
     rw [h3] at hx1
     cases hx1
     right
     obtain ⟨h5, h6, h7⟩ := hr.bl x _ h3
     refine ⟨h5, h6, ?_⟩
     rw [hι2 x hb']
     revert h7
     cases hi : cx.ι x with
     | none => exact id
     | some y =>
      obtain ⟨gx, qx⟩ := y
      rintro ⟨rfl, c, el, fz', capR, h8, h9, h10, h11, h12, h13, h14⟩
      exact ⟨rfl, c, el, fz', capR, by rw [hstay x gx 0 hl1 hp hi]; exact h8, (fun h => by cases h), fun _ => h4 gx 0 hi, h11, h12, h13, fun i r k p hi hk => let ⟨cv, hcv, hp⟩ := h14 i r k p hi hk; ⟨cv, hcv, hp.keeps hA2 hkeep⟩⟩
    ·rename_i hf
     refine .inl ⟨?_, hx1, hι2 x hb', fun gx qx hi => ?_⟩
     ·intro hm
      obtain ⟨y, hy⟩ := GW hm
      rw [Wq] at hy
      split at hy
      ·rename_i h1
       rw [Nat.sub_zero] at hy
       simp only [nw] at hb'
       rw [if_pos h1.1] at hb'
       revert hb' hy
       generalize L[x.2]? = z
       intro hb' hy
       match z, hb', hy with
       | none, _, hy => cases hy
       | some (.p _), _, hy => cases hy
       | some (.own _ _), hb', _ => cases hb'
      ·cases hy
     ·refine ⟨hstay x gx qx hl1 hp hi, fun hnA hA => ?_⟩
      rcases hA2' gx hA with h | h | ⟨y, hy, hyl, q2, hq2⟩
      ·exact hnA h
      ·have := (hr.own x gx qx hl1 hi).1
       omega
      ·refine hr.inj x y gx qx gx q2 hl1 hyl hi hq2 ?_ rfl
       rintro rfl
       rcases hy with hy | hy
       ·exact hf hy
       ·exact hy hp
 ·have hmix : ∀ x x' gx qx gx' qx', nw x = true → nw x' = false → st'.h x' ≠ none → cx2.ι x = some (gx, qx) → cx2.ι x' = some (gx', qx') → gx ≠ gx' := by
   intro x x' gx qx gx' qx' h1 h2 h3 h4 h5 e
   subst e
   obtain ⟨h6, h8⟩ := hgs _ _ (hnew x gx qx h1 h4)
   obtain ⟨hl1, hl2⟩ := hold x' h2 h3
   rw [hι2 x' h2] at h5
   rcases h8 with h8 | ⟨y, hy, q', hq⟩
   ·have := (hr.own x' gx qx' hl1 h5).1
    omega
   ·refine hr.inj x' y gx qx' gx q' hl1 (hpll y (by rw [hy]; simp)) h5 hq ?_ rfl
    rintro rfl
    exact hl2 hy
  cases h1 : nw x <;> cases h2 : nw x'
  ·rw [hι2 x h1] at hi
   rw [hι2 x' h2] at hi'
   exact hr.inj x x' gx qx gx' qx' (hold x h1 hx).1 (hold x' h2 hx').1 hi hi' hne
  ·exact fun e => hmix x' x gx' qx' gx qx h2 h1 hx hi' hi e.symm
  ·exact hmix x x' gx qx gx' qx' h1 h2 hx' hi hi'
  ·have e1 := hnew x gx qx h1 hi
   have e2 := hnew x' gx' qx' h2 hi'
   obtain ⟨n, e, rows, rfl, _⟩ := hnw x h1
   obtain ⟨n', e', rows', rfl, _⟩ := hnw x' h2
   rintro rfl
   have := hinj n n' gx e1 e2
   exact hne (by rw [this])
 ·cases h1 : nw x with
  | true =>
   obtain ⟨h5, h7⟩ := hgs _ _ (hnew x gx qx h1 hi)
   refine ⟨h5, ?_⟩
   rcases h7 with h7 | ⟨y, hy, q', hq⟩
   ·exact .inl (Nat.le_trans hr.sz h7)
   ·exact (hr.own y gx q' (hpll y (by rw [hy]; simp)) hq).2
  | false =>
   rw [hι2 x h1] at hi
   obtain ⟨h3, h4⟩ := hr.own x gx qx (hold x h1 hx).1 hi
   exact ⟨Nat.lt_of_lt_of_le h3 hsz, h4⟩
 ·refine hrt cx2 _ (fun k x u hk hu => hown2 k x u hk hu)
 ·intro b hb
  refine hι2 b ?_
  cases h : nw b with
  | false => rfl
  | true =>
   obtain ⟨n, e, rows, h1, _⟩ := hnw b h
   have := hr.hN
   rcases hb with hb | hb
   ·rw [hb] at h1
    simp only [Ks, Prod.mk.injEq] at h1
    omega
   ·rw [h1] at hb
    simp only at hb
    omega
theorem Q47 {st' : St} {σ : List Qs} {c c' : CV} {bs : List Qs} (h : HC st σ c c' bs) (hb : ∀ b ∈ bs, st'.h b = st.h b) : HC st' σ c c' bs := by
 cases h with
 | p h => exact .p (HN h hb)
 | sl h hn => exact .sl h hn
 | ptr h hi hj => exact .ptr h hi hj
theorem Qd4 {st' : St} {σ : List Qs} {cs cs' : List CV} {bs : List Qs} (h : HCs st σ cs cs' bs) (hb : ∀ b ∈ bs, st'.h b = st.h b) : HCs st' σ cs cs' bs := by
 induction h with
 | nil => exact .nil
 | cons h hs ih => exact .cons (Q47 h fun b hm => hb b (List.mem_append_left _ hm)) (ih fun b hm => hb b (List.mem_append_right _ hm))
theorem Qd5 {st' : St} {σ : List Qs} {ts ts' : List TV} {bs : List Qs} (h : HTs st σ ts ts' bs) (hb : ∀ b ∈ bs, st'.h b = st.h b) : HTs st' σ ts ts' bs := by
 induction h with
 | nil => exact .nil
 | cons h hs ih =>
  refine .cons ?_ (ih fun b hm => hb b (List.mem_append_right _ hm))
  cases h with
  | c h => exact .c (Q47 h fun b hm => hb b (List.mem_append_left _ hm))
  | agg h => exact .agg (Qd4 h fun b hm => hb b (List.mem_append_left _ hm))
theorem Qb6 {σ : List Qs} {c c' : CV} {bs : List Qs} (h : HC st σ c c' bs) : ∀ b ∈ bs, ∃ e rows mu, st.h b = some (.row e rows mu) := by
 cases h with
 | p h => exact AE h
 | sl h _ => simp
 | ptr h _ _ => simp
theorem Qhj {σ : List Qs} {ts ts' : List TV} {bs : List Qs} (h : HTs st σ ts ts' bs) : ∀ b ∈ bs, ∃ e rows mu, st.h b = some (.row e rows mu) := by
 have hcs : ∀ {cs cs' bs}, HCs st σ cs cs' bs → ∀ b ∈ bs, ∃ e rows mu, st.h b = some (.row e rows mu) := by
  intro cs cs' bs h
  induction h with
  | nil => simp
  | cons h hs ih =>
   intro b hb
   rcases List.mem_append.1 hb with hb | hb
   ·exact Qb6 h b hb
   ·exact ih b hb
 induction h with
 | nil => simp
 | cons h hs ih =>
  intro b hb
  rcases List.mem_append.1 hb with hb | hb
  ·cases h with
   | c h => exact Qb6 h b hb
   | agg h => exact hcs h b hb
  ·exact ih b hb
theorem Td {st' : St} : ∀ {σ : List Qs} {ins : List (Nat × List (List PV))}, InS st σ ins → (∀ b ∈ σ, st'.h b = st.h b) → InS st' σ ins
 | [], [], h, _ => trivial
 | [], _ :: _, h, _ => h.elim
 | _ :: _, [], h, _ => h.elim
 | c :: σ, x :: ins, h, hb => ⟨by rw [hb c List.mem_cons_self]; exact h.1, Td h.2 fun b hm => hb b (List.mem_cons_of_mem _ hm)⟩
theorem Q88 : ∀ {ts : List TV} {j s : Nat} {t : TV}, Zy (enT j ts) s = some t → ∃ i, s = j + i ∧ ts[i]? = some t
 | [], j, s, t, h => by simp [enT, Zy] at h
 | x :: ts, j, s, t, h => by
  simp only [enT, Zy] at h
  cases hb : Nat.beq j s with
  | true => rw [hb] at h; cases h; exact ⟨0, by rw [Nat.eq_of_beq_eq_true hb]; rfl, rfl⟩
  | false =>
   rw [hb] at h
   obtain ⟨i, h1, h2⟩ := Q88 h
   exact ⟨i + 1, by simp only [Nat.add_eq] at h1; omega, by simpa using h2⟩
theorem Qpj (hr : XG E N cx st a w) {σ : List Qs} {A2 : Nat → Prop} {pin1 : Qs → Option (Nat × Nat)} {h0 : Qs → Option Bk} (hA : ∀ x, cx.A x → A2 x) (hpin : ∀ k c, σ[k]? = some c → pin1 (hB k) = cx.ι c) (hh : ∀ k c, σ[k]? = some c → h0 (hB k) = st.h c) :
  ∀ {ts ts' : List TV} {bs : List Qs}, HTs st σ ts ts' bs → (∀ b ∈ bs, ∀ g q, cx.ι b = some (g, q) → A2 g) → ∀ {vs : List Value}, vs.length = ts.length → (∀ (i : Nat) (t : TV), ts[i]? = some t → ∃ v, vs[i]? = some v ∧ RT cx w st.h t v) →
  ts'.length = ts.length ∧ ∀ (i : Nat) (t : TV), ts'[i]? = some t → ∃ v, vs[i]? = some v ∧ RT ⟨pin1, A2⟩ w h0 t v := by
 have hC : ∀ {c c' bs v}, HC st σ c c' bs → (∀ b ∈ bs, ∀ g q, cx.ι b = some (g, q) → A2 g) → RC cx w st.h c v → RC ⟨pin1, A2⟩ w h0 c' v := by
  intro c c' bs v h hb hv
  cases h with
  | p h => exact LM hr h hv hA hb (fun b h => by cases h)
  | @sl c k n n' hk hn =>
   subst hn
   intro bk hbk
   rw [hh k c hk] at hbk
   obtain ⟨a', cap, h1, h2, h3, h4, h5⟩ := hv bk hbk
   refine ⟨a', cap, h1, h2, h3, h4, ?_⟩
   rcases h5 with h5 | ⟨g, c1, el, fz, h6, h7⟩
   ·exact .inl h5
   ·exact .inr ⟨g, c1, el, fz, (hpin k c hk).trans h6, h7⟩
  | @ptr c k i j i' j' hk hi hj =>
   subst hi hj
   intro bk hbk
   rw [hh k c hk] at hbk
   obtain ⟨g, o, h1, h2⟩ := hv bk hbk
   exact ⟨g, o, (hpin k c hk).trans h1, h2⟩
 have hL : ∀ {cs cs' bs}, HCs st σ cs cs' bs → (∀ b ∈ bs, ∀ g q, cx.ι b = some (g, q) → A2 g) → ∀ {us : List Value}, us.length = cs.length → (∀ (i : Nat) (c : CV), cs[i]? = some c → ∃ u, us[i]? = some u ∧ u.oneCell' = true ∧ RC cx w st.h c u) →
   cs'.length = cs.length ∧ ∀ (i : Nat) (c : CV), cs'[i]? = some c → ∃ u, us[i]? = some u ∧ u.oneCell' = true ∧ RC ⟨pin1, A2⟩ w h0 c u := by
  intro cs cs' bs h
  induction h with
  | nil => intro _ us _ _; exact ⟨rfl, fun i c h => by simp at h⟩
  | @cons c c' b cs cs' bs h hs ih =>
   intro hb us hl hu
   cases us with
   | nil => simp at hl
   | cons u us =>
    obtain ⟨h1, h2⟩ := ih (fun b' hb' => hb b' (List.mem_append_right _ hb')) (us := us) (by simpa using hl) (fun i c hi => by simpa using hu (i + 1) c (by simpa using hi))
    refine ⟨by simp [h1], fun i x hi => ?_⟩
    cases i with
    | zero =>
     rw [List.getElem?_cons_zero] at hi
     cases hi
     obtain ⟨u', hu', h3, h4⟩ := hu 0 c rfl
     exact ⟨u', hu', h3, hC h (fun b' hb' => hb b' (List.mem_append_left _ hb')) h4⟩
    | succ i => simpa using h2 i x (by simpa using hi)
 intro ts ts' bs h
 induction h with
 | nil => intro _ vs _ _; exact ⟨rfl, fun i t h => by simp at h⟩
 | @cons t t' b ts ts' bs h hs ih =>
  intro hb vs hl hv
  cases vs with
  | nil => simp at hl
  | cons v vs =>
   obtain ⟨h1, h2⟩ := ih (fun b' hb' => hb b' (List.mem_append_right _ hb')) (vs := vs) (by simpa using hl) (fun i t hi => by simpa using hv (i + 1) t (by simpa using hi))
   refine ⟨by simp [h1], fun i x hi => ?_⟩
   cases i with
   | zero =>
    rw [List.getElem?_cons_zero] at hi
    cases hi
    obtain ⟨v', hv', h3⟩ := hv 0 t rfl
    refine ⟨v', hv', ?_⟩
    cases h with
    | c h =>
     have hone : v'.oneCell' = true := by
      rcases h3.1 with h4 | h4
      ·subst h4
       cases h with
       | p h => cases h
      ·exact h4
     exact ⟨.inr hone, hC h (fun b' hb' => hb b' (List.mem_append_left _ hb')) h3.2⟩
    | agg h =>
     obtain ⟨us, rfl, h4, h5⟩ := h3
     obtain ⟨h6, h7⟩ := hL h (fun b' hb' => hb b' (List.mem_append_left _ hb')) (us := us.toList) (by simpa using h4) (fun i c hi => by simpa using h5 i c hi)
     exact ⟨us, rfl, by simpa [h4] using h6.symm, fun i c hi => by simpa using h7 i c hi⟩
   | succ i => simpa using h2 i x (by simpa using hi)
theorem Qd6 {f : FuncId} {xs : Array Operand} {tys : Array TypeId} {ins : List (Nat × List (List PV))} {ts : List TV} {r : List RS} {outs : List (Option (List (List PV)))} {σ bs ids : List Qs} {bl : List (Qs × Option Bk)} {t : TV}
  (hcon : CH P f ins ts r outs) (hin : InS st σ ins) (hargs : HTs st σ (xs.toList.map st.ev) ts bs) (hlen : ∀ (k : Nat) (x : Nat × List (List PV)) (rows' : List (List PV)), ins[k]? = some x → outs[k]? = some (some rows') → x.2.length ≤ rows'.length) (hol : outs.length = ins.length)
  (hok : xs.toList.all Zm = true := by exact rfl) (hnod : Ix (σ.map some) = true := by exact rfl) (hdis : CQ σ bs = true := by exact rfl) (hids : (AD d 0 (QT r)).map (·.1) = ids := by exact rfl) (hbl : AD d 0 (QT r) ++ (H9 σ ins outs ++ YH st bs) = bl := by exact rfl) (ht : HY d r = t := by exact rfl) :
  ZO E N P ops ⟨some d, .call { callee := .value (.func f), args := xs, argTypes := tys }, ty, pos, af, gg⟩ st ⟨σ ++ bs, ids⟩ ⟨t, bl⟩ := by
 subst hids
 subst hbl
 subst ht
 intro st' ha hf hd cx a w Q hr
 have hbe : ∀ b ∈ σ ++ bs, st'.h b = st.h b := ha.2
 have hin' := Td hin (st' := st') fun b hb => hbe b (List.mem_append_left _ hb)
 have hargs' := Qd5 hargs (st' := st') fun b hb => hbe b (List.mem_append_right _ hb)
 obtain ⟨hsl, hsat⟩ := Qhi hin'
 have hlive := Qhj hargs'
 have hbn : ∀ b ∈ bs, st'.h b ≠ none := fun b hb => by obtain ⟨_, _, _, h⟩ := hlive b hb; rw [h]; simp
 have hdis' := X0 hdis
 have hnod' : ∀ {i j : Nat} {c : Qs}, σ[i]? = some c → σ[j]? = some c → i = j := fun {i j c} h1 h2 => Df hnod i j c (by rw [List.getElem?_map, h1]; rfl) (by rw [List.getElem?_map, h2]; rfl)
 have hσn : ∀ {k : Nat} {c : Qs}, σ[k]? = some c → st'.h c ≠ none := fun h => by obtain ⟨_, _, _, h2⟩ := hsat _ _ h; rw [h2]; simp
 let A2 : Nat → Prop := fun x => cx.A x ∨ ∃ b ∈ bs, st'.h b ≠ none ∧ ∃ q, cx.ι b = some (x, q)
 have hAsz : ∀ x, A2 x → x < w.heap.size := by
  rintro x (h | ⟨b, hb, hbl, q, hq⟩)
  ·exact (hr.A x h).1
  ·exact (hr.own b x q hbl hq).1
 have hmut : ∀ {k : Nat} {c : Qs}, σ[k]? = some c → ∀ g q, cx.ι c = some (g, q) → ¬ A2 g := by
  intro k c hk g q hg
  obtain ⟨e1, rows, _, hbk⟩ := hsat k c hk
  obtain ⟨_, _, h8⟩ := hr.bl c _ hbk
  rw [hg] at h8
  obtain ⟨_, c1, el, fz, capR, _, h9, _⟩ := h8
  rintro (h | ⟨z, hz, hzl, q2, hq2⟩)
  ·exact (h9 rfl).2 h
  ·refine hr.inj c z g q g q2 (hσn hk) hzl hg hq2 ?_ rfl
   rintro rfl
   exact hdis' c (List.mem_of_getElem? hk) hz
 let pin1 : Qs → Option (Nat × Nat) := fun b => if b.2 = 0 ∧ 65537 ≤ b.1 then (match σ[b.1 - 65537]? with | some c => cx.ι c | none => none) else none
 have hpin : ∀ k c, σ[k]? = some c → pin1 (hB k) = cx.ι c := by
  intro k c hk
  show (if (hB k).2 = 0 ∧ 65537 ≤ (hB k).1 then _ else _) = _
  rw [if_pos (by simp [hB])]
  simp only [hB, Nat.add_eq, Nat.add_sub_cancel_left, hk]
 let st0 : St := ⟨enT 0 ts, inH 0 ins⟩
 have hh0 : ∀ k c, σ[k]? = some c → st0.h (hB k) = st'.h c := by
  intro k c hk
  obtain ⟨e, rows, h1, h2⟩ := hsat k c hk
  show (Y4 (inH 0 ins) (hB k)).getD none = _
  rw [Qhg, if_pos (by simp [hB])]
  simp only [hB, Nat.add_eq, Nat.add_zero, Nat.add_sub_cancel_left, h1]
  rw [h2]; rfl
 have hst0 : ∀ b bk, st0.h b = some bk → ∃ k c e rows, b = hB k ∧ σ[k]? = some c ∧ ins[k]? = some (e, rows) ∧ bk = .row e rows true ∧ st'.h c = some bk := by
  intro b bk hb
  have hb1 : (Y4 (inH 0 ins) b).getD none = some bk := hb
  rw [Qhg] at hb1
  by_cases h : b.2 = 0 ∧ 65537 + 0 ≤ b.1
  ·rw [if_pos h] at hb1
   cases hx : ins[b.1 - (65537 + 0)]? with
   | none => rw [hx] at hb1; cases hb1
   | some x =>
    rw [hx] at hb1
    cases hb1
    obtain ⟨e, rows⟩ := x
    have hlt := (List.getElem?_eq_some_iff.1 hx).1
    obtain ⟨c, hc⟩ : ∃ c, σ[b.1 - (65537 + 0)]? = some c := ⟨σ[b.1 - (65537 + 0)], by simp⟩
    obtain ⟨e2, rows2, h2, h3⟩ := hsat _ c hc
    rw [hx] at h2; cases h2
    refine ⟨b.1 - (65537 + 0), c, e, rows, ?_, hc, hx, rfl, h3⟩
    obtain ⟨b1, b2⟩ := b
    simp only [hB, Nat.add_eq, Prod.mk.injEq] at h ⊢
    omega
  ·rw [if_neg h] at hb1; cases hb1
 obtain ⟨T, fn, body, hfn, hbody, hN2, htl, haw⟩ := hcon.run
 let E1 : En := ⟨w, A2, fun x => ∃ (k : Nat) (c : Qs) (q : Nat), σ[k]? = some c ∧ cx.ι c = some (x, q), pin1⟩
 have hev : ∀ x ∈ xs.toList, RT cx w st'.h (st.ev x) (a.eval x) := by
  intro x hx
  rw [← V8 ha (x := x) (by simp only [Op.operands, Call.operands]; simp at hx ⊢; exact .inr hx)]
  exact hr.ev (List.all_eq_true.1 hok x hx)
 obtain ⟨htsl, hts⟩ := Qpj hr (pin1 := pin1) (h0 := st0.h) (A2 := A2) (fun x hx => .inl hx) hpin hh0 hargs' (fun b hb g q hg => .inr ⟨b, hb, hbn b hb, q, hg⟩) (vs := (xs.map a.eval).toList) (by simp) (fun i t hi => by
  rw [List.getElem?_map, Option.map_eq_some_iff] at hi
  obtain ⟨x, hx, rfl⟩ := hi
  exact ⟨a.eval x, by rw [Array.toList_map, List.getElem?_map, hx]; rfl, hev x (List.mem_of_getElem? hx)⟩)
 have hvsz : (xs.map a.eval).size = ts.length := by rw [htsl]; simp
 have hr1 : XG E1 fn.ntmps ⟨pin1, A2⟩ st0 { tmps := (xs.map a.eval) ++ Array.replicate (fn.ntmps - (xs.map a.eval).size) undef, defers := [] } w := by
  refine ⟨rfl, by simp only [Array.size_append, Array.size_replicate]; omega, fun s => ?_, fun b bk hb => ?_, fun b b' g o g' o' hb hb' hi hi' hne => ?_, fun b g o hb hi => ?_, fun x hx => ⟨hAsz x hx, .inl hx⟩, fun x hx => hx, fun _ _ _ => rfl, Nat.le_refl _, rfl, rfl, rfl, hN2, fun _ _ => rfl, .refl _⟩
  ·have e : st0.g s = (Zy (enT 0 ts) s).getD (.c .any) := rfl
   rw [e]
   cases hl : Zy (enT 0 ts) s with
   | none => exact ⟨.inl rfl, trivial⟩
   | some t =>
    obtain ⟨i, h1, h2⟩ := Q88 hl
    rw [Nat.zero_add] at h1
    subst h1
    obtain ⟨v, h3, h4⟩ := hts s t h2
    have hi := (List.getElem?_eq_some_iff.1 h3).1
    have : ((xs.map a.eval) ++ Array.replicate (fn.ntmps - (xs.map a.eval).size) undef).getD s undef = v := by
     rw [Array.getD_eq_getD_getElem?, Array.getElem?_append_left (by simpa using hi)]
     rw [Array.getElem?_toList] at h3
     rw [h3]; rfl
    rw [this]
    exact h4
  ·obtain ⟨k, c, e, rows, rfl, h1, h2, rfl, h3⟩ := hst0 b bk hb
   obtain ⟨h5, h6, h7⟩ := hr.bl c _ h3
   refine ⟨h5, h6, ?_⟩
   have hp : (⟨pin1, A2⟩ : Cx).ι (hB k) = cx.ι c := hpin k c h1
   rw [hp]
   have hm := hmut h1
   revert h7 hm
   cases cx.ι c with
   | none => exact fun h _ => h
   | some y =>
    obtain ⟨gx, qx⟩ := y
    rintro ⟨rfl, c1, el, fz', capR, h8, h9, h10, h11, h12, h13, h14⟩ hm
    exact ⟨rfl, c1, el, fz', capR, h8, fun _ => ⟨(h9 rfl).1, hm gx 0 rfl⟩, (fun h => by cases h), h11, h12, h13, fun i r k p hi hk => let ⟨cv, hcv, hp⟩ := h14 i r k p hi hk; ⟨cv, hcv, hp.mono (fun x hx => .inl hx) (Nat.le_refl _) (fun _ _ _ => rfl)⟩⟩
  ·obtain ⟨bk, hb1⟩ := Option.ne_none_iff_exists'.1 hb
   obtain ⟨bk', hb2⟩ := Option.ne_none_iff_exists'.1 hb'
   obtain ⟨k, c, _, _, rfl, h1, _, _, _⟩ := hst0 b bk hb1
   obtain ⟨k', c', _, _, rfl, h1', _, _, _⟩ := hst0 b' bk' hb2
   have e1 : cx.ι c = some (g, o) := (hpin k c h1).symm.trans hi
   have e2 : cx.ι c' = some (g', o') := (hpin k' c' h1').symm.trans hi'
   refine hr.inj c c' g o g' o' (hσn h1) (hσn h1') e1 e2 ?_
   rintro rfl
   exact hne (by rw [hnod' h1 h1'])
  ·obtain ⟨bk, hb1⟩ := Option.ne_none_iff_exists'.1 hb
   obtain ⟨k, c, _, _, rfl, h1, _, _, _⟩ := hst0 b bk hb1
   have e1 : cx.ι c = some (g, o) := (hpin k c h1).symm.trans hi
   exact ⟨(hr.own c g o (hσn h1) e1).1, .inr ⟨k, c, o, h1, e1⟩⟩
 have hfl : YH st bs = YH st' bs := List.map_congr_left fun b hb => by rw [hbe b (List.mem_append_right _ hb)]
 have hcalls : Calls P f (xs.map a.eval) w (fun e w' => ∃ v cx', e = .returned v ∧ XG E N cx' (Ef.ap ⟨HY d r, AD d 0 (QT r) ++ (H9 σ ins outs ++ YH st' bs)⟩ ⟨some d, .call { callee := .value (.func f), args := xs, argTypes := tys }, ty, pos, af, gg⟩ st') (a.put (some d) v) w') := by
  refine calls_of_wp hfn hbody (wp_mono (haw E1 _ _ _ hr1) ?_)
  rintro e a' w' ⟨st2, cx2, ⟨he, tsr, os, bs', h1, h2, hout, h3, h4, h5⟩, hr'⟩
  obtain ⟨vs', h6, h7, h8⟩ := HM hr' h1
  have hres := E8 (fn := fn) (rs := fn.results.toList) (by simp) h6
  have hnod2 := Df h3
  have hdis2 := X0 h4
  have hsur := X0 h5
  obtain ⟨hbl2, hol2⟩ := IB h2
  obtain ⟨-, houtat⟩ := Q46 hout
  have hpin2 : ∀ k c, σ[k]? = some c → cx2.ι (hB k) = cx.ι c := fun k c hk => (hr'.pin (hB k) (.inr (by simp [hB]))).trans (hpin k c hk)
  let A' : Nat → Prop := fun x => cx2.A x ∨ ∃ b ∈ bs', st2.h b ≠ none ∧ ∃ q, cx2.ι b = some (x, q)
  have hlive2 : ∀ b, some b ∈ os → st2.h b ≠ none := fun b hb => by obtain ⟨_, _, h⟩ := hol2 b hb; rw [h]; simp
  have hmut2 : ∀ b, some b ∈ os → ∀ g q, cx2.ι b = some (g, q) → ¬ cx2.A g := by
   intro b hb g q hg
   obtain ⟨e1, rows, hbk⟩ := hol2 b hb
   obtain ⟨_, _, h8⟩ := hr'.bl b _ hbk
   rw [hg] at h8
   obtain ⟨_, c, el, fz, capR, _, h9, _⟩ := h8
   exact (h9 rfl).2
  have hnA : ∀ b, some b ∈ os → ∀ g q, cx2.ι b = some (g, q) → ¬ A' g := by
   rintro b hb g q hg (h | ⟨b2, hb2, hb2l, q2, hg2⟩)
   ·exact hmut2 b hb g q hg h
   ·refine hr'.inj b b2 g q g q2 (hlive2 b hb) hb2l hg hg2 ?_ rfl
    rintro rfl
    exact hdis2 b (List.mem_filterMap.2 ⟨some b, hb, rfl⟩) hb2
  have hval := (LP hr' (A' := A') (fun x hx => .inl hx) h2 (n := 0) (gs := fun n => Ci cx2 ((os[n]?).getD none)) (vs := vs') (fun b hb g q hg => .inr ⟨b, hb, hbl2 b hb, q, hg⟩) (fun b hb g q hg => hnA b hb g q hg) (fun k o hk => by rw [Nat.zero_add, hk]; rfl) h7 h8).1
  have hgo : ∀ (n x : Nat), Ci cx2 ((os[n]?).getD none) = some x → ∃ b q, os[n]? = some (some b) ∧ cx2.ι b = some (x, q) := by
   intro n x hx
   cases ho : os[n]? with
   | none => rw [ho] at hx; cases hx
   | some o =>
    rw [ho] at hx
    cases o with
    | none => cases hx
    | some b =>
     simp only [Ci, Option.getD_some, Option.bind_some, Option.map_eq_some_iff] at hx
     obtain ⟨⟨x', q⟩, h8, rfl⟩ := hx
     exact ⟨b, q, rfl, h8⟩
  have hfin : ∃ v, (results fn a'.tmps).run P w' = .ok v w' ∧ Q3s w' A' (fun n => Ci cx2 ((os[n]?).getD none)) r v := by
   refine ⟨_, hres, ?_⟩
   match r, vs', hval with
   | [], [], _ => exact ⟨#[], rfl, trivial⟩
   | [t], [v], h => exact h.1
   | t :: t2 :: r, v :: v2 :: vs, h => exact ⟨_, rfl, h⟩
   | [t], v :: v2 :: vs, h => exact h.2.elim
   | t :: t2 :: r, [v], h => exact h.2.elim
  obtain ⟨v, hv1, hv2⟩ := hfin
  obtain ⟨us, hus, hrt⟩ := H0 (d := d) hv2
  have hplk : ∀ {k : Nat} {c : Qs} {o : Option (List (List PV))} {x : Nat × List (List PV)}, σ[k]? = some c → outs[k]? = some o → ins[k]? = some x → Y4 (H9 σ ins outs) c = some (o.map fun rows' => .row x.1 rows' true) := by
   intro k c o x hk ho hx
   obtain ⟨y, hy⟩ := Option.ne_none_iff_exists'.1 (TW hsl hol hk)
   obtain ⟨k', x', o', g1, g2, g3, g4⟩ := Oi hy
   have := hnod' hk g1
   subst this
   rw [hx] at g2; rw [ho] at g3
   cases g2; cases g3
   rw [hy, g4]
  have hpl : ∀ b, Y4 (H9 σ ins outs) b ≠ none → ∃ k, σ[k]? = some b := fun b hb => by
   obtain ⟨y, hy⟩ := Option.ne_none_iff_exists'.1 hb
   obtain ⟨k', x', o', g1, _⟩ := Oi hy
   exact ⟨k', g1⟩
  have hMp : ∀ x, E1.M x → ∃ b, Y4 (H9 σ ins outs) b ≠ none ∧ st'.h b ≠ none ∧ ∃ q, cx.ι b = some (x, q) := by
   rintro x ⟨k, c, q, hk, hq⟩
   exact ⟨c, TW hsl hol hk, hσn hk, q, hq⟩
  have hR2 : a'.defers = [] ∧ ∃ v, (results fn a'.tmps).run P w' = .ok v w' ∧ ∃ v' cx', Ending.returned v = .returned v' ∧ XG E N cx' (Ef.ap ⟨HY d r, AD d 0 (QT r) ++ (H9 σ ins outs ++ YH st' bs)⟩ ⟨some d, .call { callee := .value (.func f), args := xs, argTypes := tys }, ty, pos, af, gg⟩ st') (a.put (some d) v') w' := by
   refine ⟨hr'.defers, v, hv1, v, ?_⟩
   have hcore := ON (o := ⟨some d, .call { callee := .value (.func f), args := xs, argTypes := tys }, ty, pos, af, gg⟩) hr hd (hd d rfl) (w' := w') (pl := H9 σ ins outs) (fz := bs) (gs2 := fun n => Ci cx2 ((os[n]?).getD none)) (us := us) (A2 := A') (v := v) (r := r) (fun n e rows hx => hf (d, n) ?_) (fun x hx => .inl (hr'.A0 x (.inl hx))) (fun x hx => ?_) (fun b hb => ⟨hlive b hb, fun g q hg => .inl (hr'.A0 g (.inr ⟨b, hb, hbn b hb, q, hg⟩))⟩) (fun b hb hb2 => ?_) (fun b y hy => ?_) hr'.sz hr'.cz (fun x hx hn => hr'.kept x hx fun hM => ?_) hr'.os hr'.tape hr'.output (fun n m x hx hy => ?_) (fun n x hx => ?_) hus hrt
   ·obtain ⟨cx', hc⟩ := hcore
    exact ⟨cx', rfl, hc⟩
   ·have := Wq d (QT r) 0 (d, n)
    rw [if_pos ⟨rfl, Nat.zero_le _⟩, Nat.sub_zero, hx] at this
    exact List.mem_map.2 ⟨_, YF this, rfl⟩
   ·have hM : ∀ x, E1.M x → cx.A x ∨ (w.heap.size ≤ x ∧ x < w'.heap.size) ∨ ∃ b, (b ∈ bs ∨ Y4 (H9 σ ins outs) b ≠ none) ∧ st'.h b ≠ none ∧ ∃ q, cx.ι b = some (x, q) := fun x hx => by
     obtain ⟨b, g1, g2, g3⟩ := hMp x hx
     exact .inr (.inr ⟨b, .inr g1, g2, g3⟩)
    rcases hx with hx | ⟨b, hb, hbl', q, hq⟩
    ·obtain ⟨g1, g2 | g2 | g2⟩ := hr'.A x hx
     ·rcases g2 with g2 | ⟨b, hb, g3, g4⟩
      ·exact .inl g2
      ·exact .inr (.inr ⟨b, .inl hb, g3, g4⟩)
     ·exact .inr (.inl ⟨g2, g1⟩)
     ·exact hM x g2
    ·obtain ⟨g1, g2 | g2⟩ := hr'.own b x q hbl' hq
     ·exact .inr (.inl ⟨g2, g1⟩)
     ·exact hM x g2
   ·obtain ⟨k, hk⟩ := hpl b hb
    exact hdis' b (List.mem_of_getElem? hk) hb2
   ·obtain ⟨k, x, o, g1, g2, g3, g4⟩ := Oi hy
    obtain ⟨e1, rows1, g5, g6⟩ := hsat k b g1
    rw [g2] at g5; cases g5
    refine ⟨⟨e1, rows1, g6⟩, fun bk hbk => ?_⟩
    rw [g4] at hbk
    cases o with
    | none => cases hbk
    | some rows' =>
     cases hbk
     refine ⟨e1, rows1, rows', g6, rfl, hlen k _ rows' g2 g3, ?_⟩
     have g7 := houtat k e1 rows1 rows' g2 g3
     rw [Nat.zero_add] at g7
     obtain ⟨g8, g9, g10⟩ := hr'.bl (hB k) _ g7
     refine ⟨g8, g9, ?_⟩
     show match cx.ι b with | none => _ | some (g, o) => _
     rw [hpin2 k b g1] at g10
     have hsk : hB k ∈ Q87 0 outs := by have := TU (k := 0) g3; rwa [Nat.zero_add] at this
     have hnb : ∀ gx qx, cx.ι b = some (gx, qx) → ¬ cx2.A gx → ¬ A' gx := by
      rintro gx qx hgx hna (h | ⟨b2, hb2, hb2l, q2, hg2⟩)
      ·exact hna h
      ·refine hr'.inj (hB k) b2 gx qx gx q2 (by rw [g7]; simp) hb2l ((hpin2 k b g1).trans hgx) hg2 ?_ rfl
       rintro rfl
       exact hsur (hB k) hsk (List.mem_append_right _ hb2)
     revert g10 hnb
     cases cx.ι b with
     | none => exact fun h _ => h
     | some y =>
      obtain ⟨gx, qx⟩ := y
      rintro ⟨rfl, c1, el, fz', capR, i8, i9, i10, i11, i12, i13, i14⟩ hnb
      exact ⟨rfl, c1, el, fz', capR, i8, fun _ => ⟨(i9 rfl).1, hnb gx 0 rfl (i9 rfl).2⟩, (fun h => by cases h), i11, i12, i13, fun i r k p hi hk => let ⟨cv, hcv, hp⟩ := i14 i r k p hi hk; ⟨cv, hcv, hp.mono (fun x hx => .inl hx) (Nat.le_refl _) (fun _ _ _ => rfl)⟩⟩
   ·obtain ⟨b, g1, g2, q, g3⟩ := hMp x hM
    exact hn b g1 q g3
   ·obtain ⟨b, q, h8, h9⟩ := hgo n x hx
    obtain ⟨b2, q2, h10, h11⟩ := hgo m x hy
    by_cases hbb : b = b2
    ·subst hbb; exact hnod2 n m b h8 h10
    ·exact absurd rfl (hr'.inj b b2 x q x q2 (hlive2 b (List.mem_of_getElem? h8)) (hlive2 b2 (List.mem_of_getElem? h10)) h9 h11 hbb)
   ·obtain ⟨b, q, h8, h9⟩ := hgo n x hx
    have hbl3 := hlive2 b (List.mem_of_getElem? h8)
    obtain ⟨g1, g2⟩ := hr'.own b x q hbl3 h9
    refine ⟨g1, ?_⟩
    rcases g2 with g2 | ⟨k, c, q', hk, hq⟩
    ·exact .inl g2
    ·right
     refine ⟨c, ?_, q', hq⟩
     obtain ⟨e1, rows1, g5, g6⟩ := hsat k c hk
     have hkl := (List.getElem?_eq_some_iff.1 g5).1
     obtain ⟨o, ho⟩ : ∃ o, outs[k]? = some o := ⟨outs[k], by simp⟩
     rw [hplk hk ho g5]
     cases o with
     | none => rfl
     | some rows' =>
      exfalso
      have g7 := houtat k e1 rows1 rows' g5 ho
      rw [Nat.zero_add] at g7
      have hsk : hB k ∈ Q87 0 outs := by have := TU (k := 0) ho; rwa [Nat.zero_add] at this
      refine hr'.inj b (hB k) x q x q' hbl3 (by rw [g7]; simp) h9 ((hpin2 k c hk).trans hq) ?_ rfl
      rintro rfl
      exact hsur (hB k) hsk (List.mem_append_left _ (List.mem_filterMap.2 ⟨_, List.mem_of_getElem? h8, rfl⟩))
  rcases he with rfl | rfl
  ·exact hR2
  ·exact hR2
 unfold Oper.wp
 rw [H1 hcon.ent, Oper.upon_enter, hfl]
 refine hcalls.mono ?_
 rintro e w' ⟨v, cx', rfl, h⟩
 exact ⟨cx', h⟩
def Q89 : List Qs → Nat → Option Qs
 | [], _ => none
 | b :: _, 0 => some b
 | _ :: r, k + 1 => Q89 r k
theorem TX : ∀ {l : List Qs} {k : Nat} {b : Qs}, Q89 l k = some b → l[k]? = some b
 | [], k, b, h => by simp [Q89] at h
 | x :: l, 0, b, h => by simpa [Q89] using h
 | x :: l, k + 1, b, h => by simpa using TX (l := l) (by simpa [Q89] using h)
def hcF (st : St) (σ : List Qs) (c c' : CV) : Option (CV × List Qs × List Prop) := match c', c with
 | .sl b' _ n', .sl b off n => match Q89 σ (Nat.sub b'.1 65537) with
  | some c0 => gd (Xb c0 b && (Xb b' (hB (Nat.sub b'.1 65537)) && Nat.beq off 0)) (some (.sl b' 0 n', [], [n = n']))
  | none => none
 | .ptr b' i' j', .ptr b i j => match Q89 σ (Nat.sub b'.1 65537) with
  | some c0 => gd (Xb c0 b && Xb b' (hB (Nat.sub b'.1 65537))) (some (.ptr b' i' j', [], [i = i', j = j']))
  | none => none
 | .p x', c => match Q85 st c (.p x') with
  | some ⟨.p x, none, b, p⟩ => some (.p x, b, p)
  | _ => none
 | _, _ => none
theorem Qhk {σ : List Qs} {c c' x : CV} {b : List Qs} {p : List Prop} (h : hcF st σ c c' = some (x, b, p)) (hp : XF p) : HC st σ c x b := by
 unfold hcF at h
 split at h
 ·split at h
  ·rename_i h1
   obtain ⟨h2, h3⟩ := KM h
   cases h3
   simp only [Bool.and_eq_true] at h2
   have e1 := Zb.1 h2.1
   have e2 := Zb.1 h2.2.1
   have e3 := Nat.eq_of_beq_eq_true h2.2.2
   subst e1 e3
   rw [e2]
   cases hp with | cons hp _ => exact .sl (TX h1) hp
  ·cases h
 ·split at h
  ·rename_i h1
   obtain ⟨h2, h3⟩ := KM h
   cases h3
   simp only [Bool.and_eq_true] at h2
   have e1 := Zb.1 h2.1
   have e2 := Zb.1 h2.2
   subst e1
   rw [e2]
   cases hp with | cons hp hq => cases hq with | cons hq _ => exact .ptr (TX h1) hp hq
  ·cases h
 ·split at h
  ·rename_i h1; cases h; exact .p (LZ h1 hp)
  ·cases h
 ·cases h
def Q8a (st : St) (σ : List Qs) : List CV → List CV → Option (List CV × List Qs × List Prop)
 | c :: cs, c' :: cs' => match hcF st σ c c' with
  | some (x, b, p) => match Q8a st σ cs cs' with
   | some (xs, bs, ps) => match Fj b bs, Fj p ps with
    | some b', some p' => some (x :: xs, b', p')
    | _, _ => none
   | none => none
  | none => none
 | [], [] => some ([], [], [])
 | _, _ => none
theorem Qb7 {σ : List Qs} : ∀ {cs cs' xs : List CV} {b : List Qs} {p : List Prop}, Q8a st σ cs cs' = some (xs, b, p) → XF p → HCs st σ cs xs b
 | c :: cs, c' :: cs', xs, b, p, h, hp => by
  simp only [Q8a] at h
  split at h
  ·rename_i h1
   split at h
   ·rename_i h2
    split at h
    ·rename_i hb hq
     cases h
     rw [Jq hb]
     rw [Jq hq] at hp
     exact .cons (Qhk h1 hp.app.1) (Qb7 h2 hp.app.2)
    ·cases h
   ·cases h
  ·cases h
 | [], [], xs, b, p, h, hp => by simp only [Q8a] at h; cases h; exact .nil
 | [], _ :: _, _, _, _, h, _ => by simp [Q8a] at h
 | _ :: _, [], _, _, _, h, _ => by simp [Q8a] at h
def M0 (st : St) (σ : List Qs) : List TV → List TV → Option (List TV × List Qs × List Prop)
 | .c c :: ts, .c c' :: ts' => match hcF st σ c c' with
  | some (x, b, p) => match M0 st σ ts ts' with
   | some (xs, bs, ps) => match Fj b bs, Fj p ps with
    | some b', some p' => some (.c x :: xs, b', p')
    | _, _ => none
   | none => none
  | none => none
 | .agg c :: ts, .agg c' :: ts' => match Q8a st σ c c' with
  | some (x, b, p) => match M0 st σ ts ts' with
   | some (xs, bs, ps) => match Fj b bs, Fj p ps with
    | some b', some p' => some (.agg x :: xs, b', p')
    | _, _ => none
   | none => none
  | none => none
 | [], [] => some ([], [], [])
 | _, _ => none
theorem Qpk {σ : List Qs} : ∀ {ts ts' xs : List TV} {b : List Qs} {p : List Prop}, M0 st σ ts ts' = some (xs, b, p) → XF p → HTs st σ ts xs b := by
 intro ts
 induction ts with
 | nil =>
  intro ts' xs b p h hp
  cases ts' with
  | nil => simp only [M0] at h; cases h; exact .nil
  | cons => simp [M0] at h
 | cons t ts ih =>
  intro ts' xs b p h hp
  cases ts' with
  | nil => cases t <;> simp [M0] at h
  | cons t' ts' =>
   cases t with
   | c c =>
    cases t' with
    | c c' =>
     simp only [M0] at h
     split at h
     ·rename_i h1
      split at h
      ·rename_i h2
       split at h
       ·rename_i hb hq
        cases h
        rw [Jq hb]
        rw [Jq hq] at hp
        exact .cons (.c (Qhk h1 hp.app.1)) (ih h2 hp.app.2)
       ·cases h
      ·cases h
     ·cases h
    | agg => simp [M0] at h
    | tup => simp [M0] at h
   | agg c =>
    cases t' with
    | agg c' =>
     simp only [M0] at h
     split at h
     ·rename_i h1
      split at h
      ·rename_i h2
       split at h
       ·rename_i hb hq
        cases h
        rw [Jq hb]
        rw [Jq hq] at hp
        exact .cons (.agg (Qb7 h1 hp.app.1)) (ih h2 hp.app.2)
       ·cases h
      ·cases h
     ·cases h
    | c => simp [M0] at h
    | tup => simp [M0] at h
   | tup => simp [M0] at h
def inF (st : St) : List Qs → List (Nat × List (List PV)) → Option (List Prop)
 | c :: σ, x :: ins => match st.h c with
  | some (.row e rows true) => match Nat.beq e x.1 with
   | true => match inF st σ ins with
    | some ps => some ((rows = x.2) :: ps)
    | none => none
   | false => none
  | _ => none
 | [], [] => some []
 | _, _ => none
theorem Qhl : ∀ {σ : List Qs} {ins : List (Nat × List (List PV))} {ps : List Prop}, inF st σ ins = some ps → XF ps → InS st σ ins
 | c :: σ, x :: ins, ps, h, hp => by
  simp only [inF] at h
  split at h
  ·rename_i hb
   split at h
   ·rename_i he
    split at h
    ·rename_i h2
     cases h
     cases hp with
     | cons hp hq =>
      subst hp
      have := Nat.eq_of_beq_eq_true he
      subst this
      exact ⟨hb, Qhl h2 hq⟩
    ·cases h
   ·cases h
  ·cases h
 | [], [], ps, h, hp => trivial
 | [], _ :: _, _, h, _ => by simp [inF] at h
 | _ :: _, [], _, h, _ => by simp [inF] at h
def sgC (b' : Qs) : List CV → List CV → Option Qs
 | .sl b _ _ :: cs, .sl y _ _ :: cs' => match Xb y b' with
  | true => some b
  | false => sgC b' cs cs'
 | .ptr b _ _ :: cs, .ptr y _ _ :: cs' => match Xb y b' with
  | true => some b
  | false => sgC b' cs cs'
 | _ :: cs, _ :: cs' => sgC b' cs cs'
 | _, _ => none
def sgT (b' : Qs) : List TV → List TV → Option Qs
 | t :: ts, t' :: ts' => match sgC b' t.cs1 t'.cs1 with
  | some b => some b
  | none => sgT b' ts ts'
 | _, _ => none
def sgF (ts ts' : List TV) : Nat → List (Nat × List (List PV)) → Option (List Qs)
 | _, [] => some []
 | k, _ :: ins => match sgT (hB k) ts ts' with
  | some b => match sgF ts ts' (Nat.add k 1) ins with
   | some l => some (b :: l)
   | none => none
  | none => none
def Qd7 : List (Nat × List (List PV)) → List (Option (List (List PV))) → Option (List Prop)
 | x :: ins, y :: outs => match Qd7 ins outs with
  | some ps => match y with
   | some rows' => some ((x.2.length ≤ rows'.length) :: ps)
   | none => some ps
  | none => none
 | [], [] => some []
 | _, _ => none
theorem Qb8 : ∀ {ins : List (Nat × List (List PV))} {outs : List (Option (List (List PV)))} {ps : List Prop}, Qd7 ins outs = some ps → XF ps → outs.length = ins.length ∧ ∀ (k : Nat) (x : Nat × List (List PV)) (rows' : List (List PV)), ins[k]? = some x → outs[k]? = some (some rows') → x.2.length ≤ rows'.length
 | x :: ins, y :: outs, ps, h, hp => by
  simp only [Qd7] at h
  split at h
  ·rename_i ps' h1
   have key : XF ps' ∧ ∀ rows', y = some rows' → x.2.length ≤ rows'.length := by
    split at h
    ·cases h; cases hp with | cons hp hq => exact ⟨hq, fun rows' e => by cases e; exact hp⟩
    ·cases h; exact ⟨hp, fun rows' e => by cases e⟩
   obtain ⟨h2, h3⟩ := Qb8 h1 key.1
   refine ⟨by simp [h2], fun k x' rows' hx ho => ?_⟩
   cases k with
   | zero => rw [List.getElem?_cons_zero] at hx ho; cases hx; cases ho; exact key.2 rows' rfl
   | succ k => exact h3 k x' rows' (by simpa using hx) (by simpa using ho)
  ·cases h
 | [], [], ps, h, hp => ⟨rfl, fun k x rows' h => by simp at h⟩
 | [], _ :: _, _, h, _ => by simp [Qd7] at h
 | _ :: _, [], _, h, _ => by simp [Qd7] at h
theorem callh {f : FuncId} {xs : Array Operand} {tys : Array TypeId} {ins : List (Nat × List (List PV))} {ts ts2 : List TV} {r : List RS} {outs : List (Option (List (List PV)))} {σ bs ids : List Qs} {bl : List (Qs × Option Bk)} {t : TV} {pi pa pl : List Prop}
  (hcon : CH P f ins ts r outs) (hσ : sgF (xs.toList.map st.ev) ts 0 ins = some σ := by exact rfl) (hin : inF st σ ins = some pi := by exact rfl) (hargs : M0 st σ (xs.toList.map st.ev) ts = some (ts2, bs, pa) := by exact rfl) (he : ts2 = ts := by exact rfl) (hlen : Qd7 ins outs = some pl := by exact rfl)
  (hok : xs.toList.all Zm = true := by exact rfl) (hnod : Ix (σ.map some) = true := by exact rfl) (hdis : CQ σ bs = true := by exact rfl) (hids : (AD d 0 (QT r)).map (·.1) = ids := by exact rfl) (hbl : AD d 0 (QT r) ++ (H9 σ ins outs ++ YH st bs) = bl := by exact rfl) (ht : HY d r = t := by exact rfl) (hpl : XF pl := by exact IK) (hpi : XF pi := by exact IK) (hpa : XF pa := by exact IK) :
  ZO E N P ops ⟨some d, .call { callee := .value (.func f), args := xs, argTypes := tys }, ty, pos, af, gg⟩ st ⟨σ ++ bs, ids⟩ ⟨t, bl⟩ := by
 subst he
 obtain ⟨h1, h2⟩ := Qb8 hlen hpl
 exact Qd6 hcon (Qhl hin hpi) (Qpk hargs hpa) h2 h1 hok hnod hdis hids hbl ht
def Te (st : St) : Nat → List (Nat × List (List PV)) → List (Option (List (List PV))) → Option (List Prop)
 | k, x :: ins, y :: outs => match Te st (Nat.add k 1) ins outs with
  | some ps => match y with
   | none => some ps
   | some rows' => match st.h (hB k) with
    | some (.row e rows true) => match Nat.beq e x.1 with
     | true => some ((rows = rows') :: ps)
     | false => none
    | _ => none
  | none => none
 | _, [], [] => some []
 | _, _, _ => none
theorem OO : ∀ {ins : List (Nat × List (List PV))} {outs : List (Option (List (List PV)))} {k : Nat} {ps : List Prop}, Te st k ins outs = some ps → XF ps → Qb5 st k ins outs
 | x :: ins, y :: outs, k, ps, h, hp => by
  simp only [Te] at h
  split at h
  ·rename_i ps' h1
   cases y with
   | none => simp only at h; cases h; refine ⟨fun rows' e => ?_, OO h1 hp⟩; cases e
   | some rows0 =>
    simp only at h
    split at h
    ·rename_i hb
     split at h
     ·rename_i he
      cases h
      cases hp with
      | cons hp hq =>
       subst hp
       have := Nat.eq_of_beq_eq_true he
       refine ⟨fun rows' e => ?_, OO h1 hq⟩
       cases e
       rw [hb, this]
     ·cases h
    ·cases h
  ·cases h
 | [], [], k, ps, h, hp => trivial
 | [], _ :: _, _, _, h, _ => by simp [Te] at h
 | _ :: _, [], _, _, h, _ => by simp [Te] at h
theorem finH {T : Tb P} {fn : Func} {e : Exit} {ins : List (Nat × List (List PV))} {r : List RS} {outs : List (Option (List (List PV)))} {ts : List TV} {c : CR} {po : List Prop} (h1 : No T st fn.results.toList = some ts) (h2 : Iq st ts r = some c) (ho : Te st 0 ins outs = some po) (hp : XF c.ps) (hq : XF po) (h3 : c.x = r) (h4 : Ix c.o = true) (h5 : CQ (c.o.filterMap id) c.bs = true) (h6 : CQ (Q87 0 outs) (c.o.filterMap id ++ c.bs) = true) (he : e = .normal ∨ e = .ret) : Qhh T fn ins r outs e st := by
 subst h3
 exact ⟨he, _, _, _, H7 h1, H8 h2 hp, OO ho hq, h4, h5, h6⟩
end
def Qhm {P : Program} (T : Tb P) (fn : Func) (fm : Frm) (r : List RS) (out : List PV) : Exit → St → Prop := fun e st => (e = .normal ∨ e = .ret) ∧ ∃ ts os bs cs bs', LN T st fn.results.toList ts ∧ Mz st ts r os bs ∧ st.h Ks = some (.box cs (some fm)) ∧ FI st cs out bs' ∧ Ix os = true ∧ CQ (os.filterMap id) (bs ++ bs') = true
structure CP (P : Program) (f : FuncId) (fm : Frm) (row : List PV) (ts : List TV) (r : List RS) (out : List PV) : Prop where
 ent : Iv P f = true
 run : ∃ (T : Tb P) (fn : Func) (body : Code), P.funcs[f]? = some fn ∧ fn.body = some body ∧ fn.ntmps ≤ 65536 ∧ ts.length ≤ fn.ntmps ∧ ∀ E, AW E fn.ntmps P body (Qhm T fn fm r out) ⟨enT 0 ts, [(Ks, some (.box (row.map .p) (some fm)))]⟩
inductive HPs (st : St) (c : Qs) (i : Nat) : List TV → List TV → List Qs → Prop
 | nil : HPs st c i [] [] []
 | ptr {ts ts' : List TV} {bs : List Qs} (hs : HPs st c i ts ts' bs) : HPs st c i (.c (.ptr c i 0) :: ts) (.c (.ptr Ks 0 0) :: ts') bs
 | c {x : CV} {p : PV} {b : List Qs} {ts ts' : List TV} {bs : List Qs} (h : ToC st x (.p p) none b) (hs : HPs st c i ts ts' bs) : HPs st c i (.c x :: ts) (.c (.p p) :: ts') (b ++ bs)
 | agg {xs : List CV} {ps : List PV} {b : List Qs} {ts ts' : List TV} {bs : List Qs} (h : FI st xs ps b) (hs : HPs st c i ts ts' bs) : HPs st c i (.agg xs :: ts) (.agg (ps.map .p) :: ts') (b ++ bs)
section
variable {E : En} {N : Nat} {cx : Cx} {st : St} {a : Act} {w w' : World} {P : Program} {T : Tb P} {ops : Array Oper} {o : Oper} {d : Nat} {ty : Nat} {pos : String} {af : Array Edge} {gg : Option (Nat × Bool)}
theorem Qd8 {st' : St} {c : Qs} {i : Nat} {ts ts' : List TV} {bs : List Qs} (h : HPs st c i ts ts' bs) (hb : ∀ b ∈ bs, st'.h b = st.h b) : HPs st' c i ts ts' bs := by
 induction h with
 | nil => exact .nil
 | ptr hs ih => exact .ptr (ih hb)
 | c h hs ih => exact .c (HN h fun b hm => hb b (List.mem_append_left _ hm)) (ih fun b hm => hb b (List.mem_append_right _ hm))
 | agg h hs ih => exact .agg (OC h fun b hm => hb b (List.mem_append_left _ hm)) (ih fun b hm => hb b (List.mem_append_right _ hm))
theorem Qhn {c : Qs} {i : Nat} {ts ts' : List TV} {bs : List Qs} (h : HPs st c i ts ts' bs) : ∀ b ∈ bs, ∃ e rows mu, st.h b = some (.row e rows mu) := by
 induction h with
 | nil => simp
 | ptr hs ih => exact ih
 | c h hs ih =>
  intro b hb
  rcases List.mem_append.1 hb with hb | hb
  ·exact AE h b hb
  ·exact ih b hb
 | agg h hs ih =>
  intro b hb
  rcases List.mem_append.1 hb with hb | hb
  ·exact MB h b hb
  ·exact ih b hb
theorem Qpl {c : Qs} {i : Nat} {ts ts' : List TV} {bs : List Qs} (h : HPs st c i ts ts' bs) : ts'.length = ts.length := by
 induction h with
 | nil => rfl
 | ptr _ ih => simp [ih]
 | c _ _ ih => simp [ih]
 | agg _ _ ih => simp [ih]
theorem Qpm (hr : XG E N cx st a w) {A2 : Nat → Prop} {cx1 : Cx} (hA1 : cx1.A = A2) {h0 : Qs → Option Bk} {c : Qs} {i e : Nat} {rows : List (List PV)} {row : List PV} {fm : Frm} (hA : ∀ x, cx.A x → A2 x) (hc : st.h c = some (.row e rows true)) (hp : ∀ g o, cx.ι c = some (g, o) → o = 0 ∧ cx1.ι Ks = some (g, i * e)) (hh : h0 Ks = some (.box (row.map .p) (some fm))) :
  ∀ {ts ts' : List TV} {bs : List Qs}, HPs st c i ts ts' bs → (∀ b ∈ bs, ∀ g q, cx.ι b = some (g, q) → A2 g) → ∀ {vs : List Value}, vs.length = ts.length → (∀ (i : Nat) (t : TV), ts[i]? = some t → ∃ v, vs[i]? = some v ∧ RT cx w st.h t v) →
  ∀ (i : Nat) (t : TV), ts'[i]? = some t → ∃ v, vs[i]? = some v ∧ RT cx1 w h0 t v := by
 subst hA1
 intro ts ts' bs h
 induction h with
 | nil => intro _ vs _ _ i t h; simp at h
 | @ptr ts ts' bs hs ih =>
  intro hb vs hl hv j t hj
  cases vs with
  | nil => simp at hl
  | cons v vs =>
   cases j with
   | zero =>
    rw [List.getElem?_cons_zero] at hj
    cases hj
    obtain ⟨v', hv', h1, h2⟩ := hv 0 _ rfl
    obtain ⟨g, q, h3, h4⟩ := h2 _ hc
    obtain ⟨rfl, h5⟩ := hp g q h3
    refine ⟨v', hv', .inr (by rw [h4]; rfl), fun bk hbk => ⟨g, i * e, h5, ?_⟩⟩
    rw [hh] at hbk
    cases hbk
    rw [h4]; simp [Bk.e]
   | succ j => exact ih hb (vs := vs) (by simpa using hl) (fun i t hi => by simpa using hv (i + 1) t (by simpa using hi)) j t (by simpa using hj)
 | @c x p b ts ts' bs h hs ih =>
  intro hb vs hl hv j t hj
  cases vs with
  | nil => simp at hl
  | cons v vs =>
   cases j with
   | zero =>
    rw [List.getElem?_cons_zero] at hj
    cases hj
    obtain ⟨v', hv', h1, h2⟩ := hv 0 _ rfl
    have h3 : RP w cx1.A p v' := LM hr h h2 hA (fun b' hb' => hb b' (List.mem_append_left _ hb')) (fun b' hb' => by cases hb')
    exact ⟨v', hv', .inr h3.one, h3⟩
   | succ j => exact ih (fun b' hb' => hb b' (List.mem_append_right _ hb')) (vs := vs) (by simpa using hl) (fun i t hi => by simpa using hv (i + 1) t (by simpa using hi)) j t (by simpa using hj)
 | @agg xs ps b ts ts' bs h hs ih =>
  intro hb vs hl hv j t hj
  cases vs with
  | nil => simp at hl
  | cons v vs =>
   cases j with
   | zero =>
    rw [List.getElem?_cons_zero] at hj
    cases hj
    obtain ⟨v', hv', us, rfl, h2, h3⟩ := hv 0 _ rfl
    have h4 := Dj hr (A' := cx1.A) hA (gs := fun _ => none) (HO h) (n := 0) (vs := us.toList) (fun b' hb' => hb b' (List.mem_append_left _ hb')) (fun b' hb' => by rw [List.mem_map] at hb'; obtain ⟨y, _, hy⟩ := hb'; cases hy) (fun k o hk => by rw [List.getElem?_map, Option.map_eq_some_iff] at hk; obtain ⟨y, _, rfl⟩ := hk; rfl) (by simpa using h2) (fun i c hi => by obtain ⟨u, hu, h5, h6⟩ := h3 i c hi; exact ⟨u, by simpa using hu, h5, h6⟩)
    obtain ⟨h5, h6⟩ := Di h4
    refine ⟨_, hv', us, rfl, by simpa using h5, fun k c hk => ?_⟩
    rw [List.getElem?_map, Option.map_eq_some_iff] at hk
    obtain ⟨y, hy, rfl⟩ := hk
    obtain ⟨u, hu, h7, h8⟩ := h6 k (.p y) (by rw [List.getElem?_map, hy]; rfl)
    exact ⟨u, by simpa using hu, h7, h8⟩
   | succ j => exact ih (fun b' hb' => hb b' (List.mem_append_right _ hb')) (vs := vs) (by simpa using hl) (fun i t hi => by simpa using hv (i + 1) t (by simpa using hi)) j t (by simpa using hj)
theorem Qd9 {f : FuncId} {xs : Array Operand} {tys : Array TypeId} {c : Qs} {e i : Nat} {rows : List (List PV)} {row out : List PV} {ts : List TV} {r : List RS} {bs ids : List Qs} {bl : List (Qs × Option Bk)} {t : TV}
  (hcon : CP P f ⟨e, i, rows⟩ row ts r out) (hc : st.h c = some (.row e rows true)) (hrow : rows[i]? = some row) (hargs : HPs st c i (xs.toList.map st.ev) ts bs)
  (hok : xs.toList.all Zm = true := by exact rfl) (hdis : CQ [c] bs = true := by exact rfl) (hids : (AD d 0 (QT r)).map (·.1) = ids := by exact rfl) (hbl : AD d 0 (QT r) ++ ([(c, some (.row e (rows.set i out) true))] ++ YH st bs) = bl := by exact rfl) (ht : HY d r = t := by exact rfl) :
  ZO E N P ops ⟨some d, .call { callee := .value (.func f), args := xs, argTypes := tys }, ty, pos, af, gg⟩ st ⟨c :: bs, ids⟩ ⟨t, bl⟩ := by
 subst hids
 subst hbl
 subst ht
 intro st' ha hf hd cx a w Q hr
 have hbe : ∀ b ∈ c :: bs, st'.h b = st.h b := ha.2
 have hc' : st'.h c = some (.row e rows true) := by rw [hbe c List.mem_cons_self]; exact hc
 have hargs' := Qd8 hargs (st' := st') fun b hb => hbe b (List.mem_cons_of_mem _ hb)
 have hlive := Qhn hargs'
 have hbn : ∀ b ∈ bs, st'.h b ≠ none := fun b hb => by obtain ⟨_, _, _, h⟩ := hlive b hb; rw [h]; simp
 have hdis' : c ∉ bs := X0 hdis c (by simp)
 have hcn : st'.h c ≠ none := by rw [hc']; simp
 have hil := (List.getElem?_eq_some_iff.1 hrow).1
 let A2 : Nat → Prop := fun x => cx.A x ∨ ∃ b ∈ bs, st'.h b ≠ none ∧ ∃ q, cx.ι b = some (x, q)
 have hAsz : ∀ x, A2 x → x < w.heap.size := by
  rintro x (h | ⟨b, hb, hbl, q, hq⟩)
  ·exact (hr.A x h).1
  ·exact (hr.own b x q hbl hq).1
 obtain ⟨he0, hre, hrb⟩ := hr.bl c _ hc'
 obtain ⟨g, hg, c0, el0, capR, hgc, hnA0, hcsz, hcl, hcm, hcat⟩ : ∃ g, cx.ι c = some (g, 0) ∧ ∃ c0 el0 capR, w.heap[g]? = some (.cells c0 el0 (0, 0)) ∧ ¬ cx.A g ∧ c0.size = capR * e ∧ rows.length ≤ capR ∧ capR ≤ maxLen ∧ ∀ (i : Nat) (r : List PV) (k : Nat) (p : PV), rows[i]? = some r → r[k]? = some p → ∃ cv, c0[i * e + k]? = some cv ∧ RP w cx.A p cv := by
  cases hi : cx.ι c with
  | none => rw [hi] at hrb; rw [hrb] at hil; simp at hil
  | some y =>
   obtain ⟨g, q⟩ := y
   rw [hi] at hrb
   obtain ⟨rfl, c0, el0, fz, capR, h1, h2, h3, h4, h5, h6, h7⟩ := hrb
   obtain ⟨rfl, h8⟩ := h2 rfl
   exact ⟨g, rfl, c0, el0, capR, h1, h8, h4, h5, h6, h7⟩
 have hgl : g < w.heap.size := (Array.getElem?_eq_some_iff.1 hgc).1
 have hgA2 : ¬ A2 g := by
  rintro (h | ⟨z, hz, hzl, q2, hq2⟩)
  ·exact hnA0 h
  ·refine hr.inj c z g 0 g q2 hcn hzl hg hq2 ?_ rfl
   rintro rfl
   exact hdis' hz
 have hrl : row.length = e := hre row (List.mem_of_getElem? hrow)
 have hie : i * e + e ≤ rows.length * e := by have : (i + 1) * e ≤ rows.length * e := Nat.mul_le_mul_right e hil; rw [Nat.add_mul] at this; omega
 have hre2 : rows.length * e ≤ c0.size := by rw [hcsz]; exact Nat.mul_le_mul_right e hcl
 let pin1 : Qs → Option (Nat × Nat) := fun b => if b = Ks then some (g, i * e) else none
 have hpin : pin1 Ks = some (g, i * e) := by simp [pin1]
 let st0 : St := ⟨enT 0 ts, [(Ks, some (.box (row.map .p) (some ⟨e, i, rows⟩)))]⟩
 have hst0 : ∀ b bk, st0.h b = some bk → b = Ks ∧ bk = .box (row.map .p) (some ⟨e, i, rows⟩) := by
  intro b bk hb
  have hb1 : (Y4 [(Ks, some (Bk.box (row.map .p) (some ⟨e, i, rows⟩)))] b).getD none = some bk := hb
  simp only [Y4] at hb1
  cases hq : Xb Ks b with
  | true => rw [hq] at hb1; cases hb1; exact ⟨(Zb.1 hq).symm, rfl⟩
  | false => rw [hq] at hb1; cases hb1
 have hh0 : st0.h Ks = some (.box (row.map .p) (some ⟨e, i, rows⟩)) := rfl
 obtain ⟨T, fn, body, hfn, hbody, hN2, htl, haw⟩ := hcon.run
 let E1 : En := ⟨w, A2, fun x => x = g, pin1⟩
 have hev : ∀ x ∈ xs.toList, RT cx w st'.h (st.ev x) (a.eval x) := by
  intro x hx
  rw [← V8 ha (x := x) (by simp only [Op.operands, Call.operands]; simp at hx ⊢; exact .inr hx)]
  exact hr.ev (List.all_eq_true.1 hok x hx)
 have hts := Qpm hr (cx1 := ⟨pin1, A2⟩) rfl (h0 := st0.h) (A2 := A2) (fun x hx => .inl hx) hc' (fun g' o' h => by rw [hg] at h; cases h; exact ⟨rfl, hpin⟩) hh0 hargs' (fun b hb g q hg => .inr ⟨b, hb, hbn b hb, q, hg⟩) (vs := (xs.map a.eval).toList) (by simp) (fun i t hi => by
  rw [List.getElem?_map, Option.map_eq_some_iff] at hi
  obtain ⟨x, hx, rfl⟩ := hi
  exact ⟨a.eval x, by rw [Array.toList_map, List.getElem?_map, hx]; rfl, hev x (List.mem_of_getElem? hx)⟩)
 have hvsz : (xs.map a.eval).size = ts.length := by rw [Qpl hargs']; simp
 have hr1 : XG E1 fn.ntmps ⟨pin1, A2⟩ st0 { tmps := (xs.map a.eval) ++ Array.replicate (fn.ntmps - (xs.map a.eval).size) undef, defers := [] } w := by
  refine ⟨rfl, by simp only [Array.size_append, Array.size_replicate]; omega, fun s => ?_, fun b bk hb => ?_, fun b b' g o g' o' hb hb' hi hi' hne => ?_, fun b g' o hb hi => ?_, fun x hx => ⟨hAsz x hx, .inl hx⟩, fun x hx => hx, fun _ _ _ => rfl, Nat.le_refl _, rfl, rfl, rfl, hN2, fun _ _ => rfl, .refl _⟩
  ·have e : st0.g s = (Zy (enT 0 ts) s).getD (.c .any) := rfl
   rw [e]
   cases hl : Zy (enT 0 ts) s with
   | none => exact ⟨.inl rfl, trivial⟩
   | some t =>
    obtain ⟨i, h1, h2⟩ := Q88 hl
    rw [Nat.zero_add] at h1
    subst h1
    obtain ⟨v, h3, h4⟩ := hts s t h2
    have hi := (List.getElem?_eq_some_iff.1 h3).1
    have : ((xs.map a.eval) ++ Array.replicate (fn.ntmps - (xs.map a.eval).size) undef).getD s undef = v := by
     rw [Array.getD_eq_getD_getElem?, Array.getElem?_append_left (by simpa using hi)]
     rw [Array.getElem?_toList] at h3
     rw [h3]; rfl
    rw [this]
    exact h4
  ·obtain ⟨rfl, rfl⟩ := hst0 b bk hb
   have hmono : ∀ p v, RP w cx.A p v → RP w A2 p v := fun p v h => h.mono (fun x hx => .inl hx) (Nat.le_refl _) (fun _ _ _ => rfl)
   refine ⟨g, i * e, c0, el0, hpin, hgc, hgA2, by rw [List.length_map, hrl]; omega, fun k x hx => ?_, rfl, by rw [List.length_map]; exact hrl, he0, hre2, hre, fun j r k p _ hj hk => ?_⟩
   ·rw [List.getElem?_map, Option.map_eq_some_iff] at hx
    obtain ⟨p, hp, rfl⟩ := hx
    obtain ⟨cv, h1, h2⟩ := hcat i row k p hrow hp
    exact ⟨cv, h1, h2.one, hmono p cv h2⟩
   ·obtain ⟨cv, h1, h2⟩ := hcat j r k p hj hk
    exact ⟨cv, h1, hmono p cv h2⟩
  ·obtain ⟨bk, hb1⟩ := Option.ne_none_iff_exists'.1 hb
   obtain ⟨bk', hb2⟩ := Option.ne_none_iff_exists'.1 hb'
   exact absurd ((hst0 b bk hb1).1.trans (hst0 b' bk' hb2).1.symm) hne
  ·obtain ⟨bk, hb1⟩ := Option.ne_none_iff_exists'.1 hb
   obtain ⟨rfl, _⟩ := hst0 b bk hb1
   have hi' : pin1 Ks = some (g', o) := hi
   rw [hpin] at hi'
   cases hi'
   exact ⟨hgl, .inr rfl⟩
 have hfl : YH st bs = YH st' bs := List.map_congr_left fun b hb => by rw [hbe b (List.mem_cons_of_mem _ hb)]
 have hcalls : Calls P f (xs.map a.eval) w (fun ex w' => ∃ v cx', ex = .returned v ∧ XG E N cx' (Ef.ap ⟨HY d r, AD d 0 (QT r) ++ ([(c, some (.row e (rows.set i out) true))] ++ YH st' bs)⟩ ⟨some d, .call { callee := .value (.func f), args := xs, argTypes := tys }, ty, pos, af, gg⟩ st') (a.put (some d) v) w') := by
  refine calls_of_wp hfn hbody (wp_mono (haw E1 _ _ _ hr1) ?_)
  rintro ex a' w' ⟨st2, cx2, ⟨hex, tsr, os, bs', cs, bs2, h1, h2, hbox, htp, h3, h4⟩, hr'⟩
  obtain ⟨vs', h6, h7, h8⟩ := HM hr' h1
  have hres := E8 (fn := fn) (rs := fn.results.toList) (by simp) h6
  have hnod2 := Df h3
  have hdis2 := X0 h4
  obtain ⟨hbl2, hol2⟩ := IB h2
  have hpl2 := MB htp
  have hpin2 : cx2.ι Ks = some (g, i * e) := (hr'.pin Ks (.inl rfl)).trans hpin
  have hbl3 : ∀ b ∈ bs' ++ bs2, st2.h b ≠ none := fun b hb => by
   rcases List.mem_append.1 hb with h | h
   ·exact hbl2 b h
   ·obtain ⟨_, _, _, h⟩ := hpl2 b h; rw [h]; simp
  let A' : Nat → Prop := fun x => cx2.A x ∨ ∃ b ∈ bs' ++ bs2, st2.h b ≠ none ∧ ∃ q, cx2.ι b = some (x, q)
  have hlive2 : ∀ b, some b ∈ os → st2.h b ≠ none := fun b hb => by obtain ⟨_, _, h⟩ := hol2 b hb; rw [h]; simp
  have hmut2 : ∀ b, some b ∈ os → ∀ g q, cx2.ι b = some (g, q) → ¬ cx2.A g := by
   intro b hb g q hg
   obtain ⟨e1, rows, hbk⟩ := hol2 b hb
   obtain ⟨_, _, h8⟩ := hr'.bl b _ hbk
   rw [hg] at h8
   obtain ⟨_, c, el, fz, capR, _, h9, _⟩ := h8
   exact (h9 rfl).2
  have hnA : ∀ b, some b ∈ os → ∀ g q, cx2.ι b = some (g, q) → ¬ A' g := by
   rintro b hb g q hg (h | ⟨b2, hb2, hb2l, q2, hg2⟩)
   ·exact hmut2 b hb g q hg h
   ·refine hr'.inj b b2 g q g q2 (hlive2 b hb) hb2l hg hg2 ?_ rfl
    rintro rfl
    exact hdis2 b (List.mem_filterMap.2 ⟨some b, hb, rfl⟩) hb2
  have hpl : st2.h Ks ≠ none := by rw [hbox]; simp
  have hrow' : ∀ b ∈ bs' ++ bs2, b ≠ Ks := by
   intro b hb e
   subst e
   have : ∃ e rows mu, st2.h Ks = some (.row e rows mu) := by
    rcases List.mem_append.1 hb with h | h
    ·have hSs : ∀ {ts xs os bs}, Mz st2 ts xs os bs → ∀ b ∈ bs, ∃ e rows mu, st2.h b = some (.row e rows mu) := by
      have hCs : ∀ {cs xs os bs}, AA st2 cs xs os bs → ∀ b ∈ bs, ∃ e rows mu, st2.h b = some (.row e rows mu) := by
       intro cs xs os bs h
       induction h with
       | nil => simp
       | cons h hs ih =>
        intro b hb
        rcases List.mem_append.1 hb with hb | hb
        ·exact AE h b hb
        ·exact ih b hb
      intro ts xs os bs h
      induction h with
      | nil => simp
      | cons h hs ih =>
       intro b hb
       rcases List.mem_append.1 hb with hb | hb
       ·cases h with
        | c h => exact AE h b hb
        | agg h => exact hCs h b hb
       ·exact ih b hb
     exact hSs h2 _ h
    ·exact hpl2 _ h
   obtain ⟨_, _, _, h⟩ := this
   rw [hbox] at h; cases h
  have hgA' : ∀ hna : ¬ cx2.A g, ¬ A' g := by
   rintro hna (h | ⟨b2, hb2, hb2l, q2, hg2⟩)
   ·exact hna h
   ·exact hr'.inj Ks b2 g (i * e) g q2 hpl hb2l hpin2 hg2 (fun e => hrow' b2 hb2 e.symm) rfl
  have hval := (LP hr' (A' := A') (fun x hx => .inl hx) h2 (n := 0) (gs := fun n => Ci cx2 ((os[n]?).getD none)) (vs := vs') (fun b hb g q hg => .inr ⟨b, List.mem_append_left _ hb, hbl2 b hb, q, hg⟩) (fun b hb g q hg => hnA b hb g q hg) (fun k o hk => by rw [Nat.zero_add, hk]; rfl) h7 h8).1
  have hgo : ∀ (n x : Nat), Ci cx2 ((os[n]?).getD none) = some x → ∃ b q, os[n]? = some (some b) ∧ cx2.ι b = some (x, q) := by
   intro n x hx
   cases ho : os[n]? with
   | none => rw [ho] at hx; cases hx
   | some o =>
    rw [ho] at hx
    cases o with
    | none => cases hx
    | some b =>
     simp only [Ci, Option.getD_some, Option.bind_some, Option.map_eq_some_iff] at hx
     obtain ⟨⟨x', q⟩, h8, rfl⟩ := hx
     exact ⟨b, q, rfl, h8⟩
  have hfin : ∃ v, (results fn a'.tmps).run P w' = .ok v w' ∧ Q3s w' A' (fun n => Ci cx2 ((os[n]?).getD none)) r v := by
   refine ⟨_, hres, ?_⟩
   match r, vs', hval with
   | [], [], _ => exact ⟨#[], rfl, trivial⟩
   | [t], [v], h => exact h.1
   | t :: t2 :: r, v :: v2 :: vs, h => exact ⟨_, rfl, h⟩
   | [t], v :: v2 :: vs, h => exact h.2.elim
   | t :: t2 :: r, [v], h => exact h.2.elim
  obtain ⟨v, hv1, hv2⟩ := hfin
  obtain ⟨us, hus, hrt⟩ := H0 (d := d) hv2
  have hlk : ∀ b y, Y4 [(c, some (Bk.row e (rows.set i out) true))] b = some y → b = c ∧ y = some (.row e (rows.set i out) true) := by
   intro b y h
   simp only [Y4] at h
   cases hq : Xb c b with
   | true => rw [hq] at h; cases h; exact ⟨(Zb.1 hq).symm, rfl⟩
   | false => rw [hq] at h; cases h
  have hlk2 : ∀ b, Y4 [(c, some (Bk.row e (rows.set i out) true))] b ≠ none → b = c := fun b h => by
   obtain ⟨y, hy⟩ := Option.ne_none_iff_exists'.1 h
   exact (hlk b y hy).1
  have hlkc : Y4 [(c, some (Bk.row e (rows.set i out) true))] c ≠ none := by simp only [Y4]; rw [Zb.2 rfl]; simp
  -- the list behind
  obtain ⟨g3, o3, c3, el3, j1, j2, j3, j4, j5, j6⟩ := hr'.bl Ks _ hbox
  rw [hpin2] at j1
  cases j1
  obtain ⟨k1, k2, k3, k4, k5, k6⟩ := j6
  obtain ⟨c4, el4, fz4, l1, l2⟩ := hr'.cz g c0 el0 (0, 0) hgc
  rw [j2] at l1
  cases l1
  have hcsl := (LO (HO htp)).1
  rw [List.length_map] at hcsl
  have hRBc : RB ⟨cx.ι, A'⟩ w' st'.h c (.row e (rows.set i out) true) := by
   refine ⟨he0, fun r hr => ?_, ?_⟩
   ·rcases List.mem_or_eq_of_mem_set hr with h | h
    ·exact hre r h
    ·rw [h, ← hcsl]; exact k2
   ·show match cx.ι c with | none => _ | some (g, o) => _
    rw [hg]
    refine ⟨rfl, c3, el3, (0, 0), capR, j2, fun _ => ⟨rfl, hgA' j3⟩, (fun h => by cases h), by rw [l2, hcsz], by rw [List.length_set]; exact hcl, hcm, fun j r k p hj hk => ?_⟩
    by_cases hji : j = i
    ·subst hji
     rw [List.getElem?_set_self hil] at hj
     cases hj
     have m1 := Dj hr' (A' := A') (fun x hx => .inl hx) (gs := fun _ => none) (HO htp) (n := 0) (vs := (c3.toList.drop (j * e)).take cs.length) (fun b hb g q hg => .inr ⟨b, List.mem_append_right _ hb, hbl3 b (List.mem_append_right _ hb), q, hg⟩) (fun b hb => by rw [List.mem_map] at hb; obtain ⟨y, _, hy⟩ := hb; cases hy) (fun k o hk => by rw [List.getElem?_map, Option.map_eq_some_iff] at hk; obtain ⟨y, _, rfl⟩ := hk; rfl) (by simp only [List.length_take, List.length_drop, Array.length_toList]; omega) (fun i x hi => by
      obtain ⟨cv, h13, h14, h15⟩ := j5 i x hi
      have hil := (List.getElem?_eq_some_iff.1 hi).1
      exact ⟨cv, by rw [List.getElem?_take, if_pos hil, List.getElem?_drop, Array.getElem?_toList]; exact h13, h14, h15⟩)
     obtain ⟨m2, m3⟩ := Di m1
     obtain ⟨u, hu, m4, m5⟩ := m3 k (.p p) (by rw [List.getElem?_map, hk]; rfl)
     refine ⟨u, ?_, m5⟩
     have hkl := (List.getElem?_eq_some_iff.1 hk).1
     rw [List.getElem?_take, if_pos (by omega), List.getElem?_drop, Array.getElem?_toList] at hu
     exact hu
    ·rw [List.getElem?_set_ne (fun e => hji e.symm)] at hj
     obtain ⟨cv, m1, m2⟩ := k6 j r k p hji hj hk
     exact ⟨cv, m1, m2.mono (fun x hx => .inl hx) (Nat.le_refl _) (fun _ _ _ => rfl)⟩
  have hR2 : a'.defers = [] ∧ ∃ v, (results fn a'.tmps).run P w' = .ok v w' ∧ ∃ v' cx', Ending.returned v = .returned v' ∧ XG E N cx' (Ef.ap ⟨HY d r, AD d 0 (QT r) ++ ([(c, some (.row e (rows.set i out) true))] ++ YH st' bs)⟩ ⟨some d, .call { callee := .value (.func f), args := xs, argTypes := tys }, ty, pos, af, gg⟩ st') (a.put (some d) v') w' := by
   refine ⟨hr'.defers, v, hv1, v, ?_⟩
   have hMc : ∀ x, x = g → ∃ b, (b ∈ bs ∨ Y4 [(c, some (Bk.row e (rows.set i out) true))] b ≠ none) ∧ st'.h b ≠ none ∧ ∃ q, cx.ι b = some (x, q) := fun x hx => ⟨c, .inr hlkc, hcn, 0, by rw [hx]; exact hg⟩
   have hcore := ON (o := ⟨some d, .call { callee := .value (.func f), args := xs, argTypes := tys }, ty, pos, af, gg⟩) hr hd (hd d rfl) (w' := w') (pl := [(c, some (.row e (rows.set i out) true))]) (fz := bs) (gs2 := fun n => Ci cx2 ((os[n]?).getD none)) (us := us) (A2 := A') (v := v) (r := r) (fun n e' rows' hx => hf (d, n) ?_) (fun x hx => .inl (hr'.A0 x (.inl hx))) (fun x hx => ?_) (fun b hb => ⟨hlive b hb, fun g q hg => .inl (hr'.A0 g (.inr ⟨b, hb, hbn b hb, q, hg⟩))⟩) (fun b hb hb2 => ?_) (fun b y hy => ?_) hr'.sz hr'.cz (fun x hx hn => hr'.kept x hx fun hM => ?_) hr'.os hr'.tape hr'.output (fun n m x hx hy => ?_) (fun n x hx => ?_) hus hrt
   ·obtain ⟨cx', hc⟩ := hcore
    exact ⟨cx', rfl, hc⟩
   ·have := Wq d (QT r) 0 (d, n)
    rw [if_pos ⟨rfl, Nat.zero_le _⟩, Nat.sub_zero, hx] at this
    exact List.mem_map.2 ⟨_, YF this, rfl⟩
   ·rcases hx with hx | ⟨b, hb, hbl', q, hq⟩
    ·obtain ⟨g1, g2 | g2 | g2⟩ := hr'.A x hx
     ·rcases g2 with g2 | ⟨b, hb, g3, g4⟩
      ·exact .inl g2
      ·exact .inr (.inr ⟨b, .inl hb, g3, g4⟩)
     ·exact .inr (.inl ⟨g2, g1⟩)
     ·exact .inr (.inr (hMc x g2))
    ·obtain ⟨g1, g2 | g2⟩ := hr'.own b x q hbl' hq
     ·exact .inr (.inl ⟨g2, g1⟩)
     ·exact .inr (.inr (hMc x g2))
   ·rw [hlk2 b hb] at hb2; exact hdis' hb2
   ·obtain ⟨rfl, rfl⟩ := hlk b y hy
    exact ⟨⟨e, rows, hc'⟩, fun bk hbk => by cases hbk; exact ⟨e, rows, _, hc', rfl, by rw [List.length_set]; exact Nat.le_refl _, hRBc⟩⟩
   ·exact hn c hlkc 0 (by rw [show x = g from hM]; exact hg)
   ·obtain ⟨b, q, h8, h9⟩ := hgo n x hx
    obtain ⟨b2, q2, h10, h11⟩ := hgo m x hy
    by_cases hbb : b = b2
    ·subst hbb; exact hnod2 n m b h8 h10
    ·exact absurd rfl (hr'.inj b b2 x q x q2 (hlive2 b (List.mem_of_getElem? h8)) (hlive2 b2 (List.mem_of_getElem? h10)) h9 h11 hbb)
   ·obtain ⟨b, q, h8, h9⟩ := hgo n x hx
    have hbl3 := hlive2 b (List.mem_of_getElem? h8)
    obtain ⟨g1, g2 | g2⟩ := hr'.own b x q hbl3 h9
    ·exact ⟨g1, .inl g2⟩
    ·exfalso
     have g3 : x = g := g2
     subst g3
     refine hr'.inj b Ks x q x (i * e) hbl3 hpl h9 hpin2 ?_ rfl
     rintro rfl
     obtain ⟨_, _, h⟩ := hol2 _ (List.mem_of_getElem? h8)
     rw [hbox] at h; cases h
  rcases hex with rfl | rfl
  ·exact hR2
  ·exact hR2
 unfold Oper.wp
 rw [H1 hcon.ent, Oper.upon_enter, hfl]
 refine hcalls.mono ?_
 rintro ex w' ⟨v, cx', rfl, h⟩
 exact ⟨cx', h⟩
def TY (st : St) (c : Qs) (i : Nat) : List TV → List TV → Option (List TV × List Qs × List Prop)
 | .c (.ptr b j k) :: ts, _ :: ts' => match Xb b c, k with
  | true, 0 => match TY st c i ts ts' with
   | some (xs, bs, ps) => some (.c (.ptr Ks 0 0) :: xs, bs, (j = i) :: ps)
   | none => none
  | _, _ => none
 | .c x :: ts, .c (.p y) :: ts' => match Q85 st x (.p y) with
  | some ⟨.p p, none, b, q⟩ => match TY st c i ts ts' with
   | some (xs, bs, ps) => match Fj b bs, Fj q ps with
    | some b', some q' => some (.c (.p p) :: xs, b', q')
    | _, _ => none
   | none => none
  | _ => none
 | .agg x :: ts, .agg y :: ts' => match Gn st x (y.map fun z => match z with | .p p => .p p | _ => .p (.o undef)) with
  | some ⟨x', o, b, q⟩ => match x'.mapM (fun r => match r with | .p y => some y | _ => none), o.all (·.isNone) with
   | some ys, true => match TY st c i ts ts' with
    | some (xs, bs, ps) => match Fj b bs, Fj q ps with
     | some b', some q' => some (.agg (ys.map .p) :: xs, b', q')
     | _, _ => none
    | none => none
   | _, _ => none
  | none => none
 | [], [] => some ([], [], [])
 | _, _ => none
theorem Qpn {c : Qs} {i : Nat} : ∀ {ts ts' xs : List TV} {b : List Qs} {p : List Prop}, TY st c i ts ts' = some (xs, b, p) → XF p → HPs st c i ts xs b := by
 intro ts
 induction ts with
 | nil =>
  intro ts' xs b p h hp
  cases ts' with
  | nil => simp only [TY] at h; cases h; exact .nil
  | cons => simp [TY] at h
 | cons t ts ih =>
  intro ts' xs b p h hp
  unfold TY at h
  split at h
  ·rename_i h0
   cases h0
   split at h
   ·rename_i hb
    split at h
    ·rename_i h2
     cases h
     have := Zb.1 hb
     subst this
     cases hp with | cons hp hq => subst hp; exact .ptr (ih h2 hq)
    ·cases h
   ·cases h
  ·rename_i h0
   cases h0
   split at h
   ·rename_i h1
    split at h
    ·rename_i h2
     split at h
     ·rename_i hb hq
      cases h
      rw [Jq hb]
      rw [Jq hq] at hp
      exact .c (LZ h1 hp.app.1) (ih h2 hp.app.2)
     ·cases h
    ·cases h
   ·cases h
  ·rename_i h0
   cases h0
   split at h
   ·rename_i h1
    split at h
    ·rename_i h3 h4
     split at h
     ·rename_i h2
      split at h
      ·rename_i hb hq
       cases h
       rw [Jq hb]
       rw [Jq hq] at hp
       exact .agg (TT (Dl h1 hp.app.1) h3 h4) (ih h2 hp.app.2)
      ·cases h
     ·cases h
    ·cases h
   ·cases h
  ·rename_i h0; cases h0
  ·cases h
def ptF : List TV → List TV → Option (Qs × Nat)
 | .c (.ptr b j _) :: _, .c (.ptr _ _ _) :: _ => some (b, j)
 | _ :: ts, _ :: ts' => ptF ts ts'
 | _, _ => none
theorem callp {f : FuncId} {xs : Array Operand} {tys : Array TypeId} {c : Qs} {e i : Nat} {rows : List (List PV)} {row out : List PV} {ts ts2 : List TV} {r : List RS} {bs ids : List Qs} {bl : List (Qs × Option Bk)} {t : TV} {pa : List Prop}
  (hcon : CP P f ⟨e, i, rows⟩ row ts r out) (hrow : rows[i]? = some row) (hpa : XF pa) (hσ : ptF (xs.toList.map st.ev) ts = some (c, i) := by exact rfl) (hc : st.h c = some (.row e rows true) := by exact rfl) (hargs : TY st c i (xs.toList.map st.ev) ts = some (ts2, bs, pa) := by exact rfl) (he : ts2 = ts := by exact rfl)
  (hok : xs.toList.all Zm = true := by exact rfl) (hdis : CQ [c] bs = true := by exact rfl) (hids : (AD d 0 (QT r)).map (·.1) = ids := by exact rfl) (hbl : AD d 0 (QT r) ++ ([(c, some (.row e (rows.set i out) true))] ++ YH st bs) = bl := by exact rfl) (ht : HY d r = t := by exact rfl) :
  ZO E N P ops ⟨some d, .call { callee := .value (.func f), args := xs, argTypes := tys }, ty, pos, af, gg⟩ st ⟨c :: bs, ids⟩ ⟨t, bl⟩ := by
 subst he
 exact Qd9 hcon hc hrow (Qpn hargs hpa) hok hdis hids hbl ht
theorem Qxg {V : Type} {enc : V → List PV} {L : List V} {x x' : V} {f : FuncId} {xs : Array Operand} {tys : Array TypeId} {c : Qs} {e i : Nat} {ts ts2 : List TV} {r : List RS} {bs ids : List Qs} {bl : List (Qs × Option Bk)} {t : TV} {pa : List Prop}
  (hcon : CP P f ⟨e, i, L.map enc⟩ (enc x) ts r (enc x')) (hσ : ptF (xs.toList.map st.ev) ts = some (c, i) := by exact rfl) (hc : st.h c = some (.row e (L.map enc) true) := by exact rfl) (hargs : TY st c i (xs.toList.map st.ev) ts = some (ts2, bs, pa) := by exact rfl) (he : ts2 = ts := by exact rfl)
  (hok : xs.toList.all Zm = true := by exact rfl) (hdis : CQ [c] bs = true := by exact rfl) (hids : (AD d 0 (QT r)).map (·.1) = ids := by exact rfl) (hbl : AD d 0 (QT r) ++ ([(c, some (.row e ((L.set i x').map enc) true))] ++ YH st bs) = bl := by exact rfl) (ht : HY d r = t := by exact rfl) (hpa : XF pa := by exact IK) (hrow : L[i]? = some x := by exact hi_) :
  ZO E N P ops ⟨some d, .call { callee := .value (.func f), args := xs, argTypes := tys }, ty, pos, af, gg⟩ st ⟨c :: bs, ids⟩ ⟨t, bl⟩ :=
 callp hcon (by rw [List.getElem?_map, hrow]; rfl) hpa hσ hc hargs he hok hdis hids (by rw [← hbl, List.map_set]) ht
structure CPs where
 x : List PV
 bs : List Qs
 ps : List Prop
def Qxh (st : St) (cs : List CV) (out : List PV) : Option CPs := match Gn st cs (out.map .p) with
 | some ⟨x, o, b, p⟩ => match x.mapM (fun r => match r with | .p y => some y | _ => none), o.all (·.isNone) with
  | some ys, true => some ⟨ys, b, p⟩
  | _, _ => none
 | none => none
theorem Qpo {cs : List CV} {out : List PV} {c : CPs} (h : Qxh st cs out = some c) (hp : XF c.ps) : FI st cs c.x c.bs := by
 unfold Qxh at h
 split at h
 ·rename_i h1
  split at h
  ·rename_i h2 h3; cases h; exact TT (Dl h1 hp) h2 h3
  ·cases h
 ·cases h
theorem finP {T : Tb P} {fn : Func} {e : Exit} {fm : Frm} {r : List RS} {out : List PV} {ts : List TV} {c : CR} {cs : List CV} {c2 : CPs} (h1 : No T st fn.results.toList = some ts) (h2 : Iq st ts r = some c) (hb : st.h Ks = some (.box cs (some fm))) (h6 : Qxh st cs out = some c2) (hp : XF c.ps) (hq : XF c2.ps) (h3 : c.x = r) (h7 : c2.x = out) (h4 : Ix c.o = true) (h5 : CQ (c.o.filterMap id) (c.bs ++ c2.bs) = true) (he : e = .normal ∨ e = .ret) : Qhm T fn fm r out e st := by
 subst h3 h7
 exact ⟨he, _, _, _, _, _, H7 h1, H8 h2 hp, hb, Qpo h6 hq, h4, h5⟩
end
class Fh {R : Type} (W : (R → Prop) → Prop) (f : outParam Nat) (ins : outParam (List (Nat × List (List PV)))) (ts : outParam (List TV)) (res : outParam (R → List RS)) (outs : outParam (R → List (Option (List (List PV))))) : Prop extends Gm W where
 run : ∀ r, Rr W r → CH Tryz.prog f ins ts (res r) (outs r)
theorem cch {R : Type} {W : (R → Prop) → Prop} {f : Nat} {ins : List (Nat × List (List PV))} {ts : List TV} {res : R → List RS} {outs : R → List (Option (List (List PV)))} [g : Fh W f ins ts res outs] {r : R} (h : Rr W r) : CH Tryz.prog f ins ts (res r) (outs r) := g.run r h
class Fq {R : Type} (W : (R → Prop) → Prop) (V : outParam Type) (f : outParam Nat) (enc : outParam (V → List PV)) (x : outParam V) (ts : outParam (List TV)) (res : outParam (R → List RS)) (out : outParam (R → V)) : Prop extends Gm W where
 run : ∀ (L : List V) (i : Nat) (r : R), Rr W r → CP Tryz.prog f ⟨(enc x).length, i, L.map enc⟩ (enc x) ts (res r) (enc (out r))
theorem ccp {R V : Type} {W : (R → Prop) → Prop} {f : Nat} {enc : V → List PV} {x : V} {ts : List TV} {res : R → List RS} {out : R → V} [g : Fq W V f enc x ts res out] {L : List V} {i : Nat} {r : R} (h : Rr W r) : CP Tryz.prog f ⟨(enc x).length, i, L.map enc⟩ (enc x) ts (res r) (enc (out r)) := g.run L i r h
theorem idS {st tg : St} (h : UX st tg) : UX st tg := h
theorem idF0 {P : Program} {T : Tb P} {fn : Func} {r : List RS} {e : Exit} {st : St} (h : Nw T fn r e st) : Nw T fn r e st := h
theorem idFR {P : Program} {T : Tb P} {fn : Func} {r : List RS} {out : List RV} {e : Exit} {st : St} (h : Qcu T fn r out e st) : Qcu T fn r out e st := h
theorem idFH {P : Program} {T : Tb P} {fn : Func} {ins : List (Nat × List (List PV))} {r : List RS} {outs : List (Option (List (List PV)))} {e : Exit} {st : St} (h : Qhh T fn ins r outs e st) : Qhh T fn ins r outs e st := h
theorem idFP {P : Program} {T : Tb P} {fn : Func} {fm : Frm} {r : List RS} {out : List PV} {e : Exit} {st : St} (h : Qhm T fn fm r out e st) : Qhm T fn fm r out e st := h
theorem kBld {P : Program} {E : En} {N : Nat} {ops : Array Oper} {st : St} {ty t : Nat} {pos : String} {af : Array Edge} {gg : Option (Nat × Bool)} {dst : Option Nat} {f : Fp} {ef : Ef} {ps : Array (Nat × Operand)} (h : ZO E N P ops ⟨dst, .build t ps, ty, pos, af, gg⟩ st f ef) : ZO E N P ops ⟨dst, .build t ps, ty, pos, af, gg⟩ st f ef := h
theorem Qxi {st : St} {cs : List CV} {rvs : List RV} {r : COs} (h : Gn st cs rvs = some r) (hp : XF r.ps) (he : r.x = rvs) : AA st cs rvs r.o r.bs := by
 subst he; exact Dl h hp
theorem rn0 {R : Type} {W W' : (R → Prop) → Prop} {f : Nat} {fn : Func} {body : Code} {N : Nat} {cs : List RV} {avs : List AV} {fr : List (Nat × TV)} {ad : List CV} {H : List (Qs × Option Bk)} {res : R → List RS} {out : R → List RV} (hW : ∀ Q, W Q = W' Q) (hf : Tryz.prog.funcs[f]? = some fn) (hb : fn.body = some body := by exact rfl) (he : Iv Tryz.prog f = true := by kernel_rfl) (hN : fn.ntmps = N := by exact rfl) (hN2 : Nat.ble N 65536 = true := by kernel_rfl) (hl : Nat.ble (avs.length + 1) N = true := by kernel_rfl) (hn : avs.any AV.isRef = false := by kernel_rfl) (hfr : Fj (Rs 1 avs) [] = some fr := by exact rfl) (had : Fj (Ez 65536 1 cs) [] = some ad := by exact rfl) (hH : Fj (AD 65536 1 cs) [] = some H := by exact rfl)
  (run : ∀ r, W' (fun x => r = x) → ∀ E (Q : Exit → St → Prop), (∀ e st, Qcu tb fn (res r) (out r) e st → Q e st) → AW E N Tryz.prog body Q ⟨(0, .c (.ptr Ks 0 0)) :: fr, (Ks, some (.box ad)) :: H⟩) : Fn W f (.ref cs :: avs) res out := by
 refine ⟨fun r h => Qcv tb hf hb he hN hN2 (Nat.le_of_ble_eq_true hl) hn fun E => ?_⟩
 have h1 := Jq hfr
 have h2 := Jq had
 have h3 := Jq hH
 rw [List.append_nil] at h1 h2 h3
 rw [← h1, ← h2, ← h3]
 unfold Rr at h
 rw [hW] at h
 exact run r h E _ fun _ _ h => h
theorem wk_ {p : Prop} (h : p := by
  intro r h E Q hQ
  repeat' first
    | (with_reducible refine idR ?_
       first
        | with_reducible refine rt ?_
        | with_reducible refine rd ?_
        | refine dM rfl ?_
        | (with_reducible refine rcs h (fun hs h => ?_) (fun hs h => ?_)
           all_goals rewrite [hs])
        | (with_reducible apply e1
           case w => exact rfl
           case a => first
            | ((with_reducible apply Qwy); first | exact CS | exact LS | exact GZ | exact LS rfl rfl (by simp; done) | exact FE | exact Q3l rfl rfl rfl rfl)
            | ((with_reducible apply Qh9); first | exact FD rfl rfl (gm (by exact hi_)) | exact Ex rfl rfl (gm (by exact hi_)))
            | ((with_reducible apply Qha); first | exact Za rfl rfl QU rfl Jg | exact QX rfl rfl Vw rfl Jg | exact Za rfl rfl QU rfl T6 | exact QX rfl rfl Vw rfl T6 | exact Za rfl rfl QU rfl T5 | exact QX rfl rfl Vw rfl T5 | exact Q7r rfl rfl rfl rfl rfl | exact Q7s rfl rfl rfl rfl rfl)
            | ((with_reducible apply kBlt); first | exact Qop rfl rfl rfl | exact Qoo rfl rfl rfl)
            | ((with_reducible apply Qd2); exact Qxc)
            | ((with_reducible apply Tc); first | exact IG | exact H5 | exact o_string_nil rfl rfl rfl rfl rfl rfl rfl rfl)
            | ((with_reducible apply Qx0); first | exact Qxd (hf := by kernel_rfl) | exact eqs (hf := by kernel_rfl))
            | ((with_reducible apply kBld); exact Nk)
            | ((with_reducible apply kSli); exact Qcy rfl rfl rfl rfl rfl rfl rfl rfl rfl rfl rfl)
           case c => exact rfl)
        | (obtain ⟨v, hv, h⟩ := h
           have hc := IJ hv
           with_reducible apply e1
           case w => exact rfl
           case a => ((with_reducible apply Qh8); first | exact TQ hc | exact cal1 hc | exact Vv hc nl_ (hargs := by exact II rfl IK rfl) | exact H2 hc (hargs := by exact II rfl IK rfl) | exact Qcw hc (hcs := by exact Qxi rfl IK rfl) (hargs := by exact II rfl IK rfl))
           case c => exact rfl)
        | (obtain ⟨v, hv, h⟩ := h
           have hc := cch hv
           with_reducible apply e1
           case w => exact rfl
           case a => ((with_reducible apply Qh8); exact callh hc)
           case c => exact rfl)
        | (obtain ⟨v, hv, h⟩ := h
           with_reducible apply e1
           case w => exact rfl
           case a => ((with_reducible apply Qh8); exact Qxg (ccp hv))
           case c => exact rfl)
        | (obtain ⟨v, hv, h⟩ := h
           have hk := hv.2
           with_reducible apply e1
           case w => exact rfl
           case a => first
            | ((with_reducible apply Qd2); first | exact TI hv | exact Ff hv | exact Ff hv rfl rfl (by simp; done) | exact MF hv rfl rfl rfl rfl rfl rfl rfl rfl)
            | ((with_reducible apply kIx); exact H4 hv)
           case c => exact rfl)
        | (obtain ⟨hv, h⟩ := h
           with_reducible apply e1
           case w => exact rfl
           case a => first
            | ((with_reducible apply Qhb); exact Dg hv (hsrc := by first | exact UY Qt | exact XJ Qt rfl rfl rfl rfl rfl | exact Kr Qt | exact Kr Qt rfl rfl rfl (by simp; done) | exact XK Qt | exact XL Qt rfl rfl rfl rfl))
            | ((with_reducible apply Qwz); first | exact Fi hv (hsrc := by first | exact UY Qt | exact XJ Qt rfl rfl rfl rfl rfl | exact Kr Qt | exact Kr Qt rfl rfl rfl (by simp; done) | exact XK Qt | exact XL Qt rfl rfl rfl rfl) | exact Fi hv rfl rfl rfl (by simp; done) (hsrc := by first | exact UY Qt | exact XJ Qt rfl rfl rfl rfl rfl | exact Kr Qt | exact Kr Qt rfl rfl rfl (by simp; done) | exact XK Qt | exact XL Qt rfl rfl rfl rfl) | exact Dg hv (hsrc := by first | exact UY Qt | exact XJ Qt rfl rfl rfl rfl rfl | exact Kr Qt | exact Kr Qt rfl rfl rfl (by simp; done) | exact XK Qt | exact XL Qt rfl rfl rfl rfl) | exact ML hv (hsrc := by first | exact UY Qt | exact XJ Qt rfl rfl rfl rfl rfl | exact Kr Qt | exact Kr Qt rfl rfl rfl (by simp; done) | exact XK Qt | exact XL Qt rfl rfl rfl rfl))
            | ((with_reducible apply Qx1); exact Qh4 hv)
            | ((with_reducible apply Qx2); exact Qh3 hv)
            | ((with_reducible apply Qx3); exact Qau hv)
            | ((with_reducible apply Qx4); exact Qav hv)
            | ((with_reducible apply Qx5); exact Ty rfl rfl hv rfl rfl)
            | ((with_reducible apply kSL); first | exact ID hv | exact TJ hv | exact OG hv rfl rfl rfl rfl rfl rfl)
            | ((with_reducible apply kSH); first | exact IE hv | exact TK hv | exact OH hv rfl rfl rfl rfl rfl rfl)
            | ((with_reducible apply kSB); first | exact FJ hv | exact MH hv rfl rfl rfl rfl rfl rfl rfl rfl rfl rfl rfl | exact IF hv rfl rfl rfl rfl rfl rfl rfl rfl)
            | ((with_reducible apply Tc); exact TN hv rfl rfl rfl rfl rfl rfl rfl)
           case c => exact rfl)
        | (with_reducible apply e1
           case w => exact rfl
           case a => first | exact bsl h | exact bsl0 h | exact Qxf h | (apply fz1; (case m => exact rfl); (case c => exact rfl); (case k => exact Qxf h); (case a => exact rfl)) | (apply fz1; (case m => exact rfl); (case c => exact rfl); (case k => (apply fz1; (case m => exact rfl); (case c => exact rfl); (case k => exact Qxf h); (case a => exact rfl))); (case a => exact rfl))
           case c => exact rfl
           replace h := Qh.out h)
        | (with_reducible apply e0
           case w => exact rfl
           case a => first | exact srow h | exact Qhf h | (apply fz1; (case m => exact rfl); (case c => exact rfl); (case k => exact Qhf h); (case a => exact rfl)) | (apply fz1; (case m => exact rfl); (case c => exact rfl); (case k => (apply fz1; (case m => exact rfl); (case c => exact rfl); (case k => exact Qhf h); (case a => exact rfl))); (case a => exact rfl))
           case c => exact rfl
           replace h := Qh.out h)
        | (obtain ⟨hv, h⟩ := h
           with_reducible apply e1
           case w => exact rfl
           case a => exact mk_ h hv
           case c => exact rfl
           replace h := Qh.out h)
        | (with_reducible apply eg1
           case hj => exact rfl
           case hb => exact rfl
           case hg => first | exact Vw | exact QU
           case a =>
             intro hg
             first | simp only [QW hg, QW (Nn hg)] | simp only [QW hg] | skip
             first
              | ((with_reducible apply Qwy); first | exact CS | exact LS | exact GZ | exact FE)
              | ((with_reducible apply Qh9); first | exact pV | exact FD rfl rfl (gm (by first | exact (hv hg).2 | exact hi_)) | exact Ex rfl rfl (gm (by first | exact (hv hg).2 | exact hi_)))
              | ((with_reducible apply Qha); first | exact Za rfl rfl (H6 hg) rfl Jg | exact QX rfl rfl (Y3 hg) rfl Jg | exact Za rfl rfl (H6 hg) rfl T6 | exact QX rfl rfl (Y3 hg) rfl T6 | exact Za rfl rfl (H6 hg) rfl T5 | exact QX rfl rfl (Y3 hg) rfl T5)
              | ((with_reducible apply Qd2); exact Qxc)
              | ((with_reducible apply Tc); first | exact pV | exact IG | exact H5)
              | ((with_reducible apply Qx0); first | exact pV | exact Qxd (hf := by kernel_rfl) | exact eqs (hf := by kernel_rfl))
              | (exact pV))
        | (with_reducible apply eg
           case hj => exact rfl
           case hb => exact rfl
           case hg => first | exact Z8 | exact Dk
           case a =>
             intro hg
             first | simp only [QW hg, QW (Nn hg)] | simp only [QW hg] | skip
             first
              | ((with_reducible apply Qwy); first | exact CS | exact LS | exact GZ | exact FE)
              | ((with_reducible apply Qh9); first | exact pV | exact FD rfl rfl (gm (by first | exact (hv hg).2 | exact hi_)) | exact Ex rfl rfl (gm (by first | exact (hv hg).2 | exact hi_)))
              | ((with_reducible apply Qha); first | exact Za rfl rfl (H6 hg) rfl Jg | exact QX rfl rfl (Y3 hg) rfl Jg | exact Za rfl rfl (H6 hg) rfl T6 | exact QX rfl rfl (Y3 hg) rfl T6 | exact Za rfl rfl (H6 hg) rfl T5 | exact QX rfl rfl (Y3 hg) rfl T5)
              | ((with_reducible apply Qd2); exact Qxc)
              | ((with_reducible apply Tc); first | exact pV | exact IG | exact H5)
              | ((with_reducible apply Qx0); first | exact pV | exact Qxd (hf := by kernel_rfl) | exact eqs (hf := by kernel_rfl))
              | (exact pV))
        | (obtain ⟨v, hv, h⟩ := h
           with_reducible apply eg1
           case hj => exact rfl
           case hb => exact rfl
           case hg => first | exact Vw | exact QU
           case a =>
             intro hg
             first | simp only [QW hg, QW (Nn hg)] | simp only [QW hg] | skip
             (with_reducible apply Qh8)
             have hc := IJ (hv hg)
             first
              | exact TQ hc
              | exact Vv hc nl_ (hargs := by exact II rfl IK rfl)
              | exact H2 hc (hargs := by exact II rfl IK rfl))
        | (obtain ⟨v, hv, h⟩ := h
           with_reducible apply eg
           case hj => exact rfl
           case hb => exact rfl
           case hg => first | exact Z8 | exact Dk
           case a =>
             intro hg
             first | simp only [QW hg, QW (Nn hg)] | simp only [QW hg] | skip
             (with_reducible apply Qh8)
             have hc := IJ (hv hg)
             first
              | exact TQ hc
              | exact Vv hc nl_ (hargs := by exact II rfl IK rfl)
              | exact H2 hc (hargs := by exact II rfl IK rfl))
        | (obtain ⟨v, hv, h⟩ := h
           with_reducible apply eg1
           case hj => exact rfl
           case hb => exact rfl
           case hg => first | exact Vw | exact QU
           case a =>
             intro hg
             first | simp only [QW hg, QW (Nn hg)] | simp only [QW hg] | skip
             have hv := hv hg
             first
              | ((with_reducible apply Qd2); first | exact TI hv | exact Ff hv | exact Ff hv rfl rfl (by simp; done) | exact MF hv rfl rfl rfl rfl rfl rfl rfl rfl)
              | ((with_reducible apply kIx); exact H4 hv))
        | (obtain ⟨v, hv, h⟩ := h
           with_reducible apply eg
           case hj => exact rfl
           case hb => exact rfl
           case hg => first | exact Z8 | exact Dk
           case a =>
             intro hg
             first | simp only [QW hg, QW (Nn hg)] | simp only [QW hg] | skip
             have hv := hv hg
             first
              | ((with_reducible apply Qd2); first | exact TI hv | exact Ff hv | exact Ff hv rfl rfl (by simp; done) | exact MF hv rfl rfl rfl rfl rfl rfl rfl rfl)
              | ((with_reducible apply kIx); exact H4 hv))
        | (obtain ⟨hv, h⟩ := h
           with_reducible apply eg1
           case hj => exact rfl
           case hb => exact rfl
           case hg => first | exact Vw | exact QU
           case a =>
             intro hg
             first | simp only [QW hg, QW (Nn hg)] | simp only [QW hg] | skip
             have hv := hv hg
             first
              | ((with_reducible apply Qhb); exact Dg hv (hsrc := by first | exact UY Qt | exact XJ Qt rfl rfl rfl rfl rfl | exact Kr Qt | exact Kr Qt rfl rfl rfl (by simp; done) | exact XK Qt | exact XL Qt rfl rfl rfl rfl))
              | ((with_reducible apply Qwz); first | exact Fi hv (hsrc := by first | exact UY Qt | exact XJ Qt rfl rfl rfl rfl rfl | exact Kr Qt | exact Kr Qt rfl rfl rfl (by simp; done) | exact XK Qt | exact XL Qt rfl rfl rfl rfl) | exact Fi hv rfl rfl rfl (by simp; done) (hsrc := by first | exact UY Qt | exact XJ Qt rfl rfl rfl rfl rfl | exact Kr Qt | exact Kr Qt rfl rfl rfl (by simp; done) | exact XK Qt | exact XL Qt rfl rfl rfl rfl) | exact Dg hv (hsrc := by first | exact UY Qt | exact XJ Qt rfl rfl rfl rfl rfl | exact Kr Qt | exact Kr Qt rfl rfl rfl (by simp; done) | exact XK Qt | exact XL Qt rfl rfl rfl rfl) | exact ML hv (hsrc := by first | exact UY Qt | exact XJ Qt rfl rfl rfl rfl rfl | exact Kr Qt | exact Kr Qt rfl rfl rfl (by simp; done) | exact XK Qt | exact XL Qt rfl rfl rfl rfl))
              | ((with_reducible apply Qx1); exact Qh4 hv)
              | ((with_reducible apply Qx2); exact Qh3 hv)
              | ((with_reducible apply Qx3); exact Qau hv)
              | ((with_reducible apply Qx4); exact Qav hv)
              | ((with_reducible apply Qx5); exact Ty rfl rfl hv rfl rfl)
              | ((with_reducible apply kSL); first | exact ID hv | exact TJ hv | exact OG hv rfl rfl rfl rfl rfl rfl)
              | ((with_reducible apply kSH); first | exact IE hv | exact TK hv | exact OH hv rfl rfl rfl rfl rfl rfl)
              | ((with_reducible apply kSB); first | exact FJ hv | exact MH hv rfl rfl rfl rfl rfl rfl rfl rfl rfl rfl rfl | exact IF hv rfl rfl rfl rfl rfl rfl rfl rfl)
              | ((with_reducible apply Tc); exact TN hv rfl rfl rfl rfl rfl rfl rfl))
        | (obtain ⟨hv, h⟩ := h
           with_reducible apply eg
           case hj => exact rfl
           case hb => exact rfl
           case hg => first | exact Z8 | exact Dk
           case a =>
             intro hg
             first | simp only [QW hg, QW (Nn hg)] | simp only [QW hg] | skip
             have hv := hv hg
             first
              | ((with_reducible apply Qhb); exact Dg hv (hsrc := by first | exact UY Qt | exact XJ Qt rfl rfl rfl rfl rfl | exact Kr Qt | exact Kr Qt rfl rfl rfl (by simp; done) | exact XK Qt | exact XL Qt rfl rfl rfl rfl))
              | ((with_reducible apply Qwz); first | exact Fi hv (hsrc := by first | exact UY Qt | exact XJ Qt rfl rfl rfl rfl rfl | exact Kr Qt | exact Kr Qt rfl rfl rfl (by simp; done) | exact XK Qt | exact XL Qt rfl rfl rfl rfl) | exact Fi hv rfl rfl rfl (by simp; done) (hsrc := by first | exact UY Qt | exact XJ Qt rfl rfl rfl rfl rfl | exact Kr Qt | exact Kr Qt rfl rfl rfl (by simp; done) | exact XK Qt | exact XL Qt rfl rfl rfl rfl) | exact Dg hv (hsrc := by first | exact UY Qt | exact XJ Qt rfl rfl rfl rfl rfl | exact Kr Qt | exact Kr Qt rfl rfl rfl (by simp; done) | exact XK Qt | exact XL Qt rfl rfl rfl rfl) | exact ML hv (hsrc := by first | exact UY Qt | exact XJ Qt rfl rfl rfl rfl rfl | exact Kr Qt | exact Kr Qt rfl rfl rfl (by simp; done) | exact XK Qt | exact XL Qt rfl rfl rfl rfl))
              | ((with_reducible apply Qx1); exact Qh4 hv)
              | ((with_reducible apply Qx2); exact Qh3 hv)
              | ((with_reducible apply Qx3); exact Qau hv)
              | ((with_reducible apply Qx4); exact Qav hv)
              | ((with_reducible apply Qx5); exact Ty rfl rfl hv rfl rfl)
              | ((with_reducible apply kSL); first | exact ID hv | exact TJ hv | exact OG hv rfl rfl rfl rfl rfl rfl)
              | ((with_reducible apply kSH); first | exact IE hv | exact TK hv | exact OH hv rfl rfl rfl rfl rfl rfl)
              | ((with_reducible apply kSB); first | exact FJ hv | exact MH hv rfl rfl rfl rfl rfl rfl rfl rfl rfl rfl rfl | exact IF hv rfl rfl rfl rfl rfl rfl rfl rfl)
              | ((with_reducible apply Tc); exact TN hv rfl rfl rfl rfl rfl rfl rfl))
        | refine Qge rfl ?_
        | ((fail_if_success with_reducible refine idC ?_)
           refine rcp rfl ?_))
    | (with_reducible refine idA ?_
       first
        | refine Qp6 h ?_ fun h => ?_
        | refine tDp rfl rfl ?_
        | refine cn h (fun h => ?_) fun h => ?_
        | refine aw_jo h (fun p h => ?_) fun J L hL h => ?_
        | refine aw_lo h ?_ fun X L hL s h => ?_
        | refine tEp rfl rfl ?_
        | with_reducible refine tk fun L hL => ?_
        | with_reducible refine dk mixed fun L hL => ?_
        | with_reducible refine tl fun L hL => ?_
        | with_reducible refine dl mixed fun L hL => ?_
        | with_reducible refine sk fun L hL => ?_
        | with_reducible refine WM ?_
        | with_reducible refine Qor ?_
        | with_reducible refine Qgo ?_
        | (with_reducible refine AC ?_
           obtain rfl := h
           refine hQ _ _ ?_
           first | ((with_reducible apply idF0); exact fin0 rfl rfl IK (by kernel_rfl) (by kernel_rfl) (by kernel_rfl) (.inr rfl)) | ((with_reducible apply idFR); exact finR rfl rfl rfl rfl IK IK (by kernel_rfl) (by kernel_rfl) (by kernel_rfl) (by kernel_rfl) (.inr rfl)) | ((with_reducible apply idFH); exact finH rfl rfl rfl IK IK (by kernel_rfl) (by kernel_rfl) (by kernel_rfl) (by kernel_rfl) (.inr rfl)) | ((with_reducible apply idFP); exact finP rfl rfl rfl rfl IK IK (by kernel_rfl) (by kernel_rfl) (by kernel_rfl) (by kernel_rfl) (.inr rfl)))
        | refine Qgn ?_
        | refine Qcp rfl rfl ?_
        | refine Qcq rfl rfl ?_
        | refine Qh6 rfl fun G hL => ?_
        | refine Qp2 ⟨rfl, ?_⟩)
    | (with_reducible refine idS ?_
       exact sub_)
    | ((fail_if_success with_reducible refine idR ?_)
       (fail_if_success with_reducible refine idA ?_)
       (fail_if_success with_reducible refine idS ?_)
       first
        | refine hL _ ?_
        | (refine hL _ _ h ?_
           exact sub_)
        | exact h
        | apply_assumption
        | (obtain rfl := h
           refine hQ _ _ ?_
           first | ((with_reducible apply idF0); exact fin0 rfl rfl IK (by kernel_rfl) (by kernel_rfl) (by kernel_rfl) (.inl rfl)) | ((with_reducible apply idFR); exact finR rfl rfl rfl rfl IK IK (by kernel_rfl) (by kernel_rfl) (by kernel_rfl) (by kernel_rfl) (.inl rfl)) | ((with_reducible apply idFH); exact finH rfl rfl rfl IK IK (by kernel_rfl) (by kernel_rfl) (by kernel_rfl) (by kernel_rfl) (.inl rfl)) | ((with_reducible apply idFP); exact finP rfl rfl rfl rfl IK IK (by kernel_rfl) (by kernel_rfl) (by kernel_rfl) (by kernel_rfl) (.inl rfl))))
  all_goals fail) : p := h
theorem Zo {R : Type} {W W' : (R → Prop) → Prop} {f : Nat} {fn : Func} {body : Code} {N : Nat} {avs : List AV} {fr : List (Nat × TV)} {res : R → List RS} (hW : ∀ Q, W Q = W' Q) (hf : Tryz.prog.funcs[f]? = some fn) (hb : fn.body = some body := by exact rfl) (he : Iv Tryz.prog f = true := by kernel_rfl) (hN : fn.ntmps = N := by exact rfl) (hN2 : Nat.ble N 65536 = true := by kernel_rfl) (hl : Nat.ble avs.length N = true := by kernel_rfl) (hn : avs.any AV.isRef = false := by kernel_rfl) (hfr : Fj (Rs 0 avs) [] = some fr := by exact rfl)
  (gm : GM W' W' := by exact gm_) (run : ∀ r, W' (fun x => r = x) → ∀ E (Q : Exit → St → Prop), (∀ e st, Nw tb fn (res r) e st → Q e st) → AW E N Tryz.prog body Q ⟨fr, []⟩ := by exact wk_) : Fg W f avs res (fun _ => []) := { toFn := fn0 hW hf hb he hN hN2 hl hn hfr run, gm := gm0 hW gm }
theorem rg0 {R : Type} {W W' : (R → Prop) → Prop} {f : Nat} {fn : Func} {body : Code} {N : Nat} {cs : List RV} {avs : List AV} {fr : List (Nat × TV)} {ad : List CV} {H : List (Qs × Option Bk)} {res : R → List RS} {out : R → List RV} (hW : ∀ Q, W Q = W' Q) (hf : Tryz.prog.funcs[f]? = some fn) (hb : fn.body = some body := by exact rfl) (he : Iv Tryz.prog f = true := by kernel_rfl) (hN : fn.ntmps = N := by exact rfl) (hN2 : Nat.ble N 65536 = true := by kernel_rfl) (hl : Nat.ble (avs.length + 1) N = true := by kernel_rfl) (hn : avs.any AV.isRef = false := by kernel_rfl) (hfr : Fj (Rs 1 avs) [] = some fr := by exact rfl) (had : Fj (Ez 65536 1 cs) [] = some ad := by exact rfl) (hH : Fj (AD 65536 1 cs) [] = some H := by exact rfl)
  (gm : GM W' W' := by exact gm_) (run : ∀ r, W' (fun x => r = x) → ∀ E (Q : Exit → St → Prop), (∀ e st, Qcu tb fn (res r) (out r) e st → Q e st) → AW E N Tryz.prog body Q ⟨(0, .c (.ptr Ks 0 0)) :: fr, (Ks, some (.box ad)) :: H⟩ := by exact wk_) : Fg W f (.ref cs :: avs) res out := { toFn := rn0 hW hf hb he hN hN2 hl hn hfr had hH run, gm := gm0 hW gm }
theorem fh0 {R : Type} {W W' : (R → Prop) → Prop} {f : Nat} {fn : Func} {body : Code} {N : Nat} {ins : List (Nat × List (List PV))} {ts : List TV} {fr : List (Nat × TV)} {H : List (Qs × Option Bk)} {res : R → List RS} {outs : R → List (Option (List (List PV)))} (hW : ∀ Q, W Q = W' Q) (hf : Tryz.prog.funcs[f]? = some fn) (hb : fn.body = some body := by exact rfl) (he : Iv Tryz.prog f = true := by kernel_rfl) (hN : fn.ntmps = N := by exact rfl) (hN2 : Nat.ble N 65536 = true := by kernel_rfl) (hl : Nat.ble ts.length N = true := by kernel_rfl) (hfr : Fj (enT 0 ts) [] = some fr := by exact rfl) (hH : Fj (inH 0 ins) [] = some H := by exact rfl)
  (gm : GM W' W' := by exact gm_) (run : ∀ r, W' (fun x => r = x) → ∀ E (Q : Exit → St → Prop), (∀ e st, Qhh tb fn ins (res r) (outs r) e st → Q e st) → AW E N Tryz.prog body Q ⟨fr, H⟩ := by exact wk_) : Fh W f ins ts res outs := by
 refine { toGm := ⟨gm0 hW gm⟩, run := fun r h => ?_ }
 refine ⟨he, tb, fn, body, hf, hb, by rw [hN]; exact Nat.le_of_ble_eq_true hN2, by rw [hN]; exact Nat.le_of_ble_eq_true hl, fun E => ?_⟩
 have h1 := Jq hfr
 have h2 := Jq hH
 rw [List.append_nil] at h1 h2
 rw [← h1, ← h2, hN]
 unfold Rr at h
 rw [hW] at h
 exact run r h E _ fun _ _ h => h
theorem fp0 {R V : Type} {W W' : (R → Prop) → Prop} {f : Nat} {fn : Func} {body : Code} {N : Nat} {enc : V → List PV} {x : V} {ts : List TV} {fr : List (Nat × TV)} {cs : List CV} {res : R → List RS} {out : R → V} (hW : ∀ Q, W Q = W' Q) (hf : Tryz.prog.funcs[f]? = some fn) (hb : fn.body = some body := by exact rfl) (he : Iv Tryz.prog f = true := by kernel_rfl) (hN : fn.ntmps = N := by exact rfl) (hN2 : Nat.ble N 65536 = true := by kernel_rfl) (hl : Nat.ble ts.length N = true := by kernel_rfl) (hfr : Fj (enT 0 ts) [] = some fr := by exact rfl) (hcs : Fj ((enc x).map .p) [] = some cs := by exact rfl)
  (gm : GM W' W' := by exact gm_) (run : ∀ fm r, W' (fun x => r = x) → ∀ E (Q : Exit → St → Prop), (∀ e st, Qhm tb fn fm (res r) (enc (out r)) e st → Q e st) → AW E N Tryz.prog body Q ⟨fr, [(Ks, some (.box cs (some fm)))]⟩ := by exact fun fm => wk_) : Fq W V f enc x ts res out := by
 refine { toGm := ⟨gm0 hW gm⟩, run := fun L i r h => ?_ }
 refine ⟨he, tb, fn, body, hf, hb, by rw [hN]; exact Nat.le_of_ble_eq_true hN2, by rw [hN]; exact Nat.le_of_ble_eq_true hl, fun E => ?_⟩
 have h1 := Jq hfr
 have h2 := Jq hcs
 rw [List.append_nil] at h1 h2
 rw [← h1, ← h2, hN]
 unfold Rr at h
 rw [hW] at h
 exact run _ r h E _ fun _ _ h => h
structure Qo where
 fa8 : Int
 fb8 : Int
 fb0 : Int
 fb3 : Int
 fc3 : Int
 fc5 : Int
 fb4 : Int
def Yc (x : Qo) : List PV := [.v (.int .i64 (x.fa8)), .v (.int .i64 (x.fb8)), .v (.int .i64 (x.fb0)), .v (.int .i64 (x.fb3)), .v (.int .i64 (x.fc3)), .v (.int .i64 (x.fc5)), .v (.int .i64 (x.fb4))]
structure Qq where
 fd3 : Int
 fTo : Int
 fx : Int
 fb0 : (List Int)
def Zi (x : Qq) : List PV := [.v (.int .i64 (x.fd3)), .v (.int .i64 (x.fTo)), .v (.int .i64 (x.fx)), .l 1 (List.map (eI .i64) (x.fb0))]
structure Qu where
 fID : Int
 fc1 : (List Qq)
def Qi (x : Qu) : List PV := [.v (.int .i64 (x.fID)), .l 4 (List.map Zi (x.fc1))]
structure Qg where
 ff0 : ByteArray
 fb9 : Int
 fd3 : Int
 fTo : Int
def Qb (x : Qg) : List PV := [.v (.string (x.ff0)), .v (.int .i64 (x.fb9)), .v (.int .i64 (x.fd3)), .v (.int .i64 (x.fTo))]
structure QD where
 fa1 : Int
 fc9 : Int
def Ql (x : QD) : List PV := [.v (.int .i64 (x.fa1)), .v (.int .i64 (x.fc9))]
structure Qx where
 fg9 : Int
 fi2 : Int
 fd2 : (List Int)
def Qn (x : Qx) : List PV := [.v (.int .i64 (x.fg9)), .v (.int .i64 (x.fi2)), .l 1 (List.map (eI .u8) (x.fd2))]
structure Qy where
 fc4 : Int
 fb0 : (List Qx)
def UH (x : Qy) : List PV := [.v (.int .i64 (x.fc4)), .l 3 (List.map Qn (x.fb0))]
structure Q2 where
 fq : Qo
 fa1 : Int
 fd6 : Int
 fa9 : (List Qu)
 fb6 : (List Qg)
 fc3 : (List QD)
 fc2 : Qy
def Qv (x : Q2) : List PV := [.v (.int .i64 (x.fq.fa8)), .v (.int .i64 (x.fq.fb8)), .v (.int .i64 (x.fq.fb0)), .v (.int .i64 (x.fq.fb3)), .v (.int .i64 (x.fq.fc3)), .v (.int .i64 (x.fq.fc5)), .v (.int .i64 (x.fq.fb4)), .v (.int .i64 (x.fa1)), .v (.int .i64 (x.fd6)), .l 2 (List.map Qi (x.fa9)), .l 4 (List.map Qb (x.fb6)), .l 2 (List.map Ql (x.fc3)), .v (.int .i64 (x.fc2.fc4)), .l 3 (List.map Qn (x.fc2.fb0))]
structure QC where
 fi0 : Bool
 fa1 : Int
 fb8 : (List ByteArray)
def KN (x : QC) : List PV := [.v (.bool (x.fi0)), .v (.int .i64 (x.fa1)), .l 1 (List.map eS (x.fb8))]
structure QZ where
 fi0 : Bool
 fa1 : Int
 ff0 : ByteArray
 fi1 : Int
def Xo (x : QZ) : List PV := [.v (.bool (x.fi0)), .v (.int .i64 (x.fa1)), .v (.string (x.ff0)), .v (.int .i64 (x.fi1))]
structure Q9 where
 fa4 : Int
 fx : Int
 fa6 : Int
 fa5 : Int
def FL (x : Q9) : List PV := [.v (.int .i64 (x.fa4)), .v (.int .i64 (x.fx)), .v (.int .i64 (x.fa6)), .v (.int .u64 (x.fa5))]
structure Zc where
 fd5 : ByteArray
 fg6 : Int
def ZC (x : Zc) : List PV := [.v (.string (x.fd5)), .v (.int .i64 (x.fg6))]
structure QQ where
 fa4 : Int
 fd5 : ByteArray
 fc9 : Int
 fi4 : Int
 fi3 : Int
def Ha (x : QQ) : List PV := [.v (.int .i64 (x.fa4)), .v (.string (x.fd5)), .v (.int .i64 (x.fc9)), .v (.int .i64 (x.fi4)), .v (.int .i64 (x.fi3))]
structure QF where
 fa4 : Int
 ff0 : ByteArray
 fi : ByteArray
 fb8 : (List ByteArray)
 fu : Q9
 fb7 : (List Zc)
 fh5 : (List Int)
 fg7 : Int
 fh3 : Int
 fc8 : Int
 fh7 : Int
 ff4 : Int
 fc9 : Int
 ff3 : QQ
 fd2 : (List Int)
def VB (x : QF) : List PV := [.v (.int .i64 (x.fa4)), .v (.string (x.ff0)), .v (.string (x.fi)), .l 1 (List.map eS (x.fb8)), .v (.int .i64 (x.fu.fa4)), .v (.int .i64 (x.fu.fx)), .v (.int .i64 (x.fu.fa6)), .v (.int .u64 (x.fu.fa5)), .l 2 (List.map ZC (x.fb7)), .l 1 (List.map (eI .u8) (x.fh5)), .v (.int .i64 (x.fg7)), .v (.int .i64 (x.fh3)), .v (.int .i64 (x.fc8)), .v (.int .i64 (x.fh7)), .v (.int .i64 (x.ff4)), .v (.int .i64 (x.fc9)), .v (.int .i64 (x.ff3.fa4)), .v (.string (x.ff3.fd5)), .v (.int .i64 (x.ff3.fc9)), .v (.int .i64 (x.ff3.fi4)), .v (.int .i64 (x.ff3.fi3)), .l 1 (List.map (eI .u8) (x.fd2))]
structure Qc where
 f9 : Int
 fb7 : Int
 fg : Bool
def WS (x : Qc) : List PV := [.v (.int .i64 (x.f9)), .v (.int .i64 (x.fb7)), .v (.bool (x.fg))]
structure Q3 where
 fa6 : Int
 fx : Int
 fa5 : Int
 fc0 : (List Int)
 fg : Bool
def V9 (x : Q3) : List PV := [.v (.int .i64 (x.fa6)), .v (.int .i64 (x.fx)), .v (.int .u64 (x.fa5)), .l 1 (List.map (eI .i64) (x.fc0)), .v (.bool (x.fg))]
structure Q7 where
 fa7 : Int
 fa5 : Int
 fa3 : (List Int)
def Yd (x : Q7) : List PV := [.v (.int .i64 (x.fa7)), .v (.int .u64 (x.fa5)), .l 1 (List.map (eI .i64) (x.fa3))]
structure Q5 where
 fd5 : ByteArray
 fc9 : Int
 ff2 : Int
def Q1 (x : Q5) : List PV := [.v (.string (x.fd5)), .v (.int .i64 (x.fc9)), .v (.int .i64 (x.ff2))]
structure Qd where
 fx : Int
 f9 : Int
 fw : (List Q5)
 fg : Bool
def Uk (x : Qd) : List PV := [.v (.int .i64 (x.fx)), .v (.int .i64 (x.f9)), .l 3 (List.map Q1 (x.fw)), .v (.bool (x.fg))]
structure Q4 where
 fx : Int
 f9 : Int
 fd1 : Int
 fw : (List Q5)
 fg : Bool
def VR (x : Q4) : List PV := [.v (.int .i64 (x.fx)), .v (.int .i64 (x.f9)), .v (.int .i64 (x.fd1)), .l 3 (List.map Q1 (x.fw)), .v (.bool (x.fg))]
structure Q8 where
 fx : Int
 f9 : Int
 fc6 : Int
 fb2 : (List (List ByteArray))
 fg : Bool
def Xz (x : Q8) : List PV := [.v (.int .i64 (x.fx)), .v (.int .i64 (x.f9)), .v (.int .i64 (x.fc6)), .l 1 (List.map (eL 1 eS) (x.fb2)), .v (.bool (x.fg))]
structure Q6 where
 fu : Q9
 fa2 : Qc
 fj : Q3
 fa0 : Q7
 fb5 : Qd
 fk : Q4
 f7 : Q8
def JG (x : Q6) : List PV := [.v (.int .i64 (x.fu.fa4)), .v (.int .i64 (x.fu.fx)), .v (.int .i64 (x.fu.fa6)), .v (.int .u64 (x.fu.fa5)), .v (.int .i64 (x.fa2.f9)), .v (.int .i64 (x.fa2.fb7)), .v (.bool (x.fa2.fg)), .v (.int .i64 (x.fj.fa6)), .v (.int .i64 (x.fj.fx)), .v (.int .u64 (x.fj.fa5)), .l 1 (List.map (eI .i64) (x.fj.fc0)), .v (.bool (x.fj.fg)), .v (.int .i64 (x.fa0.fa7)), .v (.int .u64 (x.fa0.fa5)), .l 1 (List.map (eI .i64) (x.fa0.fa3)), .v (.int .i64 (x.fb5.fx)), .v (.int .i64 (x.fb5.f9)), .l 3 (List.map Q1 (x.fb5.fw)), .v (.bool (x.fb5.fg)), .v (.int .i64 (x.fk.fx)), .v (.int .i64 (x.fk.f9)), .v (.int .i64 (x.fk.fd1)), .l 3 (List.map Q1 (x.fk.fw)), .v (.bool (x.fk.fg)), .v (.int .i64 (x.f7.fx)), .v (.int .i64 (x.f7.f9)), .v (.int .i64 (x.f7.fc6)), .l 1 (List.map (eL 1 eS) (x.f7.fb2)), .v (.bool (x.f7.fg))]
structure QK where
 fb9 : Int
 fd3 : Int
def Hb (x : QK) : List PV := [.v (.int .i64 (x.fb9)), .v (.int .i64 (x.fd3))]
structure Qe where
 fd0 : Int
 fg4 : Int
 fg1 : Bool
 fc1 : (List Int)
 fb9 : Int
 fh : Q6
 fi : Q6
 fd8 : Int
 fg8 : Int
 fc8 : Int
 ff4 : Int
 fAt : QK
 fd2 : (List Int)
 fd9 : Bool
def VL (x : Qe) : List PV := [.v (.int .i64 (x.fd0)), .v (.int .i64 (x.fg4)), .v (.bool (x.fg1)), .l 1 (List.map (eI .i64) (x.fc1)), .v (.int .i64 (x.fb9)), .v (.int .i64 (x.fh.fu.fa4)), .v (.int .i64 (x.fh.fu.fx)), .v (.int .i64 (x.fh.fu.fa6)), .v (.int .u64 (x.fh.fu.fa5)), .v (.int .i64 (x.fh.fa2.f9)), .v (.int .i64 (x.fh.fa2.fb7)), .v (.bool (x.fh.fa2.fg)), .v (.int .i64 (x.fh.fj.fa6)), .v (.int .i64 (x.fh.fj.fx)), .v (.int .u64 (x.fh.fj.fa5)), .l 1 (List.map (eI .i64) (x.fh.fj.fc0)), .v (.bool (x.fh.fj.fg)), .v (.int .i64 (x.fh.fa0.fa7)), .v (.int .u64 (x.fh.fa0.fa5)), .l 1 (List.map (eI .i64) (x.fh.fa0.fa3)), .v (.int .i64 (x.fh.fb5.fx)), .v (.int .i64 (x.fh.fb5.f9)), .l 3 (List.map Q1 (x.fh.fb5.fw)), .v (.bool (x.fh.fb5.fg)), .v (.int .i64 (x.fh.fk.fx)), .v (.int .i64 (x.fh.fk.f9)), .v (.int .i64 (x.fh.fk.fd1)), .l 3 (List.map Q1 (x.fh.fk.fw)), .v (.bool (x.fh.fk.fg)), .v (.int .i64 (x.fh.f7.fx)), .v (.int .i64 (x.fh.f7.f9)), .v (.int .i64 (x.fh.f7.fc6)), .l 1 (List.map (eL 1 eS) (x.fh.f7.fb2)), .v (.bool (x.fh.f7.fg)), .v (.int .i64 (x.fi.fu.fa4)), .v (.int .i64 (x.fi.fu.fx)), .v (.int .i64 (x.fi.fu.fa6)), .v (.int .u64 (x.fi.fu.fa5)), .v (.int .i64 (x.fi.fa2.f9)), .v (.int .i64 (x.fi.fa2.fb7)), .v (.bool (x.fi.fa2.fg)), .v (.int .i64 (x.fi.fj.fa6)), .v (.int .i64 (x.fi.fj.fx)), .v (.int .u64 (x.fi.fj.fa5)), .l 1 (List.map (eI .i64) (x.fi.fj.fc0)), .v (.bool (x.fi.fj.fg)), .v (.int .i64 (x.fi.fa0.fa7)), .v (.int .u64 (x.fi.fa0.fa5)), .l 1 (List.map (eI .i64) (x.fi.fa0.fa3)), .v (.int .i64 (x.fi.fb5.fx)), .v (.int .i64 (x.fi.fb5.f9)), .l 3 (List.map Q1 (x.fi.fb5.fw)), .v (.bool (x.fi.fb5.fg)), .v (.int .i64 (x.fi.fk.fx)), .v (.int .i64 (x.fi.fk.f9)), .v (.int .i64 (x.fi.fk.fd1)), .l 3 (List.map Q1 (x.fi.fk.fw)), .v (.bool (x.fi.fk.fg)), .v (.int .i64 (x.fi.f7.fx)), .v (.int .i64 (x.fi.f7.f9)), .v (.int .i64 (x.fi.f7.fc6)), .l 1 (List.map (eL 1 eS) (x.fi.f7.fb2)), .v (.bool (x.fi.f7.fg)), .v (.int .i64 (x.fd8)), .v (.int .i64 (x.fg8)), .v (.int .i64 (x.fc8)), .v (.int .i64 (x.ff4)), .v (.int .i64 (x.fAt.fb9)), .v (.int .i64 (x.fAt.fd3)), .l 1 (List.map (eI .u8) (x.fd2)), .v (.bool (x.fd9))]
structure Qa where
 fg3 : Bool
 fOp : QF
 ff : Qe
 fd4 : Int
 fc7 : (List QC)
 ff1 : (List QZ)
def QG (x : Qa) : List PV := [.v (.bool (x.fg3)), .v (.int .i64 (x.fOp.fa4)), .v (.string (x.fOp.ff0)), .v (.string (x.fOp.fi)), .l 1 (List.map eS (x.fOp.fb8)), .v (.int .i64 (x.fOp.fu.fa4)), .v (.int .i64 (x.fOp.fu.fx)), .v (.int .i64 (x.fOp.fu.fa6)), .v (.int .u64 (x.fOp.fu.fa5)), .l 2 (List.map ZC (x.fOp.fb7)), .l 1 (List.map (eI .u8) (x.fOp.fh5)), .v (.int .i64 (x.fOp.fg7)), .v (.int .i64 (x.fOp.fh3)), .v (.int .i64 (x.fOp.fc8)), .v (.int .i64 (x.fOp.fh7)), .v (.int .i64 (x.fOp.ff4)), .v (.int .i64 (x.fOp.fc9)), .v (.int .i64 (x.fOp.ff3.fa4)), .v (.string (x.fOp.ff3.fd5)), .v (.int .i64 (x.fOp.ff3.fc9)), .v (.int .i64 (x.fOp.ff3.fi4)), .v (.int .i64 (x.fOp.ff3.fi3)), .l 1 (List.map (eI .u8) (x.fOp.fd2)), .v (.int .i64 (x.ff.fd0)), .v (.int .i64 (x.ff.fg4)), .v (.bool (x.ff.fg1)), .l 1 (List.map (eI .i64) (x.ff.fc1)), .v (.int .i64 (x.ff.fb9)), .v (.int .i64 (x.ff.fh.fu.fa4)), .v (.int .i64 (x.ff.fh.fu.fx)), .v (.int .i64 (x.ff.fh.fu.fa6)), .v (.int .u64 (x.ff.fh.fu.fa5)), .v (.int .i64 (x.ff.fh.fa2.f9)), .v (.int .i64 (x.ff.fh.fa2.fb7)), .v (.bool (x.ff.fh.fa2.fg)), .v (.int .i64 (x.ff.fh.fj.fa6)), .v (.int .i64 (x.ff.fh.fj.fx)), .v (.int .u64 (x.ff.fh.fj.fa5)), .l 1 (List.map (eI .i64) (x.ff.fh.fj.fc0)), .v (.bool (x.ff.fh.fj.fg)), .v (.int .i64 (x.ff.fh.fa0.fa7)), .v (.int .u64 (x.ff.fh.fa0.fa5)), .l 1 (List.map (eI .i64) (x.ff.fh.fa0.fa3)), .v (.int .i64 (x.ff.fh.fb5.fx)), .v (.int .i64 (x.ff.fh.fb5.f9)), .l 3 (List.map Q1 (x.ff.fh.fb5.fw)), .v (.bool (x.ff.fh.fb5.fg)), .v (.int .i64 (x.ff.fh.fk.fx)), .v (.int .i64 (x.ff.fh.fk.f9)), .v (.int .i64 (x.ff.fh.fk.fd1)), .l 3 (List.map Q1 (x.ff.fh.fk.fw)), .v (.bool (x.ff.fh.fk.fg)), .v (.int .i64 (x.ff.fh.f7.fx)), .v (.int .i64 (x.ff.fh.f7.f9)), .v (.int .i64 (x.ff.fh.f7.fc6)), .l 1 (List.map (eL 1 eS) (x.ff.fh.f7.fb2)), .v (.bool (x.ff.fh.f7.fg)), .v (.int .i64 (x.ff.fi.fu.fa4)), .v (.int .i64 (x.ff.fi.fu.fx)), .v (.int .i64 (x.ff.fi.fu.fa6)), .v (.int .u64 (x.ff.fi.fu.fa5)), .v (.int .i64 (x.ff.fi.fa2.f9)), .v (.int .i64 (x.ff.fi.fa2.fb7)), .v (.bool (x.ff.fi.fa2.fg)), .v (.int .i64 (x.ff.fi.fj.fa6)), .v (.int .i64 (x.ff.fi.fj.fx)), .v (.int .u64 (x.ff.fi.fj.fa5)), .l 1 (List.map (eI .i64) (x.ff.fi.fj.fc0)), .v (.bool (x.ff.fi.fj.fg)), .v (.int .i64 (x.ff.fi.fa0.fa7)), .v (.int .u64 (x.ff.fi.fa0.fa5)), .l 1 (List.map (eI .i64) (x.ff.fi.fa0.fa3)), .v (.int .i64 (x.ff.fi.fb5.fx)), .v (.int .i64 (x.ff.fi.fb5.f9)), .l 3 (List.map Q1 (x.ff.fi.fb5.fw)), .v (.bool (x.ff.fi.fb5.fg)), .v (.int .i64 (x.ff.fi.fk.fx)), .v (.int .i64 (x.ff.fi.fk.f9)), .v (.int .i64 (x.ff.fi.fk.fd1)), .l 3 (List.map Q1 (x.ff.fi.fk.fw)), .v (.bool (x.ff.fi.fk.fg)), .v (.int .i64 (x.ff.fi.f7.fx)), .v (.int .i64 (x.ff.fi.f7.f9)), .v (.int .i64 (x.ff.fi.f7.fc6)), .l 1 (List.map (eL 1 eS) (x.ff.fi.f7.fb2)), .v (.bool (x.ff.fi.f7.fg)), .v (.int .i64 (x.ff.fd8)), .v (.int .i64 (x.ff.fg8)), .v (.int .i64 (x.ff.fc8)), .v (.int .i64 (x.ff.ff4)), .v (.int .i64 (x.ff.fAt.fb9)), .v (.int .i64 (x.ff.fAt.fd3)), .l 1 (List.map (eI .u8) (x.ff.fd2)), .v (.bool (x.ff.fd9)), .v (.int .i64 (x.fd4)), .l 3 (List.map KN (x.fc7)), .l 4 (List.map Xo (x.ff1))]
structure Qk where
 fg5 : Int
 ff2 : Int
 fd5 : ByteArray
 ff7 : (List Int)
 fw : (List Q5)
 fg : Bool
structure Qf where
 fh2 : Int
 fa1 : Int
 fg2 : Int
 fc8 : Int
 fb8 : (List ByteArray)
 fb1 : Qk
 fd2 : (List Int)
def OP (x : Qf) : List PV := [.v (.int .i64 (x.fh2)), .v (.int .i64 (x.fa1)), .v (.int .i64 (x.fg2)), .v (.int .i64 (x.fc8)), .l 1 (List.map eS (x.fb8)), .v (.int .i64 (x.fb1.fg5)), .v (.int .i64 (x.fb1.ff2)), .v (.string (x.fb1.fd5)), .l 1 (List.map (eI .i64) (x.fb1.ff7)), .l 3 (List.map Q1 (x.fb1.fw)), .v (.bool (x.fb1.fg)), .l 1 (List.map (eI .u8) (x.fd2))]
structure Qr where
 ff6 : Int
 fOp : QF
 fh6 : Int
 fd9 : Int
 fh9 : Int
 f0 : Qf
def Zv (x : Qr) : List PV := [.v (.int .i64 (x.ff6)), .v (.int .i64 (x.fOp.fa4)), .v (.string (x.fOp.ff0)), .v (.string (x.fOp.fi)), .l 1 (List.map eS (x.fOp.fb8)), .v (.int .i64 (x.fOp.fu.fa4)), .v (.int .i64 (x.fOp.fu.fx)), .v (.int .i64 (x.fOp.fu.fa6)), .v (.int .u64 (x.fOp.fu.fa5)), .l 2 (List.map ZC (x.fOp.fb7)), .l 1 (List.map (eI .u8) (x.fOp.fh5)), .v (.int .i64 (x.fOp.fg7)), .v (.int .i64 (x.fOp.fh3)), .v (.int .i64 (x.fOp.fc8)), .v (.int .i64 (x.fOp.fh7)), .v (.int .i64 (x.fOp.ff4)), .v (.int .i64 (x.fOp.fc9)), .v (.int .i64 (x.fOp.ff3.fa4)), .v (.string (x.fOp.ff3.fd5)), .v (.int .i64 (x.fOp.ff3.fc9)), .v (.int .i64 (x.fOp.ff3.fi4)), .v (.int .i64 (x.fOp.ff3.fi3)), .l 1 (List.map (eI .u8) (x.fOp.fd2)), .v (.int .i64 (x.fh6)), .v (.int .i64 (x.fd9)), .v (.int .i64 (x.fh9)), .v (.int .i64 (x.f0.fh2)), .v (.int .i64 (x.f0.fa1)), .v (.int .i64 (x.f0.fg2)), .v (.int .i64 (x.f0.fc8)), .l 1 (List.map eS (x.f0.fb8)), .v (.int .i64 (x.f0.fb1.fg5)), .v (.int .i64 (x.f0.fb1.ff2)), .v (.string (x.f0.fb1.fd5)), .l 1 (List.map (eI .i64) (x.f0.fb1.ff7)), .l 3 (List.map Q1 (x.f0.fb1.fw)), .v (.bool (x.f0.fb1.fg)), .l 1 (List.map (eI .u8) (x.f0.fd2))]
structure Qp where
 f8 : Q2
 fa8 : (List Qa)
 ff5 : (List Qr)
 ff9 : Int
def MM (x : Qp) : List PV := [.v (.int .i64 (x.f8.fq.fa8)), .v (.int .i64 (x.f8.fq.fb8)), .v (.int .i64 (x.f8.fq.fb0)), .v (.int .i64 (x.f8.fq.fb3)), .v (.int .i64 (x.f8.fq.fc3)), .v (.int .i64 (x.f8.fq.fc5)), .v (.int .i64 (x.f8.fq.fb4)), .v (.int .i64 (x.f8.fa1)), .v (.int .i64 (x.f8.fd6)), .l 2 (List.map Qi (x.f8.fa9)), .l 4 (List.map Qb (x.f8.fb6)), .l 2 (List.map Ql (x.f8.fc3)), .v (.int .i64 (x.f8.fc2.fc4)), .l 3 (List.map Qn (x.f8.fc2.fb0)), .l 97 (List.map QG (x.fa8)), .l 38 (List.map Zv (x.ff5)), .v (.int .i64 (x.ff9))]
structure Zg where
 fa4 : Int
 ff6 : Int
 fOp : QF
def XA (x : Zg) : List PV := [.v (.int .i64 (x.fa4)), .v (.int .i64 (x.ff6)), .v (.int .i64 (x.fOp.fa4)), .v (.string (x.fOp.ff0)), .v (.string (x.fOp.fi)), .l 1 (List.map eS (x.fOp.fb8)), .v (.int .i64 (x.fOp.fu.fa4)), .v (.int .i64 (x.fOp.fu.fx)), .v (.int .i64 (x.fOp.fu.fa6)), .v (.int .u64 (x.fOp.fu.fa5)), .l 2 (List.map ZC (x.fOp.fb7)), .l 1 (List.map (eI .u8) (x.fOp.fh5)), .v (.int .i64 (x.fOp.fg7)), .v (.int .i64 (x.fOp.fh3)), .v (.int .i64 (x.fOp.fc8)), .v (.int .i64 (x.fOp.fh7)), .v (.int .i64 (x.fOp.ff4)), .v (.int .i64 (x.fOp.fc9)), .v (.int .i64 (x.fOp.ff3.fa4)), .v (.string (x.fOp.ff3.fd5)), .v (.int .i64 (x.fOp.ff3.fc9)), .v (.int .i64 (x.fOp.ff3.fi4)), .v (.int .i64 (x.fOp.ff3.fi3)), .l 1 (List.map (eI .u8) (x.fOp.fd2))]
structure BA where
 fe0 : Bool
 fe1 : Bool
 fe2 : Bool
 fe3 : Bool
 fe4 : Bool
 fe5 : Bool
 fe6 : Bool
 fe7 : Bool
 fe8 : Bool
 fe9 : Bool
 fe10 : Bool
 fe11 : Bool
 fe12 : Bool
def UZ (x : BA) : List PV := [.v (.bool (x.fe0)), .v (.bool (x.fe1)), .v (.bool (x.fe2)), .v (.bool (x.fe3)), .v (.bool (x.fe4)), .v (.bool (x.fe5)), .v (.bool (x.fe6)), .v (.bool (x.fe7)), .v (.bool (x.fe8)), .v (.bool (x.fe9)), .v (.bool (x.fe10)), .v (.bool (x.fe11)), .v (.bool (x.fe12))]
structure Kd where
 fh2 : Int
 ff8 : Bool
 f0 : Qf
structure Qw where
 fb : (List Int)
 fat : Int
 fbad : Bool
structure Qm where
 f8 : Q2
 ff : Qe
 f0 : Qf
 ff8 : Bool
structure Z4 where
 fid : Int
 fv : Qq
def QO (x : Z4) : List PV := [.v (.int .i64 (x.fid)), .v (.int .i64 (x.fv.fd3)), .v (.int .i64 (x.fv.fTo)), .v (.int .i64 (x.fv.fx)), .l 1 (List.map (eI .i64) (x.fv.fb0))]
structure WT where
 fa1 : Int
 fa9 : (List Qu)
 fb6 : (List Qg)
 fc3 : (List QD)
 fb0 : (List Qx)
def IM (x : WT) : List PV := [.v (.int .i64 (x.fa1)), .l 2 (List.map Qi (x.fa9)), .l 4 (List.map Qb (x.fb6)), .l 2 (List.map Ql (x.fc3)), .l 3 (List.map Qn (x.fb0))]
structure Va where
 fb9 : Int
 fd3 : Int
def JH (x : Va) : List PV := [.v (.int .i64 (x.fb9)), .v (.int .i64 (x.fd3))]
structure Hc where
 fhigh : Int
 flow : Int
abbrev oB (x : Int) : Prop := 0 ≤ x ∧ x ≤ 255
abbrev bB (l : List Int) : Prop := ∀ x ∈ l, oB x
abbrev zL (l : List Int) : Prop := l.length ≤ 1024 ∧ bB l
abbrev IN (x : Qx) : Prop := x.fd2.length ≤ 1024 ∧ bB x.fd2
abbrev okV (x : Qq) : Prop := x.fb0.length ≤ 65536
abbrev zE (x : Q5) : Prop := x.fd5.size ≤ 2000000
abbrev zI (x : Zc) : Prop := x.fd5.size ≤ 2000000
abbrev zCm (c : Q3) : Prop := c.fc0.length ≤ 2000000
abbrev zLl (c : Q7) : Prop := c.fa3.length ≤ 2000000
abbrev zTp (c : Qd) : Prop := c.fw.length ≤ 2000000 ∧ ∀ x ∈ c.fw, zE x
abbrev zFr (c : Q4) : Prop := c.fw.length ≤ 2000000 ∧ ∀ x ∈ c.fw, zE x
abbrev zKs (l : List ByteArray) : Prop := l.length ≤ 2000000 ∧ ∀ k ∈ l, k.size ≤ 2000000
abbrev zRk (c : Q8) : Prop := c.fb2.length ≤ 2000000 ∧ ∀ l ∈ c.fb2, zKs l
abbrev zS (s : Q6) : Prop := zCm s.fj ∧ zLl s.fa0 ∧ zTp s.fb5 ∧ zFr s.fk ∧ zRk s.f7
abbrev zO (c : Int) (o : Qu) : Prop := (o.fc1.length : Int) ≤ c ∧ ∀ v ∈ o.fc1, okV v
abbrev zB (b : Qg) : Prop := b.ff0.size ≤ 2000000
abbrev zP (p : QD) : Prop := 1 ≤ p.fc9
abbrev TZ (c : Qo) : Prop := (1 ≤ c.fa8 ∧ c.fa8 ≤ 64) ∧ c.fb0 ≤ 16384 ∧ (8 ≤ c.fb3 ∧ c.fb3 ≤ 1024) ∧ c.fc3 ≤ 1024 ∧ (1 ≤ c.fc5 ∧ c.fc5 ≤ 1048576) ∧ 1 ≤ c.fb4 ∧ c.fb4 ≤ 64
abbrev zAr (a : Qy) : Prop := a.fb0.length ≤ 16384 ∧ a.fc4 ≤ 16384 ∧ ∀ p ∈ a.fb0, IN p
abbrev UG (s : Q2) : Prop := TZ s.fq ∧ (0 ≤ s.fa1 ∧ s.fa1 ≤ s.fq.fc5) ∧ (s.fa9.length : Int) ≤ s.fa1 ∧ (∀ o ∈ s.fa9, zO s.fa1 o) ∧ (s.fb6.length : Int) ≤ s.fa1 ∧ (∀ b ∈ s.fb6, zB b) ∧ s.fc3.length ≤ 1024 ∧ (∀ p ∈ s.fc3, zP p) ∧ zAr s.fc2
abbrev OQ (y : QC) : Prop := y.fb8.length ≤ 2000000
abbrev zOp (o : QF) : Prop := o.fb8.length ≤ 2000000 ∧ o.fb7.length ≤ 2000000 ∧ o.fh5.length ≤ 2000000 ∧ o.fd2.length ≤ 2000000 ∧ bB o.fd2 ∧ o.ff0.size ≤ 2000000 ∧ o.fi.size ≤ 2000000 ∧ (∀ x ∈ o.fb7, zI x) ∧ ∀ x ∈ o.fb8, x.size ≤ 2000000
abbrev zMa (m : Qe) : Prop := (0 ≤ m.fc8 ∧ m.fc8 ≤ 3) ∧ zS m.fh ∧ zS m.fi ∧ m.fc1.length ≤ 2000000 ∧ m.fd2.length ≤ 100000000 ∧ bB m.fd2
abbrev zSe (x : Qa) : Prop := x.fc7.length = 4 ∧ x.ff1.length = 4 ∧ (∀ y ∈ x.fc7, OQ y) ∧ zOp x.fOp ∧ zMa x.ff ∧ (x.fOp.fa4 = 6 → x.ff.fd8 ≤ (x.fOp.fb7.length : Int))
abbrev OR (p : Qf) : Prop := p.fh2 ≠ 16
abbrev M1 (t : Qm) : Prop := UG t.f8 ∧ zMa t.ff ∧ OR t.f0
abbrev zRd (r : Qw) : Prop := 0 ≤ r.fat ∧ r.fat ≤ (r.fb.length : Int) ∧ r.fb.length ≤ 100000000 ∧ bB r.fb
instance : Inhabited Qo := ⟨⟨default, default, default, default, default, default, default⟩⟩
instance : Inhabited Qq := ⟨⟨default, default, default, default⟩⟩
instance : Inhabited Qu := ⟨⟨default, default⟩⟩
instance : Inhabited Qg := ⟨⟨default, default, default, default⟩⟩
instance : Inhabited QD := ⟨⟨default, default⟩⟩
instance : Inhabited Qx := ⟨⟨default, default, default⟩⟩
instance : Inhabited Qy := ⟨⟨default, default⟩⟩
instance : Inhabited Q2 := ⟨⟨default, default, default, default, default, default, default⟩⟩
instance : Inhabited QC := ⟨⟨default, default, default⟩⟩
instance : Inhabited QZ := ⟨⟨default, default, default, default⟩⟩
instance : Inhabited Q9 := ⟨⟨default, default, default, default⟩⟩
instance : Inhabited Zc := ⟨⟨default, default⟩⟩
instance : Inhabited QQ := ⟨⟨default, default, default, default, default⟩⟩
instance : Inhabited QF := ⟨⟨default, default, default, default, default, default, default, default, default, default, default, default, default, default, default⟩⟩
instance : Inhabited Qc := ⟨⟨default, default, default⟩⟩
instance : Inhabited Q3 := ⟨⟨default, default, default, default, default⟩⟩
instance : Inhabited Q7 := ⟨⟨default, default, default⟩⟩
instance : Inhabited Q5 := ⟨⟨default, default, default⟩⟩
instance : Inhabited Qd := ⟨⟨default, default, default, default⟩⟩
instance : Inhabited Q4 := ⟨⟨default, default, default, default, default⟩⟩
instance : Inhabited Q8 := ⟨⟨default, default, default, default, default⟩⟩
instance : Inhabited Q6 := ⟨⟨default, default, default, default, default, default, default⟩⟩
instance : Inhabited QK := ⟨⟨default, default⟩⟩
instance : Inhabited Qe := ⟨⟨default, default, default, default, default, default, default, default, default, default, default, default, default, default⟩⟩
instance : Inhabited Qa := ⟨⟨default, default, default, default, default, default⟩⟩
instance : Inhabited Qk := ⟨⟨default, default, default, default, default, default⟩⟩
instance : Inhabited Qf := ⟨⟨default, default, default, default, default, default, default⟩⟩
instance : Inhabited Qr := ⟨⟨default, default, default, default, default, default⟩⟩
instance : Inhabited Qp := ⟨⟨default, default, default, default⟩⟩
instance : Inhabited Zg := ⟨⟨default, default, default⟩⟩
instance : Inhabited BA := ⟨⟨default, default, default, default, default, default, default, default, default, default, default, default, default⟩⟩
instance : Inhabited Kd := ⟨⟨default, default, default⟩⟩
instance : Inhabited Qw := ⟨⟨default, default, default⟩⟩
instance : Inhabited Qm := ⟨⟨default, default, default, default⟩⟩
instance : Inhabited Z4 := ⟨⟨default, default⟩⟩
instance : Inhabited WT := ⟨⟨default, default, default, default, default⟩⟩
instance : Inhabited Va := ⟨⟨default, default⟩⟩
instance : Inhabited Hc := ⟨⟨default, default⟩⟩
abbrev zD (d : WT) : Prop := d.fa9.length ≤ 1048576 ∧ (∀ o ∈ d.fa9, o.fc1.length ≤ 1048576) ∧ d.fc3.length ≤ 1024
abbrev oN (x : Int) : Prop := x ≤ 1099511627776
abbrev oCm (c : Q3) : Prop := (1 ≤ c.fa6 ∧ c.fa6 ≤ 8) ∧ (1 ≤ c.fx ∧ c.fx ≤ 64) ∧ (c.fc0.length : Int) = c.fa6 * c.fx ∧ c.fc0.length ≤ 512 ∧ ∀ x ∈ c.fc0, oN x
abbrev oLl (c : Q7) : Prop := (2 ≤ c.fa7 ∧ c.fa7 ≤ 8) ∧ (c.fa3.length : Int) = Xn .i64 1 (IntKind.u64.wrap c.fa7) ∧ c.fa3.length ≤ 256 ∧ ∀ x ∈ c.fa3, oN x
abbrev oE (x : Q5) : Prop := x.fd5.size ≤ 32 ∧ oN x.fc9 ∧ oN x.ff2
abbrev oTp (c : Qd) : Prop := (1 ≤ c.fx ∧ c.fx ≤ 32) ∧ c.fw.length ≤ 32 ∧ oN c.f9 ∧ ∀ x ∈ c.fw, oE x
abbrev oFr (c : Q4) : Prop := (1 ≤ c.fx ∧ c.fx ≤ 32) ∧ c.fw.length ≤ 32 ∧ oN c.f9 ∧ oN c.fd1 ∧ ∀ x ∈ c.fw, oE x
abbrev oK (k : ByteArray) : Prop := k.size ≤ 32
abbrev oKs (l : List ByteArray) : Prop := l.length ≤ 32 ∧ ∀ k ∈ l, oK k
abbrev oRk (c : Q8) : Prop := (2 ≤ c.fx ∧ c.fx ≤ 32) ∧ c.fb2.length ≤ 41 ∧ oN c.f9 ∧ oN c.fc6 ∧ ∀ l ∈ c.fb2, oKs l
abbrev Qxj (c : Qo) : Prop := (1 ≤ c.fa8 ∧ c.fa8 ≤ 3) ∧ (1 ≤ c.fb8 ∧ c.fb8 ≤ 3) ∧ (1 ≤ c.fb0 ∧ c.fb0 ≤ 60) ∧ (8 ≤ c.fb3 ∧ c.fb3 ≤ 200) ∧ (1 ≤ c.fc3 ∧ c.fc3 ≤ 8) ∧ (1 ≤ c.fc5 ∧ c.fc5 ≤ 100) ∧ 1 ≤ c.fb4 ∧ c.fb4 ≤ 4
abbrev zEv (e : Zg) : Prop := zOp e.fOp
end Go.Proofs.YtimfmcpbkdpmoaaGreat
namespace Go.Proofs.YtimfmcpbkdpmoaaGreat
open Go.RowKit Go.ChangeShapes Go.WideShapes
end Go.Proofs.YtimfmcpbkdpmoaaGreat
namespace Go.Proofs.YtimfmcpbkdpmoaaGreat
open Go.RowKit Go.ChangeShapes Go.WideShapes
theorem XM {σ : Type} {step : (σ → Prop) → σ → Prop} (I : Nat → σ → Prop) (h : ∀ k s, I k s → ∀ X : σ → Prop, (∀ k' s', k' < k → I k' s' → X s') → step X s) {k : Nat} {s : σ} (h0 : I k s) : lp step s := by
 intro X hX
 have key : ∀ k s, I k s → X s := by
  intro k
  induction k using Nat.strongRecOn with
  | _ k ih => exact fun s hs => hX s (h k s hs X fun k' s' hk hs' => ih k' hk s' hs')
 exact key k s h0
theorem Zp {n : Int} (h : -9223372036854775808 ≤ n ∧ n ≤ 9223372036854775807) : IntKind.i64.wrap n = n := by rw [IntKind.wrap_i64]; omega
theorem Q00 (n : Nat) : Int.toNat (n : Int) = n := by simp
end Go.Proofs.YtimfmcpbkdpmoaaGreat
namespace Go.Proofs.YtimfmcpbkdpmoaaGreat
open Go.RowKit Go.ChangeShapes Go.WideShapes
theorem Qhr (x : Int) (j : Nat) (hj : j ≤ 62) (m : Int) (hm : m = 2 ^ j - 1) : bits BinOp.and IntKind.i64 x m = x % 2 ^ j := by
 have hp : (2 : Nat) ^ j ≤ 2 ^ 62 := Nat.pow_le_pow_right (by omega) hj
 have hp1 : 1 ≤ (2 : Nat) ^ j := Nat.one_le_two_pow
 have e0 : (2 : Int) ^ j = ((2 ^ j : Nat) : Int) := by simp
 have e1 : m = ((2 ^ j - 1 : Nat) : Int) := by rw [hm, e0]; omega
 show IntKind.i64.wrap ((BitVec.ofInt 64 x &&& BitVec.ofInt 64 m).toNat : Int) = _
 rw [BitVec.toNat_and, e1, BitVec.ofInt_natCast, BitVec.toNat_ofNat, Nat.mod_eq_of_lt (a := 2 ^ j - 1) (by omega), Nat.and_two_pow_sub_one_eq_mod, BitVec.toNat_ofInt]
 have hd : ((2 ^ j : Nat) : Int) ∣ (2 ^ 64 : Nat) := by
  refine ⟨((2 ^ (64 - j) : Nat) : Int), ?_⟩
  rw [← Int.natCast_mul, ← Nat.pow_add, show j + (64 - j) = 64 from by omega]
 have h2 : ((x % ((2 ^ 64 : Nat) : Int)).toNat % 2 ^ j : Nat) = (x % (2 ^ j : Nat)).toNat := by
  have hx0 : 0 ≤ x % ((2 ^ 64 : Nat) : Int) := Int.emod_nonneg _ (by decide)
  have hx1 : 0 ≤ x % ((2 ^ j : Nat) : Int) := Int.emod_nonneg _ (by omega)
  apply Int.ofNat.inj
  show (((x % ((2 ^ 64 : Nat) : Int)).toNat % 2 ^ j : Nat) : Int) = (((x % (2 ^ j : Nat)).toNat : Nat) : Int)
  rw [Int.natCast_emod, Int.toNat_of_nonneg hx0, Int.toNat_of_nonneg hx1, Int.emod_emod_of_dvd _ hd]
 rw [h2, Int.toNat_of_nonneg (Int.emod_nonneg _ (by omega)), e0, IntKind.wrap_i64]
 have hb0 : 0 ≤ x % ((2 ^ j : Nat) : Int) := Int.emod_nonneg _ (by omega)
 have hb1 : x % ((2 ^ j : Nat) : Int) < ((2 ^ j : Nat) : Int) := Int.emod_lt_of_pos _ (by omega)
 omega
theorem bA (x : Int) (j : Nat) (hj : j ≤ 62) (m : Int) (hm : m = 2 ^ j - 1) : Jo .i64 x m = x % 2 ^ j := Qhr x j hj m hm
theorem bA1 (x : Int) : Jo .i64 x 1 = x % 2 := bA x 1 (by decide) 1 (by decide)
theorem bA3 (x : Int) : Jo .i64 x 3 = x % 4 := bA x 2 (by decide) 3 (by decide)
theorem bA7 (x : Int) : Jo .i64 x 7 = x % 8 := bA x 3 (by decide) 7 (by decide)
theorem Qhs (x : Int) : Jo .i64 x 15 = x % 16 := bA x 4 (by decide) 15 (by decide)
theorem bA31 (x : Int) : Jo .i64 x 31 = x % 32 := bA x 5 (by decide) 31 (by decide)
theorem bA63 (x : Int) : Jo .i64 x 63 = x % 64 := bA x 6 (by decide) 63 (by decide)
theorem Qht (x : Int) : Jo .i64 x 255 = x % 256 := bA x 8 (by decide) 255 (by decide)
theorem Qba (x : Int) : Jo .i64 x 65535 = x % 65536 := bA x 16 (by decide) 65535 (by decide)
theorem OS (x : Int) : Jo .i64 x 16777215 = x % 16777216 := bA x 24 (by decide) 16777215 (by decide)
theorem OT {a b : Int} (ha : 0 ≤ a) : a.tmod b = a % b := Int.tmod_eq_emod_of_nonneg ha
theorem YV {α : Type} {l : List α} {n : Int} (h0 : 0 ≤ n) (h1 : n < l.length) : ∃ x, ix l n x ∧ l[n.toNat]? = some x := by
 have : n.toNat < l.length := by omega
 exact ⟨l[n.toNat], ⟨h0, by simp [this]⟩, by simp [this]⟩
theorem Qhu {n : Int} (h : 0 ≤ n ∧ n ≤ 18446744073709551615) : IntKind.u64.wrap n = n := by rw [IntKind.wrap_u64]; omega
theorem OU (l : List Int) : (strOfNums l).size = l.length := by simp [strOfNums, ByteArray.size]
theorem shr8 (x : Int) : ZQ .i64 x 8 = x / 256 := by
 show x.fdiv (2 ^ 8) = x / 256
 rw [Int.fdiv_eq_ediv_of_nonneg x (by decide)]; rfl
theorem BB (x : Int) : 0 ≤ IntKind.u64.wrap x ∧ IntKind.u64.wrap x ≤ 18446744073709551615 := by rw [IntKind.wrap_u64]; omega
theorem MN {d s : Int} (h1 : 1 ≤ d ∧ d ≤ 8) (h2 : 1 ≤ s ∧ s ≤ 64) : 1 ≤ d * s ∧ d * s ≤ 512 := by
 have h : d = 1 ∨ d = 2 ∨ d = 3 ∨ d = 4 ∨ d = 5 ∨ d = 6 ∨ d = 7 ∨ d = 8 := by omega
 rcases h with rfl | rfl | rfl | rfl | rfl | rfl | rfl | rfl <;> omega
theorem OV {p : Int} (h : 2 ≤ p ∧ p ≤ 8) : 4 ≤ Xn .i64 1 (IntKind.u64.wrap p) ∧ Xn .i64 1 (IntKind.u64.wrap p) ≤ 256 := by
 have h : p = 2 ∨ p = 3 ∨ p = 4 ∨ p = 5 ∨ p = 6 ∨ p = 7 ∨ p = 8 := by omega
 rcases h with rfl | rfl | rfl | rfl | rfl | rfl | rfl <;> decide
theorem Qu8 {p v : Int} (hp : 2 ≤ p ∧ p ≤ 8) (h0 : 0 ≤ v) (h1 : v ≤ 18446744073709551615) : 0 ≤ ZQ .u64 v (IntKind.u64.wrap (IntKind.i64.wrap (64 - p))) ∧ ZQ .u64 v (IntKind.u64.wrap (IntKind.i64.wrap (64 - p))) < Xn .i64 1 (IntKind.u64.wrap p) := by
 have h : p = 2 ∨ p = 3 ∨ p = 4 ∨ p = 5 ∨ p = 6 ∨ p = 7 ∨ p = 8 := by omega
 have hd : ∀ m : Int, 0 < m → v.fdiv m = v / m := fun m hm => Int.fdiv_eq_ediv_of_nonneg v (by omega)
 rcases h with rfl | rfl | rfl | rfl | rfl | rfl | rfl
 ·have e1 : IntKind.u64.wrap (IntKind.i64.wrap (64 - 2)) = 62 := by decide
  have e2 : Xn .i64 1 (IntKind.u64.wrap 2) = 4 := by decide
  rw [e1, e2]; show 0 ≤ v.fdiv 4611686018427387904 ∧ v.fdiv 4611686018427387904 < 4; rw [hd _ (by decide)]; omega
 ·have e1 : IntKind.u64.wrap (IntKind.i64.wrap (64 - 3)) = 61 := by decide
  have e2 : Xn .i64 1 (IntKind.u64.wrap 3) = 8 := by decide
  rw [e1, e2]; show 0 ≤ v.fdiv 2305843009213693952 ∧ v.fdiv 2305843009213693952 < 8; rw [hd _ (by decide)]; omega
 ·have e1 : IntKind.u64.wrap (IntKind.i64.wrap (64 - 4)) = 60 := by decide
  have e2 : Xn .i64 1 (IntKind.u64.wrap 4) = 16 := by decide
  rw [e1, e2]; show 0 ≤ v.fdiv 1152921504606846976 ∧ v.fdiv 1152921504606846976 < 16; rw [hd _ (by decide)]; omega
 ·have e1 : IntKind.u64.wrap (IntKind.i64.wrap (64 - 5)) = 59 := by decide
  have e2 : Xn .i64 1 (IntKind.u64.wrap 5) = 32 := by decide
  rw [e1, e2]; show 0 ≤ v.fdiv 576460752303423488 ∧ v.fdiv 576460752303423488 < 32; rw [hd _ (by decide)]; omega
 ·have e1 : IntKind.u64.wrap (IntKind.i64.wrap (64 - 6)) = 58 := by decide
  have e2 : Xn .i64 1 (IntKind.u64.wrap 6) = 64 := by decide
  rw [e1, e2]; show 0 ≤ v.fdiv 288230376151711744 ∧ v.fdiv 288230376151711744 < 64; rw [hd _ (by decide)]; omega
 ·have e1 : IntKind.u64.wrap (IntKind.i64.wrap (64 - 7)) = 57 := by decide
  have e2 : Xn .i64 1 (IntKind.u64.wrap 7) = 128 := by decide
  rw [e1, e2]; show 0 ≤ v.fdiv 144115188075855872 ∧ v.fdiv 144115188075855872 < 128; rw [hd _ (by decide)]; omega
 ·have e1 : IntKind.u64.wrap (IntKind.i64.wrap (64 - 8)) = 56 := by decide
  have e2 : Xn .i64 1 (IntKind.u64.wrap 8) = 256 := by decide
  rw [e1, e2]; show 0 ≤ v.fdiv 72057594037927936 ∧ v.fdiv 72057594037927936 < 256; rw [hd _ (by decide)]; omega
theorem sh0 {p : Int} (h : 2 ≤ p ∧ p ≤ 8) : 0 ≤ Xn .i64 1 (IntKind.u64.wrap p) := by have := OV h; omega
theorem sh1 {p : Int} (h : 2 ≤ p ∧ p ≤ 8) : 0 < Xn .i64 1 (IntKind.u64.wrap p) := by have := OV h; omega
theorem sh2 {p : Int} (h : 2 ≤ p ∧ p ≤ 8) : Xn .i64 1 (IntKind.u64.wrap p) * ((8 : Nat) : Int) ≤ 140737488355328 := by have := OV h; omega
theorem sh3 {p : Int} {α : Type} {x : α} (h : 2 ≤ p ∧ p ≤ 8) : (List.replicate (Xn .i64 1 (IntKind.u64.wrap p)).toNat x).length ≤ 2000000 := by have := OV h; rw [List.length_replicate]; omega
theorem sh4 {p : Int} {n : Nat} (e : (n : Int) = Xn .i64 1 (IntKind.u64.wrap p)) (h : 2 ≤ p ∧ p ≤ 8) : n ≤ 256 := by have := OV h; omega
theorem sr0 {p v : Int} (hp : 2 ≤ p ∧ p ≤ 8) (h : 0 ≤ v ∧ v ≤ 18446744073709551615) : 0 ≤ IntKind.i64.wrap (ZQ .u64 v (IntKind.u64.wrap (IntKind.i64.wrap (64 - p)))) := by
 have := OV hp; have := Qu8 hp h.1 h.2; rw [Zp (by omega)]; omega
theorem sr1 {p v : Int} (hp : 2 ≤ p ∧ p ≤ 8) (h : 0 ≤ v ∧ v ≤ 18446744073709551615) : IntKind.i64.wrap (ZQ .u64 v (IntKind.u64.wrap (IntKind.i64.wrap (64 - p)))) < Xn .i64 1 (IntKind.u64.wrap p) := by
 have := OV hp; have := Qu8 hp h.1 h.2; rw [Zp (by omega)]; omega
theorem mu0 {a b : Int} (h1 : 1 ≤ a ∧ a ≤ 8) (h2 : 1 ≤ b ∧ b ≤ 64) : 0 ≤ IntKind.i64.wrap (a * b) := by have := MN h1 h2; rw [Zp (by omega)]; omega
theorem mu2 {a b : Int} (h1 : 1 ≤ a ∧ a ≤ 8) (h2 : 1 ≤ b ∧ b ≤ 64) : IntKind.i64.wrap (a * b) * ((8 : Nat) : Int) ≤ 140737488355328 := by have := MN h1 h2; rw [Zp (by omega)]; omega
theorem mu3 {a b : Int} {α : Type} {x : α} (h1 : 1 ≤ a ∧ a ≤ 8) (h2 : 1 ≤ b ∧ b ≤ 64) : (List.replicate (IntKind.i64.wrap (a * b)).toNat x).length ≤ 2000000 := by have := MN h1 h2; rw [Zp (by omega), List.length_replicate]; omega
theorem mu4 {a b l : Int} (e : l = IntKind.i64.wrap (a * b)) (h1 : 1 ≤ a ∧ a ≤ 8) (h2 : 1 ≤ b ∧ b ≤ 64) : l = a * b := by have := MN h1 h2; rw [Zp (by omega)] at e; exact e
theorem mu5 {a b : Int} {l : Nat} (e : (l : Int) = IntKind.i64.wrap (a * b)) (h1 : 1 ≤ a ∧ a ≤ 8) (h2 : 1 ≤ b ∧ b ≤ 64) : l ≤ 512 := by have := MN h1 h2; rw [Zp (by omega)] at e; omega
theorem ce_ {d s i v l : Int} (e : l = d * s) (h1 : 1 ≤ d ∧ d ≤ 8) (h2 : 1 ≤ s ∧ s ≤ 64) (hi : 0 ≤ i ∧ i < d) (hv : 0 ≤ v ∧ v < s) : 0 ≤ IntKind.i64.wrap (IntKind.i64.wrap (i * s) + v) ∧ IntKind.i64.wrap (IntKind.i64.wrap (i * s) + v) < l := by
 have hm := MN h1 h2
 have p1 : 0 ≤ i * s := Int.mul_nonneg hi.1 (by omega)
 have p2 : (i + 1) * s ≤ d * s := Int.mul_le_mul_of_nonneg_right (by omega) (by omega)
 rw [Int.add_mul, Int.one_mul] at p2
 rw [Zp (n := i * s) (by omega), Zp (by omega)]
 omega
theorem ce0 {d s i v l : Int} (e : l = d * s) (h1 : 1 ≤ d ∧ d ≤ 8) (h2 : 1 ≤ s ∧ s ≤ 64) (hi : 0 ≤ i ∧ i < d) (hv : 0 ≤ v ∧ v < s) : 0 ≤ IntKind.i64.wrap (IntKind.i64.wrap (i * s) + v) := (ce_ e h1 h2 hi hv).1
theorem ce1 {d s i v l : Int} (e : l = d * s) (h1 : 1 ≤ d ∧ d ≤ 8) (h2 : 1 ≤ s ∧ s ≤ 64) (hi : 0 ≤ i ∧ i < d) (hv : 0 ≤ v ∧ v < s) : IntKind.i64.wrap (IntKind.i64.wrap (i * s) + v) < l := (ce_ e h1 h2 hi hv).2
theorem co_ {v c : Int} (h : 0 ≤ v) (hc : 1 ≤ c ∧ c ≤ 64) : 0 ≤ IntKind.i64.wrap (v.tmod (IntKind.u64.wrap c)) ∧ IntKind.i64.wrap (v.tmod (IntKind.u64.wrap c)) < c := by
 rw [Qhu (n := c) (by omega), OT h]
 have m0 := Int.emod_nonneg v (b := c) (by omega)
 have m1 := Int.emod_lt_of_pos v (b := c) (by omega)
 rw [Zp (by omega)]
 exact ⟨m0, m1⟩
theorem co0 {v c : Int} (h : 0 ≤ v) (hc : 1 ≤ c ∧ c ≤ 64) : 0 ≤ IntKind.i64.wrap (v.tmod (IntKind.u64.wrap c)) := (co_ h hc).1
theorem co1 {v c : Int} (h : 0 ≤ v) (hc : 1 ≤ c ∧ c ≤ 64) : IntKind.i64.wrap (v.tmod (IntKind.u64.wrap c)) < c := (co_ h hc).2
theorem w8b {x : Int} : IntKind.u8.wrap x ≤ 255 := by simp [IntKind.wrap, IntKind.bits, IntKind.signed]; omega
theorem w8a {x : Int} : 0 ≤ IntKind.u8.wrap x := by simp [IntKind.wrap, IntKind.bits, IntKind.signed]; omega
theorem w8c {x : Int} : 0 ≤ IntKind.u8.wrap x ∧ IntKind.u8.wrap x ≤ 255 := ⟨w8a, w8b⟩
theorem sI_b {s : ByteArray} : ∀ x ∈ sI s, 0 ≤ x ∧ x ≤ 255 := by
 intro x hx
 simp only [sI, List.mem_map] at hx
 obtain ⟨y, _, rfl⟩ := hx
 have := y.toNat_lt; omega
theorem mu6 {a b : Int} (h1 : 0 ≤ a ∧ a ≤ 8) (h2 : 0 ≤ b ∧ b ≤ 64) : IntKind.i64.wrap (a * b) ≤ 512 := by
 have h : a = 0 ∨ a = 1 ∨ a = 2 ∨ a = 3 ∨ a = 4 ∨ a = 5 ∨ a = 6 ∨ a = 7 ∨ a = 8 := by omega
 rcases h with rfl | rfl | rfl | rfl | rfl | rfl | rfl | rfl | rfl <;> rw [Zp (by omega)] <;> omega
theorem bo0 {a b : Int} : 0 ≤ bOr .u64 a b := (BB _).1
theorem sz1 {l : List Int} {n : Nat} (h : l.length ≤ n) : (strOfNums l).size ≤ n := by simpa [strOfNums, ByteArray.size] using h
theorem sz0 : (⟨#[]⟩ : ByteArray).size ≤ 2000000 := by decide
theorem sh6 {p : Int} (h : 0 ≤ p ∧ p ≤ 8) : Xn .i64 1 (IntKind.u64.wrap p) ≤ 512 := by
 have h : p = 0 ∨ p = 1 ∨ p = 2 ∨ p = 3 ∨ p = 4 ∨ p = 5 ∨ p = 6 ∨ p = 7 ∨ p = 8 := by omega
 rcases h with rfl | rfl | rfl | rfl | rfl | rfl | rfl | rfl | rfl <;> decide
theorem xr0 {a b : Int} : 0 ≤ NA .u64 a b := (BB _).1
theorem xr1 {a b : Int} : NA .u64 a b ≤ 18446744073709551615 := (BB _).2
theorem tm0 {a n : Int} (h : 0 ≤ a) : 0 ≤ a.tmod n := by rw [OT h]; by_cases hn : n = 0; simp [hn, h]; exact Int.emod_nonneg _ hn
theorem tm1 {a n : Int} (h : 0 ≤ a) (hn : 0 < n) : a.tmod n < n := by rw [OT h]; exact Int.emod_lt_of_pos _ hn
theorem tm2 {a n : Int} (h : 0 ≤ a) (hn : 0 < n) : a.tmod n ≤ n := Int.le_of_lt (tm1 h hn)
theorem CM {α : Type} {l : List α} {j : Nat} (h : j < l.length) : ix l (j : Int) l[j] := ⟨by omega, by simp [h]⟩
theorem pig (l : List Int) (m : Nat) (h : ∀ k : Nat, k < m → ((k : Int) + 1) ∈ l) : m ≤ l.length := by
 induction m generalizing l with
 | zero => omega
 | succ m ih =>
  have hm := h m (by omega)
  have e := List.length_erase_of_mem hm
  have p := List.length_pos_of_mem hm
  have := ih (l.erase ((m : Int) + 1)) fun k hk => (List.mem_erase_of_ne (by omega)).2 (h k (by omega))
  omega
theorem Qxl {X c : Int} (h0 : 0 ≤ X) (h1 : X < 72057594037927936) (c0 : 0 ≤ c) (c1 : c ≤ 255) : bOr .u64 (Xn .u64 X 8) (IntKind.u64.wrap c) = X * 256 + c := by
 rw [show Xn .u64 X 8 = IntKind.u64.wrap (X * 256) from rfl, Qhu (by omega), Qhu (by omega)]
 exact bits_join .u64 64 (by decide) (fun n a b => by rw [IntKind.wrap_u64]; omega) 8 (X * 256) c (by omega) (by omega) (by omega) c0 (by omega) (by omega)
theorem p256 {k : Nat} (h : k ≤ 7) : (256 : Int) ^ k ≤ 72057594037927936 := by
 match k, h with
 | 0, _ => decide
 | 1, _ => decide
 | 2, _ => decide
 | 3, _ => decide
 | 4, _ => decide
 | 5, _ => decide
 | 6, _ => decide
 | 7, _ => decide
class Nx {R : Type} (W : (R → Prop) → Prop) (Pre : outParam Prop) (Post : outParam (R → Prop)) : Prop where
 go : Pre → ∃ r, Rr W r ∧ Post r
theorem Un {R : Type} {W : (R → Prop) → Prop} {Pre : Prop} {Post : R → Prop} [g : Nx W Pre Post] {K : R → Prop} (h : Pre) (k : ∀ v, Rr W v → Post v → K v) : ∃ v, Rr W v ∧ K v := let ⟨v, h1, h2⟩ := g.go h; ⟨v, h1, k v h1 h2⟩
theorem nxg {R : Type} [Inhabited R] {W : (R → Prop) → Prop} {Pre : Prop} {Post : R → Prop} [g : Nx W Pre Post] {c : Prop} {K : R → Prop} (h : c → Pre) (k : ∀ v, (c → Rr W v) → (c → Post v) → K v) : ∃ v, (c → Rr W v) ∧ K v := by
 by_cases hc : c
 ·obtain ⟨v, h1, h2⟩ := g.go (h hc); exact ⟨v, fun _ => h1, k v (fun _ => h1) fun _ => h2⟩
 ·exact ⟨default, fun h => absurd h hc, k _ (fun h => absurd h hc) fun h => absurd h hc⟩
theorem Fl {a b : Bool} : (bif a then b else false) = (a && b) := by cases a <;> rfl
theorem Co {a b : Bool} : (bif a then true else b) = (a || b) := by cases a <;> rfl
theorem KL {c : Bool} {A B : Prop} (h1 : c = true → A) (h2 : c = false → B) : ct c A B := ⟨h1, h2⟩
theorem Fo {α : Type} {S : α → St → Option St} {k : α → Prop} {m : (α → Prop) → Prop} (h : m k) : jo S k m := h
theorem HV {α : Type} {S : α → St → Option St} {k : α → Prop} {m : (α → Prop) → Prop} (P : α → Prop) (h1 : ∀ p, P p → k p) (h2 : ∀ J : α → Prop, (∀ p, P p → J p) → m J) : jo S k m := h2 k h1
theorem XH {α : Sort _} {x : α} {K : Prop} (h : K) : Qh x K := h
theorem Np {A B K : Prop} (h : A → B → K) : A ∧ B → K := fun x => h x.1 x.2
def Jp {σ : Type} (X : σ → Prop) : σ → Prop := X
theorem idJ {σ : Type} {X : σ → Prop} {s : σ} (h : Jp X s) : Jp X s := h
theorem lvi {σ : Type} {I : σ → Prop} {m : σ → Nat} {S : σ → St → Option St} {step : (σ → Prop) → σ → Prop} {s : σ} (h0 : I s) (h : ∀ s, I s → ∀ X : σ → Prop, (∀ s', I s' → m s' < m s → Jp X s') → step (Jp X) s) : lv I m S step s :=
 XM (I := fun k s => I s ∧ k = m s) (fun k s ⟨hi, hk⟩ X hX => h s hi X fun s' hi' hm => hX (m s') s' (by rw [hk]; exact hm) ⟨hi', rfl⟩) ⟨h0, rfl⟩
theorem ixi {α : Type} {L : List α} {n : Int} {K : α → Prop} (h : 0 ≤ n ∧ n < (L.length : Int)) (k : ∀ v, 0 ≤ n → L[n.toNat]? = some v → v ∈ L → K v) : ∃ v, ix L n v ∧ K v := by
 have h2 : n.toNat < L.length := by omega
 exact ⟨L[n.toNat], ⟨h.1, by simp [h2]⟩, k _ h.1 (by simp [h2]) (List.getElem_mem h2)⟩
theorem ixq {α : Type} {P : α → Prop} {L : List α} {n : Int} {K : α → Prop} (hP : ∀ x ∈ L, P x) (h : 0 ≤ n ∧ n < (L.length : Int)) (k : ∀ v, 0 ≤ n → L[n.toNat]? = some v → v ∈ L → P v → K v) : ∃ v, ix L n v ∧ K v := ixi h fun v h0 h1 h2 => k v h0 h1 h2 (hP v h2)
theorem ixg {α : Type} [Inhabited α] {L : List α} {n : Int} {c : Prop} {K : α → Prop} (h : c → 0 ≤ n ∧ n < (L.length : Int)) (k : ∀ v, (c → ix L n v) → (c → v ∈ L) → K v) : ∃ v, (c → ix L n v) ∧ K v := by
 by_cases hc : c
 ·obtain ⟨v, h1, h2⟩ := ixi (K := fun v => v ∈ L) (h hc) fun v _ _ h => h
  exact ⟨v, fun _ => h1, k v (fun _ => h1) fun _ => h2⟩
 ·exact ⟨default, fun h => absurd h hc, k _ (fun h => absurd h hc) fun h => absurd h hc⟩
theorem bxi {s : ByteArray} {n : Int} {K : Int → Prop} (h : 0 ≤ n ∧ n < (s.size : Int)) (k : ∀ v, bx s n v → 0 ≤ v → v ≤ 255 → K v) : ∃ v, bx s n v ∧ K v := by
 have h2 : n.toNat < s.size := by omega
 have h3 : (s[n.toNat].toNat : Int) ≤ 255 := by have := s[n.toNat].toNat_lt; omega
 exact ⟨s[n.toNat].toNat, ⟨h.1, s[n.toNat], by simp [h2], rfl⟩, k _ ⟨h.1, s[n.toNat], by simp [h2], rfl⟩ (by omega) h3⟩
theorem bxg {s : ByteArray} {n : Int} {c : Prop} {K : Int → Prop} (h : c → 0 ≤ n ∧ n < (s.size : Int)) (k : ∀ v, (c → bx s n v) → (c → 0 ≤ v ∧ v ≤ 255) → K v) : ∃ v, (c → bx s n v) ∧ K v := by
 by_cases hc : c
 ·obtain ⟨v, h1, h2⟩ := bxi (K := fun v => 0 ≤ v ∧ v ≤ 255) (h hc) fun v _ h1 h2 => ⟨h1, h2⟩
  exact ⟨v, fun _ => h1, k v (fun _ => h1) fun _ => h2⟩
 ·exact ⟨0, fun h => absurd h hc, k _ (fun h => absurd h hc) fun h => absurd h hc⟩
theorem Qhv {α : Type} {x : α} {n : Nat} {l : List α} (h : x ∈ List.take n l) : x ∈ l := List.mem_of_mem_take h
theorem Qhw {α : Type} {x : α} {n : Nat} {l : List α} (h : x ∈ List.drop n l) : x ∈ l := List.mem_of_mem_drop h
theorem ZP {α : Type} {P : α → Prop} {a b : List α} (h1 : ∀ x ∈ a, P x) (h2 : ∀ x ∈ b, P x) : ∀ x ∈ a ++ b, P x := fun x h => (List.mem_append.1 h).elim (h1 x) (h2 x)
theorem KO {α : Type} {P : α → Prop} {a : α} (h : P a) : ∀ x ∈ [a], P x := fun x hx => by rw [List.mem_singleton.1 hx]; exact h
theorem CW {α : Type} {P : α → Prop} {a : α} {l : List α} (h : P a) (k : ∀ x ∈ l, P x) : ∀ x ∈ a :: l, P x := fun x hx => (List.mem_cons.1 hx).elim (fun e => e ▸ h) (k x)
theorem VS {α : Type} {P : α → Prop} : ∀ x ∈ ([] : List α), P x := fun x hx => absurd hx (by simp)
theorem Tf {α : Type} {P : α → Prop} {n : Nat} {l : List α} (h : ∀ x ∈ l, P x) : ∀ x ∈ List.take n l, P x := fun x hx => h x (Qhv hx)
theorem Tg {α : Type} {P : α → Prop} {n : Nat} {l : List α} (h : ∀ x ∈ l, P x) : ∀ x ∈ List.drop n l, P x := fun x hx => h x (Qhw hx)
theorem AF {α : Type} {P : α → Prop} {n : Nat} {l : List α} {a : α} (h : ∀ x ∈ l, P x) (ha : P a) : ∀ x ∈ List.set l n a, P x := fun x hx => (List.mem_or_eq_of_mem_set hx).elim (h x) fun e => e ▸ ha
theorem Q8b {α : Type} {P : α → Prop} {a b : List α} (h : ∀ x ∈ b, P x) (hs : ∀ x ∈ a, x ∈ b) : ∀ x ∈ a, P x := fun x hx => h x (hs x hx)
theorem Qhx {α : Type} {P : α → Prop} {n : Nat} {a : α} (h : P a) : ∀ x ∈ List.replicate n a, P x := fun x hx => by rw [List.eq_of_mem_replicate hx]; exact h
theorem Quc {α : Type} {P : α → Prop} {n : Nat} {l : List α} {a b : α} (h : ∀ x ∈ List.set l n b, P x) : ∀ x ∈ List.set (List.set l n a) n b, P x := by rw [List.set_set]; exact h
theorem ixs {α : Type} {L : List α} {n : Int} {v0 : α} {K : α → Prop} (h1 : L[n.toNat]? = some v0) (h0 : 0 ≤ n) (k : K v0) : ∃ v, ix L n v ∧ K v := ⟨v0, ⟨h0, h1⟩, k⟩
theorem ixt {α : Type} {L : List α} {n : Int} {c : Prop} {v0 : α} {K : α → Prop} (h1 : L[n.toNat]? = some v0) (h0 : 0 ≤ n) (k : K v0) : ∃ v, (c → ix L n v) ∧ K v := ⟨v0, fun _ => ⟨h0, h1⟩, k⟩
theorem Qud {α : Type} {P : α → Prop} {l : List α} : ∀ x ∈ List.take (Int.toNat 0) l, P x := fun x h => absurd h (by simp)
theorem Que {α : Type} {P : α → Prop} {l : List α} {n m : Int} {v : α} (h : ∀ x ∈ List.take n.toNat l, P x) (hv : l[n.toNat]? = some v) (h0 : 0 ≤ n) (hp : P v) (hm : m = n + 1) : ∀ x ∈ List.take m.toNat l, P x := by
 have e : m.toNat = n.toNat + 1 := by omega
 rw [e, List.take_add_one, hv]
 intro x hx
 rcases List.mem_append.1 hx with hx | hx
 ·exact h x hx
 ·simp at hx; subst hx; exact hp
theorem Quf {α : Type} {P : α → Prop} {l : List α} {n : Int} (h : ∀ x ∈ List.take n.toNat l, P x) (hn : (l.length : Int) ≤ n) : ∀ x ∈ l, P x := by
 rw [List.take_of_length_le (by omega)] at h; exact h
theorem fwm {α : Type} {P : α → Prop} {L : List α} {x : α} {K : Prop} (hP : ∀ y ∈ L, P y) (h : x ∈ L) (k : P x → K) : K := k (hP x h)
theorem Qhy (s : ByteArray) : (sI s).length = s.size := by simp [sI]
theorem Q01 (a b : Int) : Xd a b = min a b := by unfold Xd; split <;> omega
theorem YW (a b : Int) : Kt a b = max a b := by unfold Kt; split <;> omega
theorem fwd {p q K : Prop} (f : p → q) (h : p) (k : q → K) : K := k (f h)
theorem Qbb {α : Type} {l : List α} : ∀ x ∈ l, x ∈ l := fun _ h => h
theorem xx_ {p : Prop} (h : p := by
  repeat (first | with_reducible refine Np ?_ | (with_reducible intro h; first | subst h | (simp only [decide_eq_true_eq, decide_eq_false_iff_not, Bool.not_eq_eq_eq_not, Bool.not_true, Bool.not_false, Fl, Co, Bool.and_eq_true, Bool.or_eq_true, Bool.or_eq_false_iff, Bool.and_eq_false_imp, beq_iff_eq, bne_iff_ne, beq_eq_false_iff_ne, bne_eq_false_iff_eq, Bool.true_eq_false, Bool.false_eq_true, reduceCtorEq, ix] at h) | skip))
  repeat' first
    | with_reducible assumption
    | (with_reducible refine KL (fun h => ?_) (fun h => ?_)
       all_goals first | (simp only [decide_eq_true_eq, decide_eq_false_iff_not, Bool.not_eq_eq_eq_not, Bool.not_true, Bool.not_false, Fl, Co, Bool.and_eq_true, Bool.or_eq_true, Bool.or_eq_false_iff, Bool.and_eq_false_imp, beq_iff_eq, bne_iff_ne, beq_eq_false_iff_ne, bne_eq_false_iff_eq, Bool.true_eq_false, Bool.false_eq_true, reduceCtorEq, ix] at h) | skip
       all_goals first | (with_reducible refine fwd (by with_reducible assumption) h ?_; repeat (first | with_reducible refine Np ?_ | (with_reducible intro h; first | subst h | (simp only [decide_eq_true_eq, decide_eq_false_iff_not, Bool.not_eq_eq_eq_not, Bool.not_true, Bool.not_false, Fl, Co, Bool.and_eq_true, Bool.or_eq_true, Bool.or_eq_false_iff, Bool.and_eq_false_imp, beq_iff_eq, bne_iff_ne, beq_eq_false_iff_ne, bne_eq_false_iff_eq, Bool.true_eq_false, Bool.false_eq_true, reduceCtorEq, ix] at h) | skip))) | skip)
    | with_reducible refine XH ?_
    | with_reducible refine Fo ?_
    | (with_reducible apply lvi
       case' h => (repeat (first | with_reducible refine Np ?_ | (with_reducible intro h; first | subst h | (simp only [decide_eq_true_eq, decide_eq_false_iff_not, Bool.not_eq_eq_eq_not, Bool.not_true, Bool.not_false, Fl, Co, Bool.and_eq_true, Bool.or_eq_true, Bool.or_eq_false_iff, Bool.and_eq_false_imp, beq_iff_eq, bne_iff_ne, beq_eq_false_iff_ne, bne_eq_false_iff_eq, Bool.true_eq_false, Bool.false_eq_true, reduceCtorEq, ix] at h) | skip))))
    | (with_reducible apply Un
       case' k => (repeat (first | with_reducible refine Np ?_ | (with_reducible intro h; first | subst h | (simp only [decide_eq_true_eq, decide_eq_false_iff_not, Bool.not_eq_eq_eq_not, Bool.not_true, Bool.not_false, Fl, Co, Bool.and_eq_true, Bool.or_eq_true, Bool.or_eq_false_iff, Bool.and_eq_false_imp, beq_iff_eq, bne_iff_ne, beq_eq_false_iff_ne, bne_eq_false_iff_eq, Bool.true_eq_false, Bool.false_eq_true, reduceCtorEq, ix] at h) | skip))))
    | with_reducible refine ixs (by with_reducible assumption) (by with_reducible assumption) ?_
    | with_reducible refine ixt (by with_reducible assumption) (by with_reducible assumption) ?_
    | (with_reducible apply ixq (by with_reducible assumption)
       case' k => (repeat (first | with_reducible refine Np ?_ | (with_reducible intro h; first | subst h | (simp only [decide_eq_true_eq, decide_eq_false_iff_not, Bool.not_eq_eq_eq_not, Bool.not_true, Bool.not_false, Fl, Co, Bool.and_eq_true, Bool.or_eq_true, Bool.or_eq_false_iff, Bool.and_eq_false_imp, beq_iff_eq, bne_iff_ne, beq_eq_false_iff_ne, bne_eq_false_iff_eq, Bool.true_eq_false, Bool.false_eq_true, reduceCtorEq, ix] at h) | skip))))
    | (with_reducible apply ixi
       case' k => (repeat (first | with_reducible refine Np ?_ | (with_reducible intro h; first | subst h | (simp only [decide_eq_true_eq, decide_eq_false_iff_not, Bool.not_eq_eq_eq_not, Bool.not_true, Bool.not_false, Fl, Co, Bool.and_eq_true, Bool.or_eq_true, Bool.or_eq_false_iff, Bool.and_eq_false_imp, beq_iff_eq, bne_iff_ne, beq_eq_false_iff_ne, bne_eq_false_iff_eq, Bool.true_eq_false, Bool.false_eq_true, reduceCtorEq, ix] at h) | skip))))
    | (with_reducible apply bxi
       case' k => (repeat (first | with_reducible refine Np ?_ | (with_reducible intro h; first | subst h | (simp only [decide_eq_true_eq, decide_eq_false_iff_not, Bool.not_eq_eq_eq_not, Bool.not_true, Bool.not_false, Fl, Co, Bool.and_eq_true, Bool.or_eq_true, Bool.or_eq_false_iff, Bool.and_eq_false_imp, beq_iff_eq, bne_iff_ne, beq_eq_false_iff_ne, bne_eq_false_iff_eq, Bool.true_eq_false, Bool.false_eq_true, reduceCtorEq, ix] at h) | skip))))
    | (with_reducible apply nxg
       case' k => (repeat (first | with_reducible refine Np ?_ | (with_reducible intro h; first | subst h | (simp only [decide_eq_true_eq, decide_eq_false_iff_not, Bool.not_eq_eq_eq_not, Bool.not_true, Bool.not_false, Fl, Co, Bool.and_eq_true, Bool.or_eq_true, Bool.or_eq_false_iff, Bool.and_eq_false_imp, beq_iff_eq, bne_iff_ne, beq_eq_false_iff_ne, bne_eq_false_iff_eq, Bool.true_eq_false, Bool.false_eq_true, reduceCtorEq, ix] at h) | skip))))
    | (with_reducible apply ixg
       case' k => (repeat (first | with_reducible refine Np ?_ | (with_reducible intro h; first | subst h | (simp only [decide_eq_true_eq, decide_eq_false_iff_not, Bool.not_eq_eq_eq_not, Bool.not_true, Bool.not_false, Fl, Co, Bool.and_eq_true, Bool.or_eq_true, Bool.or_eq_false_iff, Bool.and_eq_false_imp, beq_iff_eq, bne_iff_ne, beq_eq_false_iff_ne, bne_eq_false_iff_eq, Bool.true_eq_false, Bool.false_eq_true, reduceCtorEq, ix] at h) | skip))))
    | (with_reducible apply bxg
       case' k => (repeat (first | with_reducible refine Np ?_ | (with_reducible intro h; first | subst h | (simp only [decide_eq_true_eq, decide_eq_false_iff_not, Bool.not_eq_eq_eq_not, Bool.not_true, Bool.not_false, Fl, Co, Bool.and_eq_true, Bool.or_eq_true, Bool.or_eq_false_iff, Bool.and_eq_false_imp, beq_iff_eq, bne_iff_ne, beq_eq_false_iff_ne, bne_eq_false_iff_eq, Bool.true_eq_false, Bool.false_eq_true, reduceCtorEq, ix] at h) | skip))))
    | with_reducible refine And.intro ?_ ?_
    | dsimp only
    | with_reducible refine sh0 ?_
    | with_reducible refine sh1 ?_
    | with_reducible refine sh2 ?_
    | with_reducible refine sh3 ?_
    | with_reducible refine sh4 (by with_reducible assumption) ?_
    | with_reducible refine sr0 ?_ ?_
    | with_reducible refine sr1 ?_ ?_
    | with_reducible refine mu0 ?_ ?_
    | with_reducible refine mu2 ?_ ?_
    | with_reducible refine mu3 ?_ ?_
    | with_reducible refine mu4 (by with_reducible assumption) ?_ ?_
    | with_reducible refine mu5 (by with_reducible assumption) ?_ ?_
    | with_reducible refine ce0 (by with_reducible assumption) ?_ ?_ ?_ ?_
    | with_reducible refine ce1 (by with_reducible assumption) ?_ ?_ ?_ ?_
    | with_reducible refine co0 ?_ ?_
    | with_reducible refine co1 ?_ ?_
    | with_reducible exact xr0
    | with_reducible exact w8a
    | with_reducible exact sz0
    | with_reducible refine sz1 ?_
    | with_reducible refine sh6 ?_
    | with_reducible exact w8b
    | with_reducible exact bo0
    | with_reducible refine mu6 ?_ ?_
    | with_reducible exact YW _ _
    | with_reducible exact sI_b
    | with_reducible exact xr1
    | with_reducible refine tm0 ?_
    | with_reducible refine tm1 ?_ ?_
    | with_reducible refine tm2 ?_ ?_
    | (simp only [List.length_replicate, Int.reduceToNat]; done)
    | with_reducible refine ZP ?_ ?_
    | with_reducible refine KO ?_
    | with_reducible refine CW ?_ ?_
    | with_reducible exact VS
    | with_reducible exact Qud
    | with_reducible refine Que (by with_reducible assumption) (by with_reducible assumption) (by with_reducible assumption) ?_ ?_
    | with_reducible refine Tf ?_
    | with_reducible refine Quf (by with_reducible assumption) ?_
    | with_reducible refine Tg ?_
    | with_reducible refine Quc ?_
    | with_reducible refine AF ?_ ?_
    | with_reducible exact Qbb
    | with_reducible refine Qhx ?_
    | exact Or.inl (by with_reducible assumption)
    | exact Or.inr (by with_reducible assumption)
    | with_reducible refine Or.inr ?_
    | with_reducible refine Np ?_
    | (with_reducible intro h
       first | subst h | (simp only [decide_eq_true_eq, decide_eq_false_iff_not, Bool.not_eq_eq_eq_not, Bool.not_true, Bool.not_false, Fl, Co, Bool.and_eq_true, Bool.or_eq_true, Bool.or_eq_false_iff, Bool.and_eq_false_imp, beq_iff_eq, bne_iff_ne, beq_eq_false_iff_ne, bne_eq_false_iff_eq, Bool.true_eq_false, Bool.false_eq_true, reduceCtorEq, ix] at h) | skip
       first | (with_reducible refine fwm (by with_reducible assumption) h ?_; repeat (first | with_reducible refine Np ?_ | (with_reducible intro h; first | subst h | (simp only [decide_eq_true_eq, decide_eq_false_iff_not, Bool.not_eq_eq_eq_not, Bool.not_true, Bool.not_false, Fl, Co, Bool.and_eq_true, Bool.or_eq_true, Bool.or_eq_false_iff, Bool.and_eq_false_imp, beq_iff_eq, bne_iff_ne, beq_eq_false_iff_ne, bne_eq_false_iff_eq, Bool.true_eq_false, Bool.false_eq_true, reduceCtorEq, ix] at h) | skip))) | (with_reducible refine fwd (by with_reducible assumption) h ?_; repeat (first | with_reducible refine Np ?_ | (with_reducible intro h; first | subst h | (simp only [decide_eq_true_eq, decide_eq_false_iff_not, Bool.not_eq_eq_eq_not, Bool.not_true, Bool.not_false, Fl, Co, Bool.and_eq_true, Bool.or_eq_true, Bool.or_eq_false_iff, Bool.and_eq_false_imp, beq_iff_eq, bne_iff_ne, beq_eq_false_iff_ne, bne_eq_false_iff_eq, Bool.true_eq_false, Bool.false_eq_true, reduceCtorEq, ix] at h) | skip))) | skip)
    | (with_reducible refine idJ ?_
       with_reducible apply_assumption only [*])
    | omega
    | (simp only [OQ, zE, zI, zCm, zLl, zB, zP, IN, okV, oB, IntKind.wrap_i64, IntKind.wrap_u64, oN, oK, oE, Qhy, YW, Q01, ByteArray.size_empty, List.length_append, List.length_cons, List.length_nil, List.length_set, List.length_map, List.length_take, List.length_drop] at *; first | omega | grind)
    | with_reducible exact trivial
    | (simp only [OQ, zE, zI, zCm, zLl, zB, zP, IN, okV, List.length_nil, ByteArray.size_empty]; done)
    | (simp only [OQ, zE, zI, zCm, zLl, zB, zP, IN, okV, List.length_nil, ByteArray.size_empty]; omega)
    | with_reducible rfl
    | grind
    | (with_reducible apply_assumption only [*]
       all_goals first | with_reducible assumption | omega | (simp only [Bool.not_eq_true, Bool.not_eq_false, decide_eq_true_eq, decide_eq_false_iff_not]; omega))
  all_goals fail) : p := h
theorem ZD {R : Type} {W W' : (R → Prop) → Prop} [Gm W] {Pre : Prop} {Post : R → Prop} (hW : ∀ Q, W Q = W' Q) (h : Pre → W' Post := by exact xx_) : Nx W Pre Post := ⟨fun hp => ex_ (by rw [hW]; exact h hp)⟩
theorem nxb {R : Type} {W W' : (R → Prop) → Prop} [Gm W] {Pre : Prop} {Post : R → Prop} (hW : ∀ Q, W Q = W' Q) (h : Pre → W' Post := by (first | simp only [bA1, bA3, bA7, Qhs, bA31, bA63, Qht, Qba, OS] | skip); exact xx_) : Nx W Pre Post := ZD hW h
end Go.Proofs.YtimfmcpbkdpmoaaGreat
namespace Go.Proofs.YtimfmcpbkdpmoaaGreat
open Go.RowKit Go.ChangeShapes Go.WideShapes
namespace M64
theorem maskN (a : Nat) (ha : a < 18446744073709551616) : bits .and .u64 (a : Int) 4294967295 = ((a % 4294967296 : Nat) : Int) := by
 have h := bits_and_u64_nat a 4294967295 ha (by omega)
 have e : a &&& 4294967295 = a % 4294967296 := Nat.and_two_pow_sub_one_eq_mod a 32
 rw [e] at h
 exact h
theorem divN (a : Nat) : (a : Int) / 4294967296 = ((a / 4294967296 : Nat) : Int) := by omega
theorem mulN (a b : Nat) : (a : Int) * (b : Int) = ((a * b : Nat) : Int) := (Int.natCast_mul a b).symm
theorem addN (a b : Nat) : (a : Int) + (b : Int) = ((a + b : Nat) : Int) := (Int.natCast_add a b).symm
theorem wrapN (a : Nat) (ha : a < 18446744073709551616) : IntKind.u64.wrap (a : Int) = (a : Int) := by rw [IntKind.wrap_u64]; omega
theorem wrapM (a : Nat) : IntKind.u64.wrap (a : Int) = ((a % 18446744073709551616 : Nat) : Int) := by rw [IntKind.wrap_u64]; omega
end M64
set_option maxHeartbeats 1000000 in
theorem Qdc (x y : Nat) (hx : x < 18446744073709551616) (hy : y < 18446744073709551616) (w : World) :
  Calls Tryz.prog 166 #[.int .u64 x, .int .u64 y] w fun e w' => e = .returned (.tuple #[.int .u64 ((x * y / 18446744073709551616 : Nat) : Int), .int .u64 ((x * y % 18446744073709551616 : Nat) : Int)]) ∧ w = w' := by
 obtain ⟨bd, bt, bw, hhi⟩ := Lib.mul64_hi x y hx hy
 have ba := Lib.half_mul_le (a := x / 4294967296) (b := y / 4294967296) (by omega) (by omega)
 have bb := Lib.half_mul_le (a := x / 4294967296) (b := y % 4294967296) (by omega) (by omega)
 have bc := Lib.half_mul_le (a := x % 4294967296) (b := y / 4294967296) (by omega) (by omega)
 have ba' : x / 4294967296 * (y / 4294967296) < 18446744073709551616 := by omega
 have bb' : x / 4294967296 * (y % 4294967296) < 18446744073709551616 := by omega
 have bc' : x % 4294967296 * (y / 4294967296) < 18446744073709551616 := by omega
 have bh1 : x / 4294967296 * (y / 4294967296) + (x / 4294967296 * (y % 4294967296) + x % 4294967296 * (y % 4294967296) / 4294967296) / 4294967296 < 18446744073709551616 := by omega
 have bh : x / 4294967296 * (y / 4294967296) + (x / 4294967296 * (y % 4294967296) + x % 4294967296 * (y % 4294967296) / 4294967296) / 4294967296 + ((x / 4294967296 * (y % 4294967296) + x % 4294967296 * (y % 4294967296) / 4294967296) % 4294967296 + x % 4294967296 * (y / 4294967296)) / 4294967296 < 18446744073709551616 := by omega
 go_enter Tryz.func166, Tryz.ntmps166
 go_wp2
 simp only [M64.maskN x hx, M64.maskN y hy, M64.divN, M64.mulN, M64.addN, M64.wrapN _ bd, M64.wrapN _ bb', M64.wrapN _ bt, M64.maskN _ bt, M64.wrapN _ bc', M64.wrapN _ bw, M64.wrapN _ ba', M64.wrapN _ bh1, M64.wrapN _ bh, M64.wrapM (x * y)]
 rw [hhi]
 go_ret2
 exact ⟨rfl, rfl⟩
end Go.Proofs.YtimfmcpbkdpmoaaGreat
namespace Go.Proofs.YtimfmcpbkdpmoaaGreat
open Go.RowKit Go.ChangeShapes Go.WideShapes
end Go.Proofs.YtimfmcpbkdpmoaaGreat
namespace Go.Proofs.YtimfmcpbkdpmoaaGreat
open Go.RowKit Go.ChangeShapes Go.WideShapes
def Gr (a b m : Int) : Int := if max a 0 + max b 0 > max m 0 then max m 0 else max a 0 + max b 0
def Qpt (a b m : Int) : Bool := decide (max a 0 + max b 0 > max m 0)
theorem Qhz {k : IntKind} {x x' : Int} {y y' : Bool} (h1 : x = x') (h2 : y = y') : Ending.returned (.tuple #[.int k x, .bool y]) = .returned (.tuple #[.int k x', .bool y']) := by rw [h1, h2]
theorem Qpu (a b m : Int) (w : World) (ha : -9223372036854775808 ≤ a ∧ a ≤ 9223372036854775807) (hb : -9223372036854775808 ≤ b ∧ b ≤ 9223372036854775807) (hm : -9223372036854775808 ≤ m ∧ m ≤ 9223372036854775807) :
  Calls Tryz.prog 58 #[.int .i64 a, .int .i64 b, .int .i64 m] w fun e w' => e = .returned (.tuple #[.int .i64 (Gr a b m), .bool (Qpt a b m)]) ∧ w = w' := by
 go_enter Tryz.func58, Tryz.ntmps58
 go_wp2
 all_goals
  go_ret2
  exact ⟨Qhz (by unfold Gr; split <;> omega) (by unfold Qpt; first | exact (decide_eq_true (by omega)).symm | exact (decide_eq_false (by omega)).symm), rfl⟩
end Go.Proofs.YtimfmcpbkdpmoaaGreat
namespace Go.Proofs.YtimfmcpbkdpmoaaGreat
open Go.RowKit Go.ChangeShapes Go.WideShapes
set_option maxHeartbeats 1000000 in
theorem Qi0 (x y : Nat) (hx : x < 18446744073709551616) (hy : y < 18446744073709551616) (w : World) :
  Calls Tryz.prog 110 #[.int .u64 x, .int .u64 y] w fun e w' => e = .returned (.tuple #[.int .u64 ((x * y / 18446744073709551616 : Nat) : Int), .int .u64 ((x * y % 18446744073709551616 : Nat) : Int)]) ∧ w = w' := by
 have C := Lib.hid (Qdc x y hx hy w)
 generalize x * y / 18446744073709551616 = p at *
 generalize x * y % 18446744073709551616 = q at *
 go_enter Tryz.func110, Tryz.ntmps110
 go_wp2_with (go_at_call 166; refine C.out.mono ?_; rintro e w' ⟨rfl, rfl⟩)
 go_ret2
 exact ⟨rfl, rfl⟩
def OW (a b m : Int) : Int := if max a 0 * max b 0 > max m 0 then max m 0 else max a 0 * max b 0
def Qi1 (a b m : Int) : Bool := decide (max a 0 * max b 0 > max m 0)
theorem Qdd (x y : Int) (w : World) (hx0 : 0 ≤ x) (hx : x < 18446744073709551616) (hy0 : 0 ≤ y) (hy : y < 18446744073709551616) :
  Calls Tryz.prog 110 #[.int .u64 x, .int .u64 y] w fun e w' => ∃ p : Int, e = .returned (.tuple #[.int .u64 (p / 18446744073709551616), .int .u64 (p % 18446744073709551616)]) ∧ w = w' ∧ 0 ≤ p ∧ Hid (p = x * y) := by
 obtain ⟨X, rfl⟩ := Int.eq_ofNat_of_zero_le hx0
 obtain ⟨Y, rfl⟩ := Int.eq_ofNat_of_zero_le hy0
 refine (Qi0 X Y (by omega) (by omega) w).mono ?_
 rintro e w' ⟨rfl, rfl⟩
 exact ⟨((X * Y : Nat) : Int), by simp, rfl, by omega, show _ = _ by simp⟩
theorem Qpv {a b m x y p : Int} (hx : x = max a 0) (hy : y = max b 0) (hp : p = x * y) : OW a b m = if p > max m 0 then max m 0 else p := by unfold OW; rw [hp, hx, hy]
theorem Qpw {a b m x y p : Int} (hx : x = max a 0) (hy : y = max b 0) (hp : p = x * y) : Qi1 a b m = decide (p > max m 0) := by unfold Qi1; rw [hp, hx, hy]
set_option maxHeartbeats 1600000 in
theorem Qi2 (a b m : Int) (w : World) (ha : -9223372036854775808 ≤ a ∧ a ≤ 9223372036854775807) (hb : -9223372036854775808 ≤ b ∧ b ≤ 9223372036854775807) (hm : -9223372036854775808 ≤ m ∧ m ≤ 9223372036854775807) :
  Calls Tryz.prog 59 #[.int .i64 a, .int .i64 b, .int .i64 m] w fun e w' => e = .returned (.tuple #[.int .i64 (OW a b m), .bool (Qi1 a b m)]) ∧ w = w' := by
 go_enter Tryz.func59, Tryz.ntmps59
 go_wp2_with fail
 all_goals
  refine (Qdd _ _ _ (by omega) (by omega) (by omega) (by omega)).mono ?_
  rintro e w' ⟨p, rfl, rfl, hp0, hp⟩
  have hs := Qpv (a := a) (b := b) (m := m) (by omega) (by omega) hp.out
  have ht := Qpw (a := a) (b := b) (m := m) (by omega) (by omega) hp.out
  have HS := Lib.hid hs
  have HT := Lib.hid ht
  clear hs ht hp
  go_wp2
  all_goals
   go_ret2
   exact ⟨Qhz (by rw [HS.out]; split <;> omega) (by rw [HT.out]; first | exact (decide_eq_true (by omega)).symm | exact (decide_eq_false (by omega)).symm), rfl⟩
end Go.Proofs.YtimfmcpbkdpmoaaGreat
namespace Go.Proofs.YtimfmcpbkdpmoaaGreat
open Go.RowKit Go.ChangeShapes Go.WideShapes
def Qi3 (k : Int) : List Int :=
 if k = 1 then [0, 3] else if k = 2 then [0] else if k = 3 then [0, 1] else if k = 5 then [0, 12] else if k = 6 then [0, 4, 5] else if k = 7 then [0, 1, 5] else if k = 8 then [0, 1, 5, 6, 7]
 else if k = 9 then [2] else if k = 10 then [8, 9, 12] else if k = 11 then [8] else if k = 12 ∨ k = 15 then [8, 9] else if k = 13 then [10, 11] else if k = 14 then [10] else if k = 16 then [0, 13] else []
def M2 (k : Int) : Prop := 1 ≤ k ∧ k ≤ 17
instance (k : Int) : Decidable (M2 k) := by unfold M2; infer_instance
def Q8c (k : Int) : Bool := decide (M2 k ∧ ¬ (k = 6 ∨ k = 7 ∨ k = 8 ∨ k = 9 ∨ k = 15 ∨ k = 16 ∨ k = 17))
theorem Qi4 {k : Int} (h : M2 k) : k = 1 ∨ k = 2 ∨ k = 3 ∨ k = 4 ∨ k = 5 ∨ k = 6 ∨ k = 7 ∨ k = 8 ∨ k = 9 ∨ k = 10 ∨ k = 11 ∨ k = 12 ∨ k = 13 ∨ k = 14 ∨ k = 15 ∨ k = 16 ∨ k = 17 := by
 obtain ⟨h1, h2⟩ := h; omega
theorem Qbc {k : Int} (h : ¬ M2 k) : (k == 1) = false ∧ (k == 2) = false ∧ (k == 3) = false ∧ (k == 4) = false ∧ (k == 5) = false ∧ (k == 6) = false ∧ (k == 7) = false ∧ (k == 8) = false ∧ (k == 9) = false ∧ (k == 10) = false ∧ (k == 11) = false ∧ (k == 12) = false ∧ (k == 13) = false ∧ (k == 14) = false ∧ (k == 15) = false ∧ (k == 16) = false ∧ (k == 17) = false := by
 unfold M2 at h
 refine ⟨?_, ?_, ?_, ?_, ?_, ?_, ?_, ?_, ?_, ?_, ?_, ?_, ?_, ?_, ?_, ?_, ?_⟩ <;> exact beq_eq_false_iff_ne.2 (by omega)
theorem Qi5 {P : Program} {T e : TypeId} (hT : P.underlying T = some (.slice e)) (d : Nat) (a : Addr) (n c : Nat) (w : World) : Sem.run P (Op.equalIn (d + 1) T (.slice (some a) n c) (.slice none 0 0)) w = .ok false w := by
 simp [Op.equalIn, run_underlying hT]
theorem Qpx {P : Program} {T e : TypeId} (hT : P.underlying T = some (.slice e)) (a : Addr) (n c : Nat) (w : World) : Sem.run P (binOp .neq T (.slice (some a) n c) (.slice none 0 0)) w = .ok (.bool true) w := by
 have h := Qi5 hT 9999 a n c w
 show Sem.run P (do let b ← Op.equalIn (9999 + 1) T (.slice (some a) n c) (.slice none 0 0); pure (Value.bool (!b)) : Sem Value) w = _
 generalize Op.equalIn (9999 + 1) T (.slice (some a) n c) (.slice none 0 0) = q at *
 simp [h]
theorem Qde {P : Program} {T e : TypeId} (hT : P.underlying T = some (.slice e)) (d : Nat) (w : World) : Sem.run P (Op.equalIn (d + 1) T (.slice none 0 0) (.slice none 0 0)) w = .ok true w := by
 simp [Op.equalIn, run_underlying hT]
theorem Qi6 {P : Program} {T e : TypeId} (hT : P.underlying T = some (.slice e)) (w : World) : Sem.run P (binOp .neq T (.slice none 0 0) (.slice none 0 0)) w = .ok (.bool false) w := by
 have h := Qde hT 9999 w
 show Sem.run P (do let b ← Op.equalIn (9999 + 1) T (.slice none 0 0) (.slice none 0 0); pure (Value.bool (!b)) : Sem Value) w = _
 generalize Op.equalIn (9999 + 1) T (.slice none 0 0) (.slice none 0 0) = q at *
 simp [h]
theorem Qi7 (w : World) (e : TypeId) (l : List Int) (cs : Array Value) (n : Nat) (h : cs.toList = l.map (.int .i64)) (hl : l.length = n) (hn : n ≤ 100) : (w.alloc (.cells cs e)).ownsRow w.heap.size e 1 (.slice (some ⟨w.heap.size, 0, none⟩) n n) n (l.map (.int .i64)) := by
 have hs : cs.size = n * 1 := by rw [← Array.length_toList, h, List.length_map, hl, Nat.mul_one]
 have := World.ownsRow_lit (e := e) w cs n (Nat.le_refl _) (by unfold maxLen; omega) (by omega)
 rw [h] at this
 exact this
set_option maxRecDepth 100000 in
set_option maxHeartbeats 1600000 in
theorem Qi8 (k : Int) (w : World) (hk : M2 k) :
  Calls Tryz.prog 62 #[.int .i64 k] w fun e w' => ∃ a, e = .returned (.slice (some a) (Qi3 k).length (Qi3 k).length) ∧ Ints .i64 w' (.slice (some a) (Qi3 k).length (Qi3 k).length) (Qi3 k) ∧ w.grownBy w' none := by
 rcases Qi4 hk with rfl | rfl | rfl | rfl | rfl | rfl | rfl | rfl | rfl | rfl | rfl | rfl | rfl | rfl | rfl | rfl | rfl
 all_goals
  go_enter Tryz.func62, Tryz.ntmps62
  go_wp2
  go_ret
  exact ⟨_, rfl, Q3a (Qi7 w _ _ _ _ rfl rfl (by decide)) (by decide), Q3b _ _⟩
set_option maxRecDepth 100000 in
theorem Qpy (k : Int) (w : World) (hk : ¬ M2 k) :
  Calls Tryz.prog 62 #[.int .i64 k] w fun e w' => e = .returned (.slice none 0 0) ∧ w = w' := by
 obtain ⟨k1, k2, k3, k4, k5, k6, k7, k8, k9, k10, k11, k12, k13, k14, k15, k16, k17⟩ := Qbc hk
 clear hk
 go_enter Tryz.func62, Tryz.ntmps62
 go_wp2
 go_ret
 exact ⟨rfl, rfl⟩
set_option maxRecDepth 100000 in
set_option maxHeartbeats 1600000 in
theorem Q8d (k : Int) (w : World) :
    Calls Tryz.prog 34 #[.int .i64 k] w fun e w' => e = .returned (.bool (Q8c k)) ∧ w.grownBy w' none := by
  by_cases hk : M2 k
  · have CU := Lib.hid (fun w => Qi8 k w hk)
    have hnn := fun a n c w => Qpx (P := Tryz.prog) Tryz.underlying22 a n c w
    rcases Qi4 hk with rfl | rfl | rfl | rfl | rfl | rfl | rfl | rfl | rfl | rfl | rfl | rfl | rfl | rfl | rfl | rfl | rfl
    all_goals
      clear hk
      go_enter Tryz.func34, Tryz.ntmps34
      go_wp2_with fail
      first
        | (go_ret; exact ⟨rfl, FB _⟩)
        | (refine (CU.out _).mono ?_
           rintro e w1 ⟨a, rfl, -, g1⟩
           go_wp2
           go_ret
           exact ⟨rfl, g1⟩)
  · have CU := Lib.hid (fun w => Qpy k w hk)
    have hnn := fun w => Qi6 (P := Tryz.prog) Tryz.underlying22 w
    have HF : Hid (Q8c k = false) := by show _ = _; unfold Q8c; rw [decide_eq_false]; exact fun h => hk h.1
    obtain ⟨k1, k2, k3, k4, k5, k6, k7, k8, k9, k10, k11, k12, k13, k14, k15, k16, k17⟩ := Qbc hk
    clear hk
    go_enter Tryz.func34, Tryz.ntmps34
    go_wp2_with fail
    refine (CU.out _).mono ?_
    rintro e w1 ⟨rfl, rfl⟩
    go_wp2
    go_ret
    rw [HF.out]
    exact ⟨rfl, FB _⟩
theorem Hd {P : Program} {f : FuncId} {avs : List AV} {x y : Value} (he : Iv P f = true) (hx : JN x = true) (hy : JN y = true) (hn : avs.any AV.isRef = false) (h : ∀ A q w vs, AsR w A (fun _ => none) w.heap.size q avs vs.toList → Calls P f vs w fun e w' => e = .returned (.tuple #[x, y]) ∧ w.grownBy w' none) : VA P f avs [.c (.p (.v x)), .c (.p (.v y))] [] := by
 refine ⟨he, fun A gs g q w vs hA hinj hgs hg hR => ?_⟩
 obtain ⟨hg1, rfl⟩ := hg hn
 have e : gs = fun _ => none := funext hg1
 subst e
 refine (h A q w vs hR).mono ?_
 rintro _ w' ⟨rfl, hgr⟩
 exact ⟨_, A, fun _ => none, rfl, fun _ h => h, fun _ h => .inl h, hgr.size, fun y hy _ _ => hgr.block y hy (by simp), ⟨hgr.os, .kept fun y hy => hgr.block y hy (by simp)⟩, hgr.tape, hgr.output, fun n m y h => (by cases h), fun n y h => (by cases h), ⟨#[x, y], rfl, ⟨Vu hx, .v x hx, trivial⟩, ⟨Vu hy, .v y hy, trivial⟩, trivial⟩, fun h => by rw [hn] at h; cases h⟩
def E6 (a : Int) : Prop := -9223372036854775808 ≤ a ∧ a ≤ 9223372036854775807
theorem Q48 {a : Int} (h : E6 a) : JN (.int .i64 a) = true := by
 unfold E6 at h
 simp [JN, Lit.wf, IntKind.min, IntKind.max, IntKind.signed, IntKind.bits]; omega
theorem OX {a b m : Int} (ha : E6 a) (hb : E6 b) (hm : E6 m) : E6 (Gr a b m) := by
 unfold E6 at *; unfold Gr; split <;> omega
theorem Qi9 {a b m : Int} (hm : E6 m) : E6 (OW a b m) := by
 have hp : 0 ≤ max a 0 * max b 0 := Int.mul_nonneg (by omega) (by omega)
 unfold E6 at *; unfold OW; split <;> omega
theorem Q02 {a b m : Int} {r : Int × Bool} (h : (E6 a ∧ E6 b ∧ E6 m) ∧ r = (Gr a b m, Qpt a b m)) : VA Tryz.prog 58 [.c (.v (.int .i64 a)), .c (.v (.int .i64 b)), .c (.v (.int .i64 m))] [.c (.p (.v (.int .i64 (r.1)))), .c (.p (.v (.bool (r.2))))] [] := by
 obtain ⟨⟨ha, hb, hm⟩, rfl⟩ := h
 refine Hd (by kernel_rfl) (Q48 (OX ha hb hm)) rfl rfl fun A q w vs hR => ?_
 rw [MD (xs := [.int .i64 a, .int .i64 b, .int .i64 m]) hR]
 refine (Qpu a b m w ha hb hm).mono ?_
 rintro e w' ⟨rfl, rfl⟩
 exact ⟨rfl, FB w⟩
theorem Q03 {a b m : Int} {r : Int × Bool} (h : (E6 a ∧ E6 b ∧ E6 m) ∧ r = (OW a b m, Qi1 a b m)) : VA Tryz.prog 59 [.c (.v (.int .i64 a)), .c (.v (.int .i64 b)), .c (.v (.int .i64 m))] [.c (.p (.v (.int .i64 (r.1)))), .c (.p (.v (.bool (r.2))))] [] := by
 obtain ⟨⟨ha, hb, hm⟩, rfl⟩ := h
 refine Hd (by kernel_rfl) (Q48 (Qi9 hm)) rfl rfl fun A q w vs hR => ?_
 rw [MD (xs := [.int .i64 a, .int .i64 b, .int .i64 m]) hR]
 refine (Qi2 a b m w ha hb hm).mono ?_
 rintro e w' ⟨rfl, rfl⟩
 exact ⟨rfl, FB w⟩
theorem HZ {a0 : Int} {r : Bool} (h : r = Q8c a0) : VA Tryz.prog 34 [.c (.v (.int .i64 a0))] [.c (.p (.v (.bool r)))] [] := by
 subst h
 refine Rv (by kernel_rfl) rfl rfl fun A q w vs hR => ?_
 rw [MD (xs := [.int .i64 a0]) hR]
 exact Q8d a0 w
end Go.Proofs.YtimfmcpbkdpmoaaGreat
