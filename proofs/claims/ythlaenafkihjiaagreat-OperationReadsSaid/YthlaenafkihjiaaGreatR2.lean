/- Parts of the proof, laid together. No condition. -/
import Derived.Test.YthlaenafkihjiaaGreatR1
import Derived.IntWalk
import Derived.Great.BuildSlice
import Derived.ChangeKeysEq
import Derived.Laws.StructEq
import Derived.Laws.IdiomStrings
import Derived.Laws.MakeOwn
import Derived.ScopeJumps
set_option linter.unusedVariables false
set_option linter.unusedSimpArgs false
namespace Go.Proofs.YthlaenafkihjiaaGreat
open Go.RowKit
section
variable {E : En} {N : Nat} {P : Program} {T : Tb P} {ops : Array Oper} {o : Oper} {st : St} {d : Nat} {ty : Nat} {pos : String} {af : Array Edge} {gd : Option (Nat × Bool)} {Q : Exit → St → Prop}
theorem Qd {x : Operand} {y : CV} (hx : st.ev x = .c y) (hc : ZX x = true) : KS E N P ops ⟨some d, .move x, ty, pos, af, gd⟩ st ⟨[], []⟩ ⟨.c y, []⟩ := Lg hc hx
theorem Ij {x : Operand} {y : CV} (hx : st.ev x = .c y) (hc : ZX x = true) : KS E N P ops ⟨some d, .assign x, ty, pos, af, gd⟩ st ⟨[], []⟩ ⟨.c y, []⟩ := Mh hc hx
theorem Q8 {x : Operand} {ts : List TV} {i : Nat} {y : CV} (h1 : st.ev x = .tup ts) (hi : ts[i]? = some (.c y)) (hx : ZX x = true) : KS E N P ops ⟨some d, .extract x i, ty, pos, af, gd⟩ st ⟨[], []⟩ ⟨.c y, []⟩ := F0 h1 hi (by simp) hx
theorem ZJ {x : Operand} {ts : List TV} {i : Nat} {y : List CV} (h1 : st.ev x = .tup ts) (hi : ts[i]? = some (.agg y)) (hx : ZX x = true) : KS E N P ops ⟨some d, .extract x i, ty, pos, af, gd⟩ st ⟨[], []⟩ ⟨.agg y, []⟩ := F0 h1 hi (by simp) hx
theorem U9 {c x y : Operand} {z : CV} (hv : st.ev c = .c (.p (.v (.bool true)))) (hz : st.ev x = .c z) (hb : ZX c = true) (h1 : ZX x = true) (h2 : ZX y = true) : KS E N P ops ⟨some d, .pick c x y, ty, pos, af, gd⟩ st ⟨[], []⟩ ⟨.c z, []⟩ := FZ hb h1 h2 hv (by simpa using hz)
theorem QM {x : Operand} {el : TypeId} {cs : List CV} (hx : st.ev x = .agg cs) (hc : ZX x = true) : KS E N P ops ⟨some d, .box el x, ty, pos, af, gd⟩ st ⟨[], [(d, 0)]⟩ ⟨.c (.ptr (d, 0) 0 0), [((d, 0), some (.box cs))]⟩ := PO hx rfl hc
theorem Fj {x y : Operand} {t : TypeId} {te : TE} {b : Zf} {k : Nat} {all all' : List CV} {v : CV} {dst : Option Nat} (hx : st.ev x = .c (.ptr b 0 k)) (hb : st.h b = some (.box all)) (hv : st.ev y = .c v) (hk : TV.known (.c v) = true) (ht : Ka T.ty t = some te) (hsz : 1 = te.size) (hin : k + 1 ≤ all.length)
    (hall : setAt all k [v] = all') (hcx : ZX x = true) (hcy : ZX y = true) : KS E N P ops ⟨dst, .store t x y, ty, pos, af, gd⟩ st ⟨[b], []⟩ ⟨.c .any, [(b, some (.box all'))]⟩ := Cq hx hb hv hk ht hsz hin hall hcx hcy
theorem Fl {x y : Operand} {t : TypeId} {te : TE} {b : Zf} {k : Nat} {all all' cs : List CV} {dst : Option Nat} (hx : st.ev x = .c (.ptr b 0 k)) (hb : st.h b = some (.box all)) (hv : st.ev y = .agg cs) (ht : Ka T.ty t = some te) (hsz : cs.length = te.size) (hin : k + cs.length ≤ all.length)
    (hall : setAt all k cs = all') (hcx : ZX x = true) (hcy : ZX y = true) : KS E N P ops ⟨dst, .store t x y, ty, pos, af, gd⟩ st ⟨[b], []⟩ ⟨.c .any, [(b, some (.box all'))]⟩ := Cq hx hb hv rfl ht hsz hin hall hcx hcy
theorem nb {n : Nat} (h : Nat.beq n 0 = false) : n ≠ 0 := by rintro rfl; cases h
theorem Gg {x : Operand} {b : Zf} {i k k' f off ft s : Nat} {ts tf : TE} {fs : List (Nat × Nat)} (h1 : st.ev x = .c (.ptr b i k)) (hb : (st.h b).isSome = true) (hs : Ka T.ty s = some ts) (hk : ts.kd = .struct fs) (hf : fs[f]? = some (off, ft)) (hft : Ka T.ty ft = some tf) (hz : Nat.beq tf.size 0 = false) (hkk : Nat.add k off = k') (hc : ZX x = true) :
    KS E N P ops ⟨some d, .fieldAddr s x f, ty, pos, af, gd⟩ st ⟨[b], []⟩ ⟨.c (.ptr b i k'), []⟩ := H2 h1 hb hs hk hf hft (nb hz) hkk hc
theorem Gh {x : Operand} {r : List PV} {k k' f off ft s : Nat} {ts tf : TE} {fs : List (Nat × Nat)} (h1 : st.ev x = .c (.ep r k)) (hs : Ka T.ty s = some ts) (hk : ts.kd = .struct fs) (hf : fs[f]? = some (off, ft)) (hft : Ka T.ty ft = some tf) (hz : Nat.beq tf.size 0 = false) (hkk : Nat.add k off = k') (hc : ZX x = true) :
    KS E N P ops ⟨some d, .fieldAddr s x f, ty, pos, af, gd⟩ st ⟨[], []⟩ ⟨.c (.ep r k'), []⟩ := I7 h1 hs hk hf hft (nb hz) hkk hc
variable {r : List Oper} {acc : List (Fp × Ef)} {K : List (Fp × Ef) → St → Prop} {fr : List (Nat × TV)} {H : List (Zf × Option Bk)} {op : Op}
end
section
variable {E : En} {N : Nat} {P : Program} {T : Tb P} {st : St} {Q : Exit → St → Prop} {cx : Cx} {a : Act} {w : World} {fn : Func}
def Nm (st st' : St) : Prop := ∃ ks σ, okS σ = true ∧ st.norm ks σ = st'
theorem Nm.mk (ks : List Nat) (σ : List (Zf × Zf)) {st' : St} (h1 : okS σ = true) (h : st.norm ks σ = st') : Nm st st' := ⟨ks, σ, h1, h⟩
theorem Ik {x y : Code} (h : ∀ K : St → Prop, (∀ st, AW E N P y Q st → K st) → AW E N P x (HK Q K) st) : AW E N P (.seq x y) Q st := OE (h _ fun _ h => h)
theorem OK {x : List Oper} {id : Nat} {y : Code} (hN : Ov N x = true) (h : ∀ K : St → Prop, (∀ st, AW E N P y Q st → K st) → UW E N P x.toArray x [] st fun acc st' => Mf acc.reverse = true ∧ Wg st acc = true ∧ K st') : AW E N P (.seq (.region id x.toArray false) y) Q st :=
  Ik fun K hK => N7 hN (h K hK)
theorem OL {x : List Oper} {id : Nat} {y : Code} (hm : P.follows .mixedOrders = true) (hS : Ot N x = true) (h : ∀ K : St → Prop, (∀ st, AW E N P y Q st → K st) → UW E N P x.toArray x [] st fun acc st' => Me x acc.reverse = true ∧ Wg st acc = true ∧ K st') : AW E N P (.seq (.region id x.toArray true) y) Q st :=
  Ik fun K hK => N6 hm hS (h K hK)
theorem DI.ps : ∀ {xs : List PV}, DI st (xs.map .p) xs []
  | [] => .nil
  | x :: xs => .cons (b := []) (bs := []) (.p x) DI.ps
section
variable {ops : Array Oper} {d : Nat} {ty : Nat} {pos : String} {af : Array Edge} {gd : Option (Nat × Bool)} {f : FuncId} {xs : Array Operand} {tys : Array TypeId} {dst : Option Nat} {avs : List AV} {bs : List Zf}
theorem gm {α β : Type} {l : List α} {g : α → β} {j : Nat} {x : α} (h : l[j]? = some x) : (l.map g)[j]? = some (g x) := by rw [List.getElem?_map, h]; rfl
end
theorem H7 {f : FuncId} {avs : List AV} {x : Value} (he : Ms P f = true) (hx : JW x = true) (hn : avs.any AV.isRef = false) (h : ∀ A q w vs, Mr w A (fun _ => none) w.heap.size q avs vs.toList → Calls P f vs w fun e w' => e = .returned x ∧ w.grownBy w' none) : Qq P f avs [.c (.p (.v x))] [] := by
  refine ⟨he, fun A gs g q w vs hA hinj hgs hg hR => ?_⟩
  obtain ⟨hg1, rfl⟩ := hg hn
  have e : gs = fun _ => none := funext hg1
  subst e
  refine (h A q w vs hR).mono ?_
  rintro _ w' ⟨rfl, hgr⟩
  exact ⟨x, A, fun _ => none, rfl, fun _ h => h, fun _ h => .inl h, hgr.size, fun y hy _ _ => hgr.block y hy (by simp), hgr.os, hgr.tape, hgr.output, fun n m y h => (by cases h), fun n y h => (by cases h), ⟨JB hx, .v x hx, trivial⟩, fun h => by rw [hn] at h; cases h⟩
theorem NZ {A : Nat → Prop} {gs : Nat → Option Nat} {g q : Nat} : ∀ {xs : List Value} {vs : Array Value}, Mr w A gs g q (xs.map fun x => .c (.v x)) vs.toList → vs = xs.toArray := by
  intro xs vs h
  suffices vs.toList = xs by rw [← this]
  revert h
  generalize vs.toList = l
  intro h
  induction xs generalizing l with
  | nil =>
    cases l with
    | nil => rfl
    | cons v l => exact h.elim
  | cons x xs ih =>
    cases l with
    | nil => exact h.elim
    | cons v l =>
      obtain ⟨h1, h2⟩ := h
      have : v = x := by cases h1 with | v _ _ => rfl
      rw [this, ih l h2]
end
section
variable {E : En} {N : Nat} {P : Program} {T : Tb P} {st : St} {Q : Exit → St → Prop} {cx : Cx} {a : Act} {w w' : World} {fn : Func}
def FinR (T : Tb P) (fn : Func) (r : List RS) (out : List RV) : Exit → St → Prop := fun e st => (e = .normal ∨ e = .ret) ∧ ∃ ts os bs cs os' bs', HL T st fn.results.toList ts ∧ Ic st ts r os bs ∧ st.h K7 = some (.box cs) ∧ Wy st cs out os' bs' ∧
  Mu (os ++ os') = true ∧ GZ ((os ++ os').filterMap id) (bs ++ bs') = true
theorem HQ {c : CV} {x : RV} {o : Option Zf} {bs : List Zf} (h : Mt st c x o bs) : (∀ b ∈ bs, st.h b ≠ none) ∧ ∀ b, o = some b → ∃ e rows, st.h b = some (.row e rows true) := by
  cases h with
  | p x => exact ⟨by simp, by simp⟩
  | nil e => exact ⟨by simp, by simp⟩
  | nilo e he => exact ⟨by simp, by simp⟩
  | own hb hn => exact ⟨by simp, fun b hb' => by cases hb'; exact ⟨_, _, hb⟩⟩
  | fr hb hr => exact ⟨fun b hb' => by rw [List.mem_singleton.1 hb', hb]; simp, by simp⟩
theorem CQ {cs : List CV} {xs : List RV} {os : List (Option Zf)} {bs : List Zf} (h : Wy st cs xs os bs) : (∀ b ∈ bs, st.h b ≠ none) ∧ ∀ b, some b ∈ os → ∃ e rows, st.h b = some (.row e rows true) := by
  induction h with
  | nil => exact ⟨by simp, by simp⟩
  | cons h hs ih =>
    obtain ⟨h1, h2⟩ := HQ h
    refine ⟨fun b hb => ?_, fun b hb => ?_⟩
    · rcases List.mem_append.1 hb with h | h
      · exact h1 b h
      · exact ih.1 b h
    · rcases List.mem_cons.1 hb with h | h
      · exact h2 b h.symm
      · exact ih.2 b h
theorem Mx {ts : List TV} {xs : List RS} {os : List (Option Zf)} {bs : List Zf} (h : Ic st ts xs os bs) : (∀ b ∈ bs, st.h b ≠ none) ∧ ∀ b, some b ∈ os → ∃ e rows, st.h b = some (.row e rows true) := by
  induction h with
  | nil => exact ⟨by simp, by simp⟩
  | @cons t x os os' bs bs' ts xs h hs ih =>
    have hS : (∀ b ∈ bs, st.h b ≠ none) ∧ ∀ b, some b ∈ os → ∃ e rows, st.h b = some (.row e rows true) := by
      cases h with
      | c h =>
        obtain ⟨h1, h2⟩ := HQ h
        exact ⟨h1, fun b hb => h2 b (List.mem_singleton.1 hb).symm⟩
      | agg h => exact CQ h
    refine ⟨fun b hb => ?_, fun b hb => ?_⟩
    · rcases List.mem_append.1 hb with h | h
      · exact hS.1 b h
      · exact ih.1 b h
    · rcases List.mem_append.1 hb with h | h
      · exact hS.2 b h
      · exact ih.2 b h
theorem U1 {f : FuncId} {body : Code} {cs : List RV} {avs : List AV} {r : List RS} {out : List RV} (T : Tb P) (hf : P.funcs[f]? = some fn) (hb : fn.body = some body) (he : Ms P f = true) (hN : fn.ntmps = N) (hN2 : Nat.ble N 65536 = true) (hl : avs.length + 1 ≤ N) (hn : avs.any AV.isRef = false)
    (h : ∀ E, AW E N P body (FinR T fn r out) ⟨(0, .c (.ptr K7 0 0)) :: Lp 1 avs, (K7, some (.box (Ah 65536 1 cs))) :: C1 65536 1 cs⟩) : Qq P f (.ref cs :: avs) r out := by
  refine ⟨he, fun A gs g q w vs hA hinj hgs hg hR => ?_⟩
  -- the arguments
  obtain ⟨v0, vs1, hvs, hR0, hR1⟩ : ∃ v0 vs1, vs.toList = v0 :: vs1 ∧ AVr w A gs g q (.ref cs) v0 ∧ Mr w A gs g q avs vs1 := by
    revert hR
    generalize vs.toList = l
    intro hR
    cases l with
    | nil => exact hR.elim
    | cons v l => exact ⟨v, l, rfl, hR.1, hR.2⟩
  obtain ⟨rfl, c, el, hc, hnA, hsz, hcs⟩ := hR0
  obtain ⟨hul, hua⟩ := Bl hcs
  let st0 : St := ⟨(0, .c (.ptr K7 0 0)) :: Lp 1 avs, (K7, some (.box (Ah 65536 1 cs))) :: C1 65536 1 cs⟩
  let us : List Value := (c.toList.drop q).take cs.length
  let cx0 : Cx := ⟨fun b => if b = K7 then some (g, q) else if b.1 = 65536 ∧ 1 ≤ b.2 then (match cs[b.2 - 1]? with | some (.own _ _) => ιOf (gs (b.2 - 1)) ((us[b.2 - 1]?).getD undef) | _ => none) else none, A⟩
  have hh : ∀ b, st0.h b = if b = K7 then some (.box (Ah 65536 1 cs)) else if b.1 = 65536 ∧ 1 ≤ b.2 then (match cs[b.2 - 1]? with | some (.own e rows) => some (.row e rows true) | _ => none) else none := by
    intro b
    show (Uv ((K7, some (Bk.box (Ah 65536 1 cs))) :: C1 65536 1 cs) b).getD none = _
    simp only [Uv]
    by_cases e : b = K7
    · subst e
      rw [ZN.2 rfl, if_pos rfl]; rfl
    · have : Xz K7 b = false := by
        cases hx : Xz K7 b with
        | false => rfl
        | true => exact absurd (ZN.1 hx).symm e
      rw [this, if_neg e]
      simp only
      rw [WO]
      by_cases h2 : b.1 = 65536 ∧ 1 ≤ b.2
      · rw [if_pos h2, if_pos h2]
        cases hx : cs[b.2 - 1]? with
        | none => rfl
        | some x => cases x <;> rfl
      · rw [if_neg h2, if_neg h2]; rfl
  -- the blocks of one's own
  have hone : ∀ b bk, b ≠ K7 → st0.h b = some bk → ∃ k e rows u, b = (65536, 1 + k) ∧ cs[k]? = some (.own e rows) ∧ bk = .row e rows true ∧ us[k]? = some u ∧ PS w A (gs k) e rows u ∧ cx0.ι b = ιOf (gs k) u := by
    intro b bk hne hb
    rw [hh, if_neg hne] at hb
    by_cases h2 : b.1 = 65536 ∧ 1 ≤ b.2
    · rw [if_pos h2] at hb
      cases hx : cs[b.2 - 1]? with
      | none => rw [hx] at hb; cases hb
      | some x =>
        rw [hx] at hb
        cases x with
        | p p => cases hb
        | own e rows =>
          cases hb
          obtain ⟨u, hu, h3, h4⟩ := hua (b.2 - 1) _ hx
          refine ⟨b.2 - 1, e, rows, u, ?_, hx, rfl, hu, by rw [Nat.zero_add] at h4; exact h4, ?_⟩
          · obtain ⟨b1, b2⟩ := b
            simp only [Prod.mk.injEq] at h2 ⊢
            exact ⟨h2.1, by omega⟩
          · show (if b = K7 then _ else _) = _
            rw [if_neg hne, if_pos h2, hx]
            simp only
            have hu' : us[b.2 - 1]? = some u := hu
            rw [hu']; rfl
    · rw [if_neg h2] at hb; cases hb
  have hι0 : cx0.ι K7 = some (g, q) := by simp [cx0]
  have hown2 : ∀ k e rows, cs[k]? = some (.own e rows) → st0.h (65536, 1 + k) = some (.row e rows true) := by
    intro k e rows hk
    have hne : ((65536, 1 + k) : Zf) ≠ K7 := by simp [K7]
    rw [hh, if_neg hne, if_pos ⟨rfl, by simp⟩]
    simp only [Nat.add_sub_cancel_left, hk]
  let E : En := ⟨w, A, fun x => x = g ∨ ∃ n, gs n = some x, some (g, q)⟩
  have hglt : g < w.heap.size := (Array.getElem?_eq_some_iff.1 hc).1
  obtain ⟨hvl, hfr⟩ := N9 (cx := cx0) (h := st0.h) (j := 1) hn hR1
  have hvsz : vs.size = avs.length + 1 := by
    have := congrArg List.length hvs
    simpa [hvl] using this
  have hr : Vn E N cx0 st0 { tmps := vs ++ Array.replicate (fn.ntmps - vs.size) undef, defers := [] } w := by
    refine ⟨rfl, by simp; omega, fun s => ?_, fun b bk hb => ?_, fun b b' g1 o g2 o' hb hb' hi hi' hne => ?_, fun b g1 o hb hi => ?_, fun x hx => ⟨hA x hx, .inl hx⟩, fun x hx => hx, fun _ _ _ => rfl, Nat.le_refl _, rfl, rfl, rfl, Nat.le_of_ble_eq_true hN2, hι0⟩
    · have e : st0.g s = (Ka ((0, .c (.ptr K7 0 0)) :: Lp 1 avs) s).getD (.c .any) := rfl
      rw [e]
      have hval : ∀ (i : Nat) (v : Value), vs.toList[i]? = some v → (vs ++ Array.replicate (fn.ntmps - vs.size) undef).getD i undef = v := by
        intro i v hv
        have hi := (List.getElem?_eq_some_iff.1 hv).1
        rw [Array.getD_eq_getD_getElem?, Array.getElem?_append_left (by simpa using hi)]
        rw [Array.getElem?_toList] at hv
        rw [hv]; rfl
      simp only [Ka]
      cases hb : Nat.beq 0 s with
      | true =>
        have := Nat.eq_of_beq_eq_true hb
        subst this
        show RT _ w _ _ ((vs ++ Array.replicate (fn.ntmps - vs.size) undef).getD 0 undef)
        rw [hval 0 (.pointer (some ⟨g, q, none⟩)) (by rw [hvs]; rfl)]
        refine ⟨.inr rfl, fun bk hbk => ⟨g, q, hι0, ?_⟩⟩
        simp
      | false =>
        simp only
        cases hl : Ka (Lp 1 avs) s with
        | none => exact ⟨.inl rfl, trivial⟩
        | some t =>
          obtain ⟨i, v, h1, h2, h3⟩ := hfr s t hl
          show RT _ w _ _ ((vs ++ Array.replicate (fn.ntmps - vs.size) undef).getD s undef)
          rw [hval s v (by rw [hvs, h1, Nat.add_comm, List.getElem?_cons_succ]; exact h2)]
          exact h3
    · by_cases e : b = K7
      · subst e
        rw [hh, if_pos rfl] at hb
        cases hb
        refine ⟨g, q, c, el, hι0, hc, hnA, by rw [Gc]; exact hsz, fun k x hx => ?_⟩
        rw [Ii, Option.map_eq_some_iff] at hx
        obtain ⟨y, hy, rfl⟩ := hx
        obtain ⟨u, hu, h3, h4⟩ := hua k y hy
        rw [Nat.zero_add] at h4
        have hu2 : c[q + k]? = some u := by
          rw [List.getElem?_take] at hu
          split at hu
          · rw [List.getElem?_drop, Array.getElem?_toList] at hu; exact hu
          · cases hu
        refine ⟨u, hu2, h3, ?_⟩
        cases y with
        | p p => exact h4
        | own e rows =>
          have hb2 := hown2 k e rows hy
          have hne : ((65536, 1 + k) : Zf) ≠ K7 := by simp [K7]
          obtain ⟨k2, e2, rows2, u2, h5, h6, h7, h8, h9, h10⟩ := hone _ _ hne hb2
          simp only [Prod.mk.injEq, true_and] at h5
          obtain rfl : k = k2 := by omega
          have : u = u2 := by
            have hh8 : us[k]? = some u2 := h8
            rw [show us[k]? = some u from hu] at hh8
            exact Option.some.inj hh8
          subst this
          exact If (cx := cx0) h4 hb2 h10
      · obtain ⟨k, e2, rows, u, rfl, h6, rfl, h8, h9, h10⟩ := hone b bk e hb
        exact Ig (cx := cx0) h9 h10
    · have hnew : ∀ b g1 o, b ≠ K7 → st0.h b ≠ none → cx0.ι b = some (g1, o) → ∃ k, b = (65536, 1 + k) ∧ gs k = some g1 := by
        intro b g1 o h1 h2 h3
        obtain ⟨bk, hbk⟩ := Option.ne_none_iff_exists'.1 h2
        obtain ⟨k, e2, rows, u, h5, h6, h7, h8, h9, h10⟩ := hone b bk h1 hbk
        rw [h10] at h3
        exact ⟨k, h5, (ιOf_in h3).1⟩
      by_cases e1 : b = K7 <;> by_cases e2 : b' = K7
      · exact absurd (e1.trans e2.symm) hne
      · rw [e1, hι0] at hi
        cases hi
        obtain ⟨k, _, h2⟩ := hnew b' g2 o' e2 hb' hi'
        exact fun e => (hgs k g2 h2).2 e.symm
      · rw [e2, hι0] at hi'
        cases hi'
        obtain ⟨k, _, h2⟩ := hnew b g1 o e1 hb hi
        exact (hgs k g1 h2).2
      · obtain ⟨k, h1, h2⟩ := hnew b g1 o e1 hb hi
        obtain ⟨k', h3, h4⟩ := hnew b' g2 o' e2 hb' hi'
        rintro rfl
        have := hinj k k' g1 h2 h4
        exact hne (by rw [h1, h3, this])
    · by_cases e1 : b = K7
      · rw [e1, hι0] at hi
        cases hi
        exact ⟨hglt, .inr (.inl rfl)⟩
      · obtain ⟨bk, hbk⟩ := Option.ne_none_iff_exists'.1 hb
        obtain ⟨k, e2, rows, u, h5, h6, h7, h8, h9, h10⟩ := hone b bk e1 hbk
        rw [h10] at hi
        have := (ιOf_in hi).1
        exact ⟨(hgs k g1 this).1, .inr (.inr ⟨k, this⟩)⟩
  refine calls_of_wp hf hb (wp_mono (h E _ _ _ hr) ?_)
  rintro e a' w' ⟨st', cx', ⟨he, ts, os, bs, cs', os', bs', h1, h2, h2b, h2c, h3, h4⟩, hr'⟩
  obtain ⟨vs', h5, h6, h7⟩ := HN hr' h1
  have hres := F5 (fn := fn) (rs := fn.results.toList) (by simp) h5
  have hnod := Ew h3
  have hdis := XV h4
  obtain ⟨hbl1, hol1⟩ := Mx h2
  obtain ⟨hbl2, hol2⟩ := CQ h2c
  have hbl : ∀ b ∈ bs ++ bs', st'.h b ≠ none := fun b hb => by
    rcases List.mem_append.1 hb with h | h
    · exact hbl1 b h
    · exact hbl2 b h
  have hol : ∀ b, some b ∈ os ++ os' → ∃ e rows, st'.h b = some (.row e rows true) := fun b hb => by
    rcases List.mem_append.1 hb with h | h
    · exact hol1 b h
    · exact hol2 b h
  have hpin : cx'.ι K7 = some (g, q) := hr'.pin
  let A' : Nat → Prop := fun x => cx'.A x ∨ ∃ b ∈ bs ++ bs', st'.h b ≠ none ∧ ∃ q, cx'.ι b = some (x, q)
  have hmut : ∀ b, some b ∈ os ++ os' → ∀ g q, cx'.ι b = some (g, q) → ¬ cx'.A g := by
    intro b hb g q hg
    obtain ⟨e1, rows, hbk⟩ := hol b hb
    obtain ⟨_, _, h8⟩ := hr'.bl b _ hbk
    rw [hg] at h8
    obtain ⟨_, c, el, fz, capR, _, h9, _⟩ := h8
    exact (h9 rfl).2
  have hlive : ∀ b, some b ∈ os ++ os' → st'.h b ≠ none := fun b hb => by obtain ⟨_, _, h⟩ := hol b hb; rw [h]; simp
  have hnA2 : ∀ b, some b ∈ os ++ os' → ∀ g q, cx'.ι b = some (g, q) → ¬ A' g := by
    rintro b hb g q hg (h | ⟨b2, hb2, hb2l, q2, hg2⟩)
    · exact hmut b hb g q hg h
    · refine hr'.inj b b2 g q g q2 (hlive b hb) hb2l hg hg2 ?_ rfl
      rintro rfl
      exact hdis b (List.mem_filterMap.2 ⟨some b, hb, rfl⟩) hb2
  have hpl : st'.h K7 ≠ none := by rw [h2b]; simp
  obtain ⟨g', o', c', el', h8, h9, h10, h11, h12⟩ := hr'.bl K7 _ h2b
  rw [hpin] at h8
  cases h8
  -- the pointer's variable is no list
  have hbrow : ∀ b ∈ bs ++ bs', ∃ e rows mu, st'.h b = some (.row e rows mu) := by
    have hCs : ∀ {cs xs os bs}, Wy st' cs xs os bs → ∀ b ∈ bs, ∃ e rows mu, st'.h b = some (.row e rows mu) := by
      intro cs xs os bs h
      induction h with
      | nil => simp
      | cons h hs ih =>
        intro b hb
        rcases List.mem_append.1 hb with hb | hb
        · exact Bn h b hb
        · exact ih b hb
    have hSs : ∀ {ts xs os bs}, Ic st' ts xs os bs → ∀ b ∈ bs, ∃ e rows mu, st'.h b = some (.row e rows mu) := by
      intro ts xs os bs h
      induction h with
      | nil => simp
      | cons h hs ih =>
        intro b hb
        rcases List.mem_append.1 hb with hb | hb
        · cases h with
          | c h => exact Bn h b hb
          | agg h => exact hCs h b hb
        · exact ih b hb
    intro b hb
    rcases List.mem_append.1 hb with h | h
    · exact hSs h2 b h
    · exact hCs h2c b h
  have hgA' : ¬ A' g := by
    rintro (h | ⟨b2, hb2, hb2l, q2, hg2⟩)
    · exact h10 h
    · refine hr'.inj K7 b2 g q g q2 hpl hb2l hpin hg2 ?_ rfl
      rintro rfl
      obtain ⟨_, _, _, h⟩ := hbrow _ hb2
      rw [h2b] at h
      cases h
  obtain ⟨hval, holen⟩ := Lq hr' (A' := A') (fun x hx => .inl hx) h2 (n := 0) (gs := fun n => Cb cx' (((os ++ os')[n]?).getD none)) (vs := vs') (fun b hb g q hg => .inr ⟨b, List.mem_append_left _ hb, hbl b (List.mem_append_left _ hb), q, hg⟩)
    (fun b hb g q hg => hnA2 b (List.mem_append_left _ hb) g q hg) (fun k o hk => by rw [Nat.zero_add, List.getElem?_append_left (List.getElem?_eq_some_iff.1 hk).1, hk]; rfl) h6 h7
  have hcl : cs'.length = out.length := (Ga h2c).1
  have hout := Bm hr' (A' := A') (fun x hx => .inl hx) (gs := fun n => Cb cx' (((os ++ os')[n]?).getD none)) h2c (n := (Zr r).length) (vs := (c'.toList.drop q).take cs'.length) (fun b hb g q hg => .inr ⟨b, List.mem_append_right _ hb, hbl b (List.mem_append_right _ hb), q, hg⟩)
    (fun b hb g q hg => hnA2 b (List.mem_append_right _ hb) g q hg) (fun k o hk => by
      rw [List.getElem?_append_right (by omega), show (Zr r).length + k - os.length = k by omega, hk]; rfl) (by simp only [List.length_take, List.length_drop, Array.length_toList]; omega) (fun i x hi => by
      obtain ⟨cv, h13, h14, h15⟩ := h12 i x hi
      have hil := (List.getElem?_eq_some_iff.1 hi).1
      exact ⟨cv, by rw [List.getElem?_take, if_pos hil, List.getElem?_drop, Array.getElem?_toList]; exact h13, h14, h15⟩)
  have hgo : ∀ (n x : Nat), Cb cx' (((os ++ os')[n]?).getD none) = some x → ∃ b q, (os ++ os')[n]? = some (some b) ∧ cx'.ι b = some (x, q) := by
    intro n x hx
    cases ho : (os ++ os')[n]? with
    | none => rw [ho] at hx; cases hx
    | some o =>
      rw [ho] at hx
      cases o with
      | none => cases hx
      | some b =>
        simp only [Cb, Option.getD_some, Option.bind_some, Option.map_eq_some_iff] at hx
        obtain ⟨⟨x', q⟩, h8, rfl⟩ := hx
        exact ⟨b, q, rfl, h8⟩
  have hfin : ∃ v, (results fn a'.tmps).run P w' = .ok v w' ∧ NU w' A' (fun n => Cb cx' (((os ++ os')[n]?).getD none)) r v := by
    refine ⟨_, hres, ?_⟩
    match r, vs', hval with
    | [], [], _ => exact ⟨#[], rfl, trivial⟩
    | [t], [v], h => exact h.1
    | t :: t2 :: r, v :: v2 :: vs, h => exact ⟨_, rfl, h⟩
    | [t], v :: v2 :: vs, h => exact h.2.elim
    | t :: t2 :: r, [v], h => exact h.2.elim
  obtain ⟨v, hv1, hv2⟩ := hfin
  have hlb : ∀ {n b}, (os ++ os')[n]? = some (some b) → st'.h b ≠ none := fun h => hlive _ (List.mem_of_getElem? h)
  have hR2 : a'.defers = [] ∧ ∃ v, (results fn a'.tmps).run P w' = .ok v w' ∧ ∃ v' A2 gs', Ending.returned v = .returned v' ∧ (∀ x, A x → A2 x) ∧ (∀ x, A2 x → A x ∨ x < w'.heap.size ∧ (w.heap.size ≤ x ∨ ∃ n, gs n = some x)) ∧ w.heap.size ≤ w'.heap.size ∧
      (∀ x, x < w.heap.size → x ≠ g → (∀ n, gs n ≠ some x) → w'.heap[x]? = w.heap[x]?) ∧ w'.os = w.os ∧ w'.tape = w.tape ∧ w'.output = w.output ∧ NV gs' ∧
      (∀ n x, gs' n = some x → x < w'.heap.size ∧ (((AV.ref cs :: avs).any AV.isRef) = true → x ≠ g) ∧ (w.heap.size ≤ x ∨ ∃ m, gs m = some x)) ∧ NU w' A2 gs' r v' ∧
      (((AV.ref cs :: avs).any AV.isRef) = true → ¬ A2 g ∧ ∃ c el, w'.heap[g]? = some (.cells c el (0, 0)) ∧ q + out.length ≤ c.size ∧ CM w' A2 gs' (Zr r).length out ((c.toList.drop q).take out.length)) := by
    refine ⟨hr'.defers, v, hv1, v, A', _, rfl, fun x hx => .inl (hr'.A0 x hx), ?_, hr'.sz, fun x hx h13 h14 => hr'.kept x hx (by rintro (h | ⟨n, h⟩); exact h13 h; exact h14 n h), hr'.os, hr'.tape, hr'.output, ?_, ?_, hv2, fun _ => ⟨hgA', c', el', h9, by rw [← hcl]; exact h11, by rw [← hcl]; exact hout⟩⟩
    · rintro x (h | ⟨b, hb, hbl', q2, hq⟩)
      · obtain ⟨h13, h14 | h14 | h14⟩ := hr'.A x h
        · exact .inl h14
        · exact .inr ⟨h13, .inl h14⟩
        · rcases h14 with h14 | h14
          · subst h14; exact absurd h h10
          · exact .inr ⟨h13, .inr h14⟩
      · obtain ⟨h13, h14 | h14⟩ := hr'.own b x q2 hbl' hq
        · exact .inr ⟨h13, .inl h14⟩
        · rcases h14 with h14 | h14
          · subst h14
            exact absurd (.inr ⟨b, hb, hbl', q2, hq⟩) hgA'
          · exact .inr ⟨h13, .inr h14⟩
    · intro n m x hx hy
      obtain ⟨b, q2, h13, h14⟩ := hgo n x hx
      obtain ⟨b2, q3, h15, h16⟩ := hgo m x hy
      by_cases hbb : b = b2
      · subst hbb; exact hnod n m b h13 h15
      · exact absurd rfl (hr'.inj b b2 x q2 x q3 (hlb h13) (hlb h15) h14 h16 hbb)
    · intro n x hx
      obtain ⟨b, q2, h13, h14⟩ := hgo n x hx
      obtain ⟨h15, h16⟩ := hr'.own b x q2 (hlb h13) h14
      have hxg : x ≠ g := by
        rintro rfl
        refine hr'.inj b K7 x q2 x q (hlb h13) hpl h14 hpin ?_ rfl
        rintro rfl
        obtain ⟨_, _, h⟩ := hol _ (List.mem_of_getElem? h13)
        rw [h2b] at h
        cases h
      refine ⟨h15, fun _ => hxg, ?_⟩
      rcases h16 with h16 | h16 | h16
      · exact .inl h16
      · exact absurd h16 hxg
      · exact .inr h16
  rcases he with rfl | rfl
  · exact hR2
  · exact hR2
end
def Lt (st : St) (d : Nat) (b : Zf) (r : List RS) (out : List RV) (dl fz : List Zf) : List (Zf × Option Bk) :=
  C1 d 0 (Zr r ++ out) ++ (b, some (.box (Ah d (Zr r).length out))) :: (dl.map (fun x => (x, none)) ++ UG st fz)
theorem PW (dl : List Zf) (b : Zf) : Uv (dl.map fun x => (x, (none : Option Bk))) b = if b ∈ dl then some none else none := by
  induction dl with
  | nil => rfl
  | cons c dl ih =>
    simp only [List.map_cons, Uv]
    by_cases h : c = b
    · subst h
      rw [ZN.2 rfl, if_pos (by simp)]
    · have : Xz c b = false := by
        cases hx : Xz c b with
        | false => rfl
        | true => exact absurd (ZN.1 hx) h
      rw [this]
      simp only
      rw [ih]
      by_cases hb : b ∈ dl
      · rw [if_pos hb, if_pos (List.mem_cons_of_mem _ hb)]
      · rw [if_neg hb, if_neg (by rw [List.mem_cons, not_or]; exact ⟨fun e => h e.symm, hb⟩)]
section
variable {E : En} {N : Nat} {cx : Cx} {st : St} {a : Act} {w w' : World} {P : Program} {T : Tb P} {ops : Array Oper} {o : Oper} {d : Nat} {ty : Nat} {pos : String} {af : Array Edge} {gd : Option (Nat × Bool)}
theorem My (hr : Vn E N cx st a w) (hd : ∀ d, o.dst = some d → d < N) (hdN : d < N) {r : List RS} {out : List RV} {us us2 : List Value} {v : Value} {A2 : Nat → Prop} {gs2 : Nat → Option Nat} {b : Zf} {cs : List CV} {g q : Nat} {dl fz : List Zf}
    (hb : st.h b = some (.box cs)) (hι : cx.ι b = some (g, q))
    (hfresh : ∀ (n e : Nat) (rows : List (List PV)), (Zr r ++ out)[n]? = some (.own e rows) → Y9 (d, n) st) (hA2 : ∀ x, cx.A x → A2 x)
    (hA2' : ∀ x, A2 x → cx.A x ∨ (w.heap.size ≤ x ∧ x < w'.heap.size) ∨ ∃ b ∈ fz ++ dl, st.h b ≠ none ∧ ∃ q, cx.ι b = some (x, q))
    (hfz : ∀ b ∈ fz, (∃ e rows mu, st.h b = some (.row e rows mu)) ∧ ∀ g q, cx.ι b = some (g, q) → A2 g) (hfd : ∀ b ∈ dl, b ∉ fz)
    (hdl : ∀ b ∈ dl, ∃ e rows, st.h b = some (.row e rows true))
    (hsz : w.heap.size ≤ w'.heap.size) (hkept : ∀ x, x < w.heap.size → x ≠ g → (∀ b ∈ dl, ∀ q, cx.ι b ≠ some (x, q)) → w'.heap[x]? = w.heap[x]?) (hos : w'.os = w.os) (htp : w'.tape = w.tape) (hou : w'.output = w.output)
    (hinj : NV gs2) (hgs : ∀ n x, gs2 n = some x → x < w'.heap.size ∧ x ≠ g ∧ (w.heap.size ≤ x ∨ ∃ b ∈ dl, ∃ q, cx.ι b = some (x, q))) (hval : CM w' A2 gs2 0 (Zr r) us)
    (hbox : ¬ A2 g ∧ ∃ c el, w'.heap[g]? = some (.cells c el (0, 0)) ∧ q + out.length ≤ c.size ∧ us2 = (c.toList.drop q).take out.length) (hval2 : CM w' A2 gs2 (Zr r).length out us2)
    (hrt : ∀ (cx : Cx) (h : Zf → Option Bk), (∀ k x u, (Zr r)[k]? = some x → us[k]? = some u → RC cx w' h (Py d k x) u) → RT cx w' h (IZ d r) v) :
    ∃ cx', Vn E N cx' (Ef.ap ⟨IZ d r, Lt st d b r out dl fz⟩ o st) (a.put o.dst v) w' := by
  have hcs : CM w' A2 gs2 0 (Zr r ++ out) (us ++ us2) := Na hval (by rw [Nat.zero_add]; exact hval2)
  obtain ⟨hul, hua⟩ := Bl hcs
  obtain ⟨hul1, hua1⟩ := Bl hval
  obtain ⟨hnA, cc, cel, hcc, hccs, hus2⟩ := hbox
  obtain ⟨g0, q0, c0, el0, hb1, hb2, hb3, hb4, hb5⟩ := hr.bl b _ hb
  rw [hι] at hb1
  cases hb1
  have hbl : st.h b ≠ none := by rw [hb]; simp
  have hdll : ∀ b ∈ dl, st.h b ≠ none := fun b hb => by obtain ⟨_, _, h⟩ := hdl b hb; rw [h]; simp
  have hdlA : ∀ b ∈ dl, ∀ x q, cx.ι b = some (x, q) → ¬ cx.A x := by
    intro b hb x q hx
    obtain ⟨e1, rows, hbk⟩ := hdl b hb
    obtain ⟨_, _, h8⟩ := hr.bl b _ hbk
    rw [hx] at h8
    obtain ⟨_, c, el, fz, capR, _, h9, _⟩ := h8
    exact (h9 rfl).2
  have hkeep : Vl cx.A w w' := ⟨hsz, fun x hA hx => hkept x hx (fun e => hb3 (e ▸ hA)) (fun b hb q hq => hdlA b hb x q hq hA)⟩
  have hbd : b ∉ dl := fun h => by obtain ⟨_, _, h⟩ := hdl b h; rw [hb] at h; cases h
  have hbf : b ∉ fz := fun h => by obtain ⟨⟨_, _, _, h⟩, _⟩ := hfz b h; rw [hb] at h; cases h
  generalize hL : Zr r ++ out = L at *
  let st' := Ef.ap ⟨IZ d r, Lt st d b r out dl fz⟩ o st
  -- the blocks behind
  have hh : ∀ x, st'.h x = match (if x.1 = d then L[x.2]? else none) with
      | some (.own e rows) => some (.row e rows true)
      | _ => if x = b then some (.box (Ah d (Zr r).length out)) else if x ∈ dl then none else if x ∈ fz then RD (st.h x) else st.h x := by
    intro x
    have key : (Uv ((b, some (Bk.box (Ah d (Zr r).length out))) :: (dl.map (fun x => (x, none)) ++ UG st fz) ++ st.H) x).getD none = if x = b then some (.box (Ah d (Zr r).length out)) else if x ∈ dl then none else if x ∈ fz then RD (st.h x) else st.h x := by
      simp only [List.cons_append, Uv]
      by_cases hx : x = b
      · subst hx
        rw [ZN.2 rfl, if_pos rfl]; rfl
      · have : Xz b x = false := by
          cases h : Xz b x with
          | false => rfl
          | true => exact absurd (ZN.1 h).symm hx
        rw [this, if_neg hx]
        simp only
        rw [List.append_assoc, VQ, VQ, PW, OI]
        by_cases h1 : x ∈ dl
        · rw [if_pos h1, if_pos h1]; rfl
        · rw [if_neg h1, if_neg h1]
          by_cases h2 : x ∈ fz
          · rw [if_pos h2, if_pos h2]; rfl
          · rw [if_neg h2, if_neg h2]; rfl
    show (Uv ((C1 d 0 (Zr r ++ out) ++ (b, some (Bk.box (Ah d (Zr r).length out))) :: (dl.map (fun x => (x, none)) ++ UG st fz)) ++ st.H) x).getD none = _
    rw [hL, List.append_assoc, VQ, WO]
    by_cases hx : x.1 = d
    · rw [if_pos ⟨hx, Nat.zero_le _⟩, if_pos hx, Nat.sub_zero]
      cases hy : L[x.2]? with
      | none => simp only [Option.none_or]; exact key
      | some y =>
        cases y with
        | p p => simp only [Option.none_or]; exact key
        | own e rows => rfl
    · rw [if_neg (fun h => hx h.1), if_neg hx]
      simp only [Option.none_or]
      exact key
  -- which are new
  let nw : Zf → Bool := fun b => match (if b.1 = d then L[b.2]? else none) with
    | some (.own _ _) => true
    | _ => false
  have hnw : ∀ b, nw b = true → ∃ n e rows, b = (d, n) ∧ L[n]? = some (.own e rows) := by
    intro b hb
    simp only [nw] at hb
    by_cases h1 : b.1 = d
    · rw [if_pos h1] at hb
      cases hx : L[b.2]? with
      | none => rw [hx] at hb; cases hb
      | some x =>
        rw [hx] at hb
        cases x with
        | p p => cases hb
        | own e rows => exact ⟨b.2, e, rows, by rw [← h1], hx⟩
    · rw [if_neg h1] at hb; cases hb
  have hnw2 : ∀ n e rows, L[n]? = some (.own e rows) → nw (d, n) = true := by
    intro n e rows h
    simp only [nw, if_true, h]
  have hnwn : ∀ x, nw x = true → st.h x = none := fun x hx => by
    obtain ⟨n, e, rows, rfl, h⟩ := hnw x hx
    exact (hfresh n e rows h).1
  have hold' : ∀ x, st.h x ≠ none → nw x = false := fun x hx => by
    cases h : nw x with
    | false => rfl
    | true => exact absurd (hnwn x h) hx
  have hh1 : ∀ x, nw x = false → st'.h x = if x = b then some (.box (Ah d (Zr r).length out)) else if x ∈ dl then none else if x ∈ fz then RD (st.h x) else st.h x := by
    intro x hx
    rw [hh]
    simp only [nw] at hx
    revert hx
    generalize (if x.1 = d then L[x.2]? else none) = y
    intro hx
    match y, hx with
    | none, _ => rfl
    | some (.p _), _ => rfl
    | some (.own _ _), hx => cases hx
  have hh2 : ∀ n e rows, L[n]? = some (.own e rows) → st'.h (d, n) = some (.row e rows true) := by
    intro n e rows h
    rw [hh]
    simp only [if_true, h]
  have hhb : st'.h b = some (.box (Ah d (Zr r).length out)) := by rw [hh1 b (hold' b hbl), if_pos rfl]
  -- what was live
  have hold : ∀ x, nw x = false → st'.h x ≠ none → st.h x ≠ none ∧ x ∉ dl := by
    intro x hx h
    rw [hh1 x hx] at h
    by_cases h1 : x = b
    · subst h1; exact ⟨hbl, hbd⟩
    · rw [if_neg h1] at h
      by_cases h2 : x ∈ dl
      · rw [if_pos h2] at h; exact absurd rfl h
      · rw [if_neg h2] at h
        refine ⟨?_, h2⟩
        split at h
        · intro e; rw [e] at h; exact h rfl
        · exact h
  let cx2 : Cx := ⟨fun b => if nw b = true then ιOf (gs2 b.2) (((us ++ us2)[b.2]?).getD undef) else cx.ι b, A2⟩
  have hι1 : ∀ b, nw b = true → cx2.ι b = ιOf (gs2 b.2) (((us ++ us2)[b.2]?).getD undef) := fun b h => by show (if nw b = true then _ else _) = _; rw [if_pos h]
  have hι2 : ∀ b, nw b = false → cx2.ι b = cx.ι b := fun b h => by show (if nw b = true then _ else _) = _; rw [if_neg (by rw [h]; simp)]
  have hnew : ∀ b g q, nw b = true → cx2.ι b = some (g, q) → gs2 b.2 = some g := by
    intro b g q h1 h2
    rw [hι1 b h1] at h2
    exact (ιOf_in h2).1
  -- an old block that stays is not touched
  have hstay : ∀ x gx qx, st.h x ≠ none → x ≠ b → x ∉ dl → cx.ι x = some (gx, qx) → w'.heap[gx]? = w.heap[gx]? := by
    intro x gx qx h1 h2 h3 h4
    refine hkept gx (hr.own x gx qx h1 h4).1 (hr.inj x b gx qx g q h1 hbl h4 hι h2) (fun y hy q' hq => ?_)
    exact hr.inj x y gx qx gx q' h1 (hdll y hy) h4 hq (fun e => h3 (e ▸ hy)) rfl
  have hown2 : ∀ k x u, L[k]? = some x → (us ++ us2)[k]? = some u → RC cx2 w' st'.h (Py d k x) u := by
    intro k x u hk hu
    obtain ⟨u', hu', h1, h2⟩ := hua k x hk
    rw [hu] at hu'
    cases hu'
    rw [Nat.zero_add] at h2
    cases x with
    | p p => exact h2
    | own e rows =>
      have hn := hnw2 k e rows hk
      exact If (cx := cx2) h2 (hh2 k e rows hk) (by rw [hι1 _ hn]; simp [hu])
  refine ⟨cx2, hr.step (ef := ⟨IZ d r, Lt st d b r out dl fz⟩) hd ((C1 d 0 L).map (·.1)) (fun x hx => ?_) hA2 (fun x hx => ?_) hkeep (fun x hx hM => ?_) hos htp hou (fun x hx => ?_) (fun x bk hx => ?_) (fun x x' gx qx gx' qx' hx hx' hi hi' hne => ?_) (fun x gx qx hx hi => ?_) ?_ ?_⟩
  · obtain ⟨y, hy⟩ := Es hx
    rw [WO] at hy
    split at hy
    · rename_i h1
      rw [Nat.sub_zero] at hy
      cases hz : L[x.2]? with
      | none => rw [hz] at hy; cases hy
      | some z =>
        rw [hz] at hy
        cases z with
        | p p => cases hy
        | own e rows =>
          have := hfresh x.2 e rows hz
          obtain ⟨b1, b2⟩ := x
          simp only at h1
          rw [← h1.1] at this
          exact this
    · cases hy
  · rcases hA2' x hx with h | h | ⟨y, hy, hyl, q, hq⟩
    · exact .inl h
    · exact .inr ⟨h.2, .inl (Nat.le_trans hr.sz h.1)⟩
    · obtain ⟨h1, h2⟩ := hr.own y x q hyl hq
      exact .inr ⟨Nat.lt_of_lt_of_le h1 hsz, h2⟩
  · refine hkept x (Nat.lt_of_lt_of_le hx hr.sz) (fun e => ?_) (fun y hy q' hq => ?_)
    · subst e
      rcases (hr.own b x q hbl hι).2 with h | h
      · omega
      · exact hM h
    · rcases (hr.own y x q' (hdll y hy) hq).2 with h | h
      · omega
      · exact hM h
  · have hb' : nw x = false := by
      cases h : nw x with
      | false => rfl
      | true =>
        obtain ⟨n, e, rows, rfl, h1⟩ := hnw x h
        exfalso
        refine hx ?_
        have := WO d L 0 (d, n)
        rw [if_pos ⟨rfl, Nat.zero_le _⟩, Nat.sub_zero, h1] at this
        exact List.mem_map.2 ⟨_, Ym this, rfl⟩
    intro bk' hbk
    by_cases h1 : x = b
    · subst h1
      rw [hhb] at hbk
      cases hbk
      refine ⟨_, hb, rfl, Nat.le_refl _, hι2 x hb', fun gx qx c el fz' h4 h5 => ?_⟩
      rw [hι] at h4
      cases h4
      exact ⟨_, _, _, hcc, fun h => by simp [Bk.e] at h⟩
    · obtain ⟨hl1, hl2⟩ := hold x hb' (by rw [show (Ef.ap ⟨IZ d r, Lt st d b r out dl fz⟩ o st).h x = some bk' from hbk]; simp)
      have hbk2 : st'.h x = some bk' := hbk
      rw [hh1 x hb', if_neg h1, if_neg hl2] at hbk2
      have hex : ∃ bk, st.h x = some bk ∧ bk.e = bk'.e ∧ bk.len ≤ bk'.len := by
        split at hbk2
        · rename_i hf
          obtain ⟨⟨e, rows, mu, h1⟩, _⟩ := hfz x hf
          rw [h1] at hbk2 ⊢
          cases hbk2
          exact ⟨_, rfl, rfl, Nat.le_refl _⟩
        · exact ⟨bk', hbk2, rfl, Nat.le_refl _⟩
      obtain ⟨bk, h3, h4, h5⟩ := hex
      refine ⟨bk, h3, h4, h5, hι2 x hb', fun gx qx c el fz' h6 h7 => ⟨c, el, fz', ?_, fun _ => rfl⟩⟩
      rw [hstay x gx qx hl1 h1 hl2 h6]; exact h7
  · have hx0 : st'.h x = some bk := hx
    cases hb' : nw x with
    | true =>
      obtain ⟨n, e, rows, rfl, h1⟩ := hnw x hb'
      rw [hh2 n e rows h1] at hx0
      cases hx0
      obtain ⟨u, hu, h2, h3⟩ := hua n _ h1
      refine .inr (Ig (cx := cx2) (go := gs2 n) (u := u) ?_ ?_)
      · rw [Nat.zero_add] at h3; exact h3
      · rw [hι1 _ hb']; simp [hu]
    | false =>
      by_cases h1 : x = b
      · subst h1
        rw [hhb] at hx0
        cases hx0
        refine .inr ⟨g, q, cc, cel, by rw [hι2 x hb', hι], hcc, hnA, by rw [Gc]; exact hccs, fun k y hk => ?_⟩
        rw [Ii, Option.map_eq_some_iff] at hk
        obtain ⟨z, hz, rfl⟩ := hk
        have hLk : L[(Zr r).length + k]? = some z := by
          rw [← hL, List.getElem?_append_right (by omega)]
          rw [show (Zr r).length + k - (Zr r).length = k by omega]; exact hz
        obtain ⟨u, hu, h2, h3⟩ := hua _ z hLk
        have hu2 : cc[q + k]? = some u := by
          have hu3 := hu
          rw [List.getElem?_append_right (by omega), hul1, show (Zr r).length + k - (Zr r).length = k by omega, hus2, List.getElem?_take] at hu3
          split at hu3
          · rw [List.getElem?_drop, Array.getElem?_toList] at hu3; exact hu3
          · cases hu3
        exact ⟨u, hu2, h2, hown2 _ z u hLk hu⟩
      · obtain ⟨hl1, hl2⟩ := hold x hb' (by rw [hx0]; simp)
        have hx1 := hx0
        rw [hh1 x hb', if_neg h1, if_neg hl2] at hx1
        split at hx1
        · rename_i hf
          obtain ⟨⟨e, rows, mu, h3⟩, h4⟩ := hfz x hf
          rw [h3] at hx1
          cases hx1
          right
          obtain ⟨h5, h6, h7⟩ := hr.bl x _ h3
          refine ⟨h5, h6, ?_⟩
          rw [hι2 x hb']
          revert h7
          cases hi : cx.ι x with
          | none => exact id
          | some y =>
            obtain ⟨gx, qx⟩ := y
            rintro ⟨rfl, c, el, fz', capR, h8, h9, h10, h11, h12, h13, h14⟩
            exact ⟨rfl, c, el, fz', capR, by rw [hstay x gx 0 hl1 h1 hl2 hi]; exact h8, (fun h => by cases h), fun _ => h4 gx 0 hi, h11, h12, h13, fun i r k p hi hk => let ⟨cv, hcv, hp⟩ := h14 i r k p hi hk; ⟨cv, hcv, hp.keeps hA2 hkeep⟩⟩
        · rename_i hf
          refine .inl ⟨?_, hx1, hι2 x hb', fun gx qx hi => ?_⟩
          · intro hm
            obtain ⟨y, hy⟩ := Es hm
            rw [WO] at hy
            split at hy
            · rename_i h1
              rw [Nat.sub_zero] at hy
              simp only [nw] at hb'
              rw [if_pos h1.1] at hb'
              revert hb' hy
              generalize L[x.2]? = z
              intro hb' hy
              match z, hb', hy with
              | none, _, hy => cases hy
              | some (.p _), _, hy => cases hy
              | some (.own _ _), hb', _ => cases hb'
            · cases hy
          · refine ⟨hstay x gx qx hl1 h1 hl2 hi, fun hnA hA => ?_⟩
            rcases hA2' gx hA with h | h | ⟨y, hy, hyl, q2, hq2⟩
            · exact hnA h
            · have := (hr.own x gx qx hl1 hi).1
              omega
            · refine hr.inj x y gx qx gx q2 hl1 hyl hi hq2 ?_ rfl
              rintro rfl
              rcases List.mem_append.1 hy with hy | hy
              · exact hf hy
              · exact hl2 hy
  · have hmix : ∀ x x' gx qx gx' qx', nw x = true → nw x' = false → st'.h x' ≠ none → cx2.ι x = some (gx, qx) → cx2.ι x' = some (gx', qx') → gx ≠ gx' := by
      intro x x' gx qx gx' qx' h1 h2 h3 h4 h5 e
      subst e
      obtain ⟨h6, h7, h8⟩ := hgs _ _ (hnew x gx qx h1 h4)
      obtain ⟨hl1, hl2⟩ := hold x' h2 h3
      rw [hι2 x' h2] at h5
      rcases h8 with h8 | ⟨y, hy, q', hq⟩
      · have := (hr.own x' gx qx' hl1 h5).1
        omega
      · refine hr.inj x' y gx qx' gx q' hl1 (hdll y hy) h5 hq ?_ rfl
        rintro rfl
        exact hl2 hy
    cases h1 : nw x <;> cases h2 : nw x'
    · rw [hι2 x h1] at hi
      rw [hι2 x' h2] at hi'
      exact hr.inj x x' gx qx gx' qx' (hold x h1 hx).1 (hold x' h2 hx').1 hi hi' hne
    · exact fun e => hmix x' x gx' qx' gx qx h2 h1 hx hi' hi e.symm
    · exact hmix x x' gx qx gx' qx' h1 h2 hx' hi hi'
    · have e1 := hnew x gx qx h1 hi
      have e2 := hnew x' gx' qx' h2 hi'
      obtain ⟨n, e, rows, rfl, _⟩ := hnw x h1
      obtain ⟨n', e', rows', rfl, _⟩ := hnw x' h2
      rintro rfl
      have := hinj n n' gx e1 e2
      exact hne (by rw [this])
  · cases h1 : nw x with
    | true =>
      obtain ⟨h5, h6, h7⟩ := hgs _ _ (hnew x gx qx h1 hi)
      refine ⟨h5, ?_⟩
      rcases h7 with h7 | ⟨y, hy, q', hq⟩
      · exact .inl (Nat.le_trans hr.sz h7)
      · exact (hr.own y gx q' (hdll y hy) hq).2
    | false =>
      rw [hι2 x h1] at hi
      obtain ⟨h3, h4⟩ := hr.own x gx qx (hold x h1 hx).1 hi
      exact ⟨Nat.lt_of_lt_of_le h3 hsz, h4⟩
  · refine hrt cx2 _ (fun k x u hk hu => ?_)
    have hkl := (List.getElem?_eq_some_iff.1 hk).1
    exact hown2 k x u (by rw [← hL, List.getElem?_append_left hkl]; exact hk) (by rw [List.getElem?_append_left (by omega)]; exact hu)
  · refine hι2 K7 ?_
    cases h : nw K7 with
    | false => rfl
    | true =>
      obtain ⟨n, e, rows, h1, _⟩ := hnw K7 h
      have := hr.hN
      simp only [K7, Prod.mk.injEq] at h1
      omega
theorem Mz {st' : St} {cs : List CV} {xs : List RV} {os : List (Option Zf)} {bs : List Zf} (h : Wy st cs xs os bs) (hb : ∀ b ∈ os.filterMap id ++ bs, st'.h b = st.h b) : Wy st' cs xs os bs := by
  induction h with
  | nil => exact .nil
  | @cons c x o b cs xs os bs h hs ih =>
    refine .cons ?_ (ih fun x hx => hb x ?_)
    · cases h with
      | p x => exact .p x
      | nil e => exact .nil e
      | nilo e he => exact .nilo e he
      | own h1 h2 => exact .own (by rw [hb _ (by simp)]; exact h1) h2
      | fr h1 h2 => exact .fr (by rw [hb _ (by simp)]; exact h1) h2
    · cases o with
      | none => simp only [List.mem_append] at hx ⊢; rcases hx with hx | hx; exact .inl hx; exact .inr (.inr hx)
      | some o => simp only [List.filterMap_cons, id, List.mem_append, List.mem_cons] at hx ⊢; rcases hx with hx | hx; exact .inl (.inr hx); exact .inr (.inr hx)
theorem RE {os : List (Option Zf)} {b : Zf} (h : b ∈ os.filterMap id) : some b ∈ os := by
  obtain ⟨y, h1, h2⟩ := List.mem_filterMap.1 h
  rw [show y = some b from h2] at h1
  exact h1
theorem Zc {f : FuncId} {xs : Array Operand} {x0 : Operand} {xr : List Operand} {tys : Array TypeId} {avs : List AV} {r : List RS} {out rvs : List RV} {b : Zf} {cs : List CV} {os : List (Option Zf)} {bs1 bs2 ids : List Zf} {bl : List (Zf × Option Bk)} {t : TV}
    (hcon : Qq P f (.ref rvs :: avs) r out) (hn : avs.any AV.isRef = false) (hxs : xs.toList = x0 :: xr) (hok : xs.toList.all ZX = true) (h0 : st.ev x0 = .c (.ptr b 0 0)) (hb : st.h b = some (.box cs)) (hcs : Wy st cs rvs os bs1) (hargs : Gb st (xr.map st.ev) avs bs2)
    (hnod : Mu os = true) (hdis : GZ (os.filterMap id) (bs1 ++ bs2) = true) (hids : (C1 d 0 (Zr r ++ out)).map (·.1) = ids) (hbl : Lt st d b r out (os.filterMap id) (bs1 ++ bs2) = bl) (ht : IZ d r = t) :
    KS E N P ops ⟨some d, .call { callee := .value (.func f), args := xs, argTypes := tys }, ty, pos, af, gd⟩ st ⟨b :: (os.filterMap id ++ (bs1 ++ bs2)), ids⟩ ⟨t, bl⟩ := by
  subst hids
  subst hbl
  subst ht
  intro st' ha hf hd cx a w Q hr
  have hbe : ∀ x ∈ os.filterMap id ++ (bs1 ++ bs2), st'.h x = st.h x := fun x hx => ha.2 x (List.mem_cons_of_mem _ hx)
  have hb' : st'.h b = some (.box cs) := by rw [ha.2 b List.mem_cons_self]; exact hb
  have hcs' : Wy st' cs rvs os bs1 := Mz hcs fun x hx => hbe x (by
    rcases List.mem_append.1 hx with h | h
    · exact List.mem_append_left _ h
    · exact List.mem_append_right _ (List.mem_append_left _ h))
  have hargs' := CP hargs (st' := st') fun x hx => hbe x (List.mem_append_right _ (List.mem_append_right _ hx))
  have hCs : ∀ {cs xs os bs}, Wy st' cs xs os bs → ∀ b ∈ bs, ∃ e rows mu, st'.h b = some (.row e rows mu) := by
    intro cs xs os bs h
    induction h with
    | nil => simp
    | cons h hs ih =>
      intro b hb
      rcases List.mem_append.1 hb with hb | hb
      · exact Bn h b hb
      · exact ih b hb
  have hlive : ∀ x ∈ bs1 ++ bs2, ∃ e rows mu, st'.h x = some (.row e rows mu) := fun x hx => by
    rcases List.mem_append.1 hx with h | h
    · exact hCs hcs' x h
    · exact Ex hargs' x h
  have hdl : ∀ x ∈ os.filterMap id, ∃ e rows, st'.h x = some (.row e rows true) := fun x hx => (CQ hcs').2 x (RE hx)
  have hdis' := XV hdis
  have hnod' := Ew hnod
  have hbn : ∀ x ∈ bs1 ++ bs2, st'.h x ≠ none := fun x hx => by obtain ⟨_, _, _, h⟩ := hlive x hx; rw [h]; simp
  have hdn : ∀ x ∈ os.filterMap id, st'.h x ≠ none := fun x hx => by obtain ⟨_, _, h⟩ := hdl x hx; rw [h]; simp
  have hbne : st'.h b ≠ none := by rw [hb']; simp
  obtain ⟨g, q, c, el, hι, hgc, hgA, hgl, hgat⟩ := hr.bl b _ hb'
  let A2 : Nat → Prop := fun x => cx.A x ∨ ∃ y ∈ bs1 ++ bs2, st'.h y ≠ none ∧ ∃ q, cx.ι y = some (x, q)
  let gs : Nat → Option Nat := fun n => Cb cx ((os[n]?).getD none)
  have hgs : ∀ n x, gs n = some x → ∃ y q, os[n]? = some (some y) ∧ cx.ι y = some (x, q) := by
    intro n x hx
    simp only [gs] at hx
    cases ho : os[n]? with
    | none => rw [ho] at hx; cases hx
    | some o =>
      rw [ho] at hx
      cases o with
      | none => cases hx
      | some y =>
        simp only [Cb, Option.getD_some, Option.bind_some, Option.map_eq_some_iff] at hx
        obtain ⟨⟨x', q⟩, h8, rfl⟩ := hx
        exact ⟨y, q, rfl, h8⟩
  have hod : ∀ {n : Nat} {y : Zf}, os[n]? = some (some y) → y ∈ os.filterMap id := fun h => List.mem_filterMap.2 ⟨some _, List.mem_of_getElem? h, rfl⟩
  have hmut : ∀ y, y ∈ os.filterMap id → ∀ g q, cx.ι y = some (g, q) → ¬ A2 g := by
    intro y hy g q hg
    obtain ⟨e1, rows, hbk⟩ := hdl y hy
    obtain ⟨_, _, h8⟩ := hr.bl y _ hbk
    rw [hg] at h8
    obtain ⟨_, c, el, fz, capR, _, h9, _⟩ := h8
    rintro (h | ⟨z, hz, hzl, q2, hq2⟩)
    · exact (h9 rfl).2 h
    · refine hr.inj y z g q g q2 (hdn y hy) hzl hg hq2 ?_ rfl
      rintro rfl
      exact hdis' y hy hz
  have hnbx : ∀ y e rows mu, st'.h y = some (.row e rows mu) → y ≠ b := fun y e rows mu h e' => by subst e'; rw [hb'] at h; cases h
  have hgA2 : ¬ A2 g := by
    rintro (h | ⟨z, hz, hzl, q2, hq2⟩)
    · exact hgA h
    · obtain ⟨_, _, _, h⟩ := hlive z hz
      exact hr.inj z b g q2 g q hzl hbne hq2 hι (hnbx z _ _ _ h) rfl
  have hcl := Ga hcs'
  have hAsz : ∀ x, A2 x → x < w.heap.size := by
    rintro x (h | ⟨y, hy, hyl, q, hq⟩)
    · exact (hr.A x h).1
    · exact (hr.own y x q hyl hq).1
  have hev : ∀ x ∈ xs.toList, RT cx w st'.h (st.ev x) (a.eval x) := by
    intro x hx
    rw [← Jh ha (x := x) (by simp only [Op.operands, Call.operands]; simp at hx ⊢; exact .inr hx)]
    exact hr.ev (List.all_eq_true.1 hok x hx)
  have hAs : Mr w A2 gs g q (.ref rvs :: avs) (xs.map a.eval).toList := by
    rw [Array.toList_map, hxs, List.map_cons]
    refine ⟨⟨?_, c, el, hgc, hgA2, by rw [← hcl.1]; exact hgl, ?_⟩, ?_⟩
    · have h1 := hev x0 (by rw [hxs]; exact List.mem_cons_self)
      rw [h0] at h1
      obtain ⟨g', o', h2, h3⟩ := h1.2 _ hb'
      rw [hι] at h2
      cases h2
      rw [h3]
      simp
    · refine Bm hr (fun x hx => .inl hx) hcs' (n := 0) (fun y hy g q hg => .inr ⟨y, List.mem_append_left _ hy, hbn y (List.mem_append_left _ hy), q, hg⟩) (fun y hy g q hg => hmut y (List.mem_filterMap.2 ⟨_, hy, rfl⟩) g q hg) (fun k o hk => by simp only [gs, Nat.zero_add, hk]; rfl) ?_ (fun i x hi => ?_)
      · simp only [List.length_take, List.length_drop, Array.length_toList]; omega
      · obtain ⟨cv, h13, h14, h15⟩ := hgat i x hi
        have hil := (List.getElem?_eq_some_iff.1 hi).1
        exact ⟨cv, by rw [List.getElem?_take, if_pos (by omega), List.getElem?_drop, Array.getElem?_toList]; exact h13, h14, h15⟩
    · refine Gf hr (fun x hx => .inl hx) hargs' (fun y hy g q hg => .inr ⟨y, List.mem_append_right _ hy, hbn y (List.mem_append_right _ hy), q, hg⟩) (by simp) (fun i t hi => ?_)
      rw [List.getElem?_map, Option.map_eq_some_iff] at hi
      obtain ⟨x, hx, rfl⟩ := hi
      exact ⟨a.eval x, by rw [List.getElem?_map, hx]; rfl, hev x (by rw [hxs]; exact List.mem_cons_of_mem _ (List.mem_of_getElem? hx))⟩
  unfold Oper.wp
  rw [Ge hcon.ent, Oper.upon_enter]
  have hrf : (AV.ref rvs :: avs).any AV.isRef = true := rfl
  refine (hcon.run A2 gs g q w (xs.map a.eval) hAsz ?_ ?_ (fun h => by rw [hrf] at h; cases h) hAs).mono ?_
  · intro n m x hx hy
    obtain ⟨b1, q1, h1, h2⟩ := hgs n x hx
    obtain ⟨b2, q2, h3, h4⟩ := hgs m x hy
    by_cases hbb : b1 = b2
    · subst hbb; exact hnod' n m b1 h1 h3
    · exact absurd rfl (hr.inj b1 b2 x q1 x q2 (hdn _ (hod h1)) (hdn _ (hod h3)) h2 h4 hbb)
  · intro n x hx
    obtain ⟨y, q1, h1, h2⟩ := hgs n x hx
    obtain ⟨_, _, h3⟩ := hdl y (hod h1)
    exact ⟨(hr.own y x q1 (hdn _ (hod h1)) h2).1, hr.inj y b x q1 g q (hdn _ (hod h1)) hbne h2 hι (hnbx y _ _ _ h3)⟩
  rintro e w' ⟨v, A', gs', rfl, h1, h2, h3, h4, h5, h6, h7, h8, h9, h10, h11⟩
  obtain ⟨h12, c', el', h13, h14, h15⟩ := h11 hrf
  obtain ⟨us, hus, hrt⟩ := Gd (d := d) h10
  show ∃ cx', _
  have hfl : Lt st d b r out (os.filterMap id) (bs1 ++ bs2) = Lt st' d b r out (os.filterMap id) (bs1 ++ bs2) := by
    unfold Lt
    rw [show UG st (bs1 ++ bs2) = UG st' (bs1 ++ bs2) from List.map_congr_left fun x hx => by rw [hbe x (List.mem_append_right _ hx)]]
  rw [hfl]
  refine My hr hd (hd d rfl) (fz := bs1 ++ bs2) (dl := os.filterMap id) (gs2 := gs') (us := us) (A2 := A') hb' hι (fun n e rows hx => hf (d, n) ?_) (fun x hx => h1 x (.inl hx)) (fun x hx => ?_) (fun y hy => ⟨hlive y hy, fun g q hg => h1 g (.inr ⟨y, hy, hbn y hy, q, hg⟩)⟩) hdis' hdl h3
    (fun x hx hxg hxd => h4 x hx hxg (fun n h => ?_)) h5 h6 h7 h8 (fun n x hx => ?_) hus ⟨h12, c', el', h13, h14, rfl⟩ h15 hrt
  · have := WO d (Zr r ++ out) 0 (d, n)
    rw [if_pos ⟨rfl, Nat.zero_le _⟩, Nat.sub_zero, hx] at this
    exact List.mem_map.2 ⟨_, Ym this, rfl⟩
  · rcases h2 x hx with (h | ⟨y, hy, hyl, q, hq⟩) | ⟨h, h' | ⟨n, h'⟩⟩
    · exact .inl h
    · exact .inr (.inr ⟨y, List.mem_append_left _ hy, hyl, q, hq⟩)
    · exact .inr (.inl ⟨h', h⟩)
    · obtain ⟨y, q', h16, h17⟩ := hgs n x h'
      exact .inr (.inr ⟨y, List.mem_append_right _ (hod h16), hdn _ (hod h16), q', h17⟩)
  · obtain ⟨y, q', h16, h17⟩ := hgs n x h
    exact hxd y (hod h16) q' h17
  · obtain ⟨h16, h17, h18 | ⟨m, h18⟩⟩ := h9 n x hx
    · exact ⟨h16, h17 hrf, .inl h18⟩
    · obtain ⟨y, q', h19, h20⟩ := hgs m x h18
      exact ⟨h16, h17 hrf, .inr ⟨y, hod h19, q', h20⟩⟩
end
section
variable {E : En} {N : Nat} {P : Program} {st : St} {ops : Array Oper} {d : Nat} {ty : Nat} {pos : String} {af : Array Edge} {gd : Option (Nat × Bool)}
theorem QJ {x : Operand} {y : List TV} (hx : st.ev x = .tup y) (hc : ZX x = true) : KS E N P ops ⟨some d, .move x, ty, pos, af, gd⟩ st ⟨[], []⟩ ⟨.tup y, []⟩ := Lg hc hx
end
section
variable {w w' : World} {P : Program} {A : Nat → Prop} {gs : Nat → Option Nat} {g q : Nat}
end
section
variable {E : En} {N : Nat} {P : Program} {T : Tb P} {st : St} {ops : Array Oper} {d : Nat} {ty : Nat} {pos : String} {af : Array Edge} {gd : Option (Nat × Bool)}
theorem Lu {x y : Operand} {t : TypeId} {te : TE} {b : Zf} {k : Nat} {all all' : List CV} {v : CV} {dst : Option Nat} (hx : st.ev x = .c (.ptr b 0 k)) (hb : st.h b = some (.box all)) (hv : st.ev y = .c v) (hk : TV.known (.c v) = true) (ht : Ka T.ty t = some te) (hsz : 1 = te.size) (hin : Nat.ble (k + 1) all.length = true)
    (hall : setAt all k [v] = all') (hcx : ZX x = true) (hcy : ZX y = true) : KS E N P ops ⟨dst, .store t x y, ty, pos, af, gd⟩ st ⟨[b], []⟩ ⟨.c .any, [(b, some (.box all'))]⟩ := Fj hx hb hv hk ht hsz (Nat.le_of_ble_eq_true hin) hall hcx hcy
theorem Lv {x y : Operand} {t : TypeId} {te : TE} {b : Zf} {k : Nat} {all all' cs : List CV} {dst : Option Nat} (hx : st.ev x = .c (.ptr b 0 k)) (hb : st.h b = some (.box all)) (hv : st.ev y = .agg cs) (ht : Ka T.ty t = some te) (hsz : cs.length = te.size) (hin : Nat.ble (k + cs.length) all.length = true)
    (hall : setAt all k cs = all') (hcx : ZX x = true) (hcy : ZX y = true) : KS E N P ops ⟨dst, .store t x y, ty, pos, af, gd⟩ st ⟨[b], []⟩ ⟨.c .any, [(b, some (.box all'))]⟩ := Fl hx hb hv ht hsz (Nat.le_of_ble_eq_true hin) hall hcx hcy
end
def Gi (pl : Nat → Option (Nat × Nat)) : List CV → List (Nat × TV) → Option (List CV)
  | cs, [] => some cs
  | cs, (i, t) :: r => match pl i with
    | none => none
    | some (off, size) => match Nat.beq t.cells.length size && Nat.ble (off + t.cells.length) cs.length && t.known with
      | true => Gi pl (setAt cs off t.cells) r
      | false => none
def O0 (tb : List (Nat × TE)) : List (Nat × Nat) → Option (List (Nat × Nat))
  | [] => some []
  | (o, t) :: r => match Ka tb t with
    | none => none
    | some te => match O0 tb r with
      | none => none
      | some l => some ((o, te.size) :: l)
section
variable {E : En} {N : Nat} {P : Program} {T : Tb P} {ops : Array Oper} {o : Oper} {st : St} {d : Nat} {ty : Nat} {pos : String} {af : Array Edge} {gd : Option (Nat × Bool)} {cx : Cx} {a : Act} {w w' : World}
theorem Nb : ∀ {fs : List (Nat × Nat)} {pl : List (Nat × Nat)} (F : List Field), O0 T.ty fs = some pl → F.map (fun f => (f.offset, f.type)) = fs → F.mapM (fun f => (P.info? f.type).map fun i => (f.offset, i.size)) = some pl
  | [], pl, F, h, hF => by
    have : F = [] := by simpa using hF
    subst this
    simp only [O0, Option.some.injEq] at h
    subst h; rfl
  | (o, t) :: fs, pl, F, h, hF => by
    cases F with
    | nil => simp at hF
    | cons f F =>
      simp only [List.map_cons, List.cons.injEq, Prod.mk.injEq] at hF
      obtain ⟨⟨rfl, rfl⟩, hF⟩ := hF
      simp only [O0] at h
      cases ht : Ka T.ty f.type with
      | none => rw [ht] at h; cases h
      | some te =>
        rw [ht] at h
        simp only at h
        cases hp : O0 T.ty fs with
        | none => rw [hp] at h; cases h
        | some l =>
          rw [hp] at h
          cases h
          have ih := Nb F hp hF
          obtain ⟨dd, i, h1, h2, h3, h4, h5, h6⟩ := Vs (T.ok _ _ ht)
          simp only [List.mapM_cons, ih, h2, Option.map_some, h4]
          rfl
theorem DJ {h : Zf → Option Bk} {pl : Nat → Option (Nat × Nat)} : ∀ {ps : List (Nat × TV)} {vs : List (Nat × Value)} {cs cs' : List CV} {cells : Array Value}, Gi pl cs ps = some cs' → RL cx w h cs cells → vs.length = ps.length →
    (∀ (k i : Nat) (t : TV), ps[k]? = some (i, t) → ∃ v, vs[k]? = some (i, v) ∧ RT cx w h t v) → ∃ cells', Instr.fill pl cells vs = some cells' ∧ RL cx w h cs' cells' := by
  intro ps
  induction ps with
  | nil =>
    intro vs cs cs' cells h1 h2 h3 h4
    have : vs = [] := List.eq_nil_of_length_eq_zero (by simpa using h3)
    subst this
    cases h1
    exact ⟨cells, rfl, h2⟩
  | cons p ps ih =>
    intro vs cs cs' cells h1 h2 h3 h4
    obtain ⟨i, t⟩ := p
    obtain ⟨v, hv, hrt⟩ := h4 0 i t rfl
    cases vs with
    | nil => simp at h3
    | cons v0 vs =>
      rw [List.getElem?_cons_zero] at hv
      cases hv
      simp only [Gi] at h1
      cases hp : pl i with
      | none => rw [hp] at h1; cases h1
      | some y =>
        obtain ⟨off, size⟩ := y
        rw [hp] at h1
        simp only at h1
        split at h1
        case h_2 => cases h1
        rename_i hc
        simp only [Bool.and_eq_true] at hc
        obtain ⟨⟨hc1, hc2⟩, hc3⟩ := hc
        have hc1 := Nat.eq_of_beq_eq_true hc1
        have hc2 := Nat.le_of_ble_eq_true hc2
        have hrl := UX hc3 hrt
        have hsz : v.cells.size = t.cells.length := hrl.1
        obtain ⟨g1, g2⟩ := Great.foldl_set off v.cells.toList 0 cells
        have hstep : RL cx w h (setAt cs off t.cells) ((v.cells.toList.zipIdx 0).foldl (fun cs (x : Value × Nat) => cs.setIfInBounds (off + x.2) x.1) cells) := by
          refine ⟨by rw [g1, C0 _ _ _ hc2]; exact h2.1, fun k c hk => ?_⟩
          rw [U8 _ _ _ hc2] at hk
          rw [g2 k, Nat.add_zero, Array.length_toList, hsz]
          have hcsz := h2.1
          by_cases hkk : k < off ∨ off + t.cells.length ≤ k
          · rw [if_pos hkk] at hk
            rw [if_neg (by omega)]
            exact h2.2 k c hk
          · rw [if_neg hkk] at hk
            rw [if_pos (by omega), Array.getElem?_toList]
            exact hrl.2 _ c hk
        obtain ⟨cells', h5, h6⟩ := ih h1 hstep (by simpa using h3) (fun k i t hk => h4 (k + 1) i t (by simpa using hk))
        refine ⟨cells', ?_, h6⟩
        unfold Instr.fill
        simp only [hp]
        rw [if_neg (by simp [hsz, hc1]; have := h2.1; omega)]
        rw [← h5]
        congr 1
        rw [← Array.foldl_toList, Array.toList_zipIdx]
theorem C3 {rb : List Zf} {parts : Array (Nat × Operand)} {st' : St} (hr : Vn E N cx st' a w) (ha : Agree ops o ⟨rb, []⟩ st st') (hm : ∀ x ∈ parts.toList, x.2 ∈ o.op.operands.toList) (hok : parts.toList.all (fun x => ZX x.2) = true) :
    ∀ (k i : Nat) (t : TV), (parts.toList.map fun x => (x.1, st.ev x.2))[k]? = some (i, t) → ∃ v, (parts.map fun (i, x) => (i, a.eval x)).toList[k]? = some (i, v) ∧ RT cx w st'.h t v := by
  intro k i t hk
  rw [List.getElem?_map, Option.map_eq_some_iff] at hk
  obtain ⟨⟨j, x⟩, hx, hxe⟩ := hk
  simp only [Prod.mk.injEq] at hxe
  obtain ⟨rfl, rfl⟩ := hxe
  have hmem := List.mem_of_getElem? hx
  refine ⟨a.eval x, by rw [Array.toList_map, List.getElem?_map, hx]; rfl, ?_⟩
  have h1 := hr.ev (x := x) (List.all_eq_true.1 hok _ hmem)
  rw [Jh ha (hm _ hmem)] at h1
  exact h1
theorem Gj {h : Zf → Option Bk} {zs : List Value} {z : Value} (hz : z.cells.toList = zs) (hat : zs.all JW = true) : RL cx w h (zs.map fun v => .p (.v v)) z.cells := by
  subst hz
  refine ⟨by simp, fun i c hi => ?_⟩
  rw [List.getElem?_map, Option.map_eq_some_iff] at hi
  obtain ⟨v, hv, rfl⟩ := hi
  have hat' := List.all_eq_true.1 hat v (List.mem_of_getElem? hv)
  exact ⟨v, by simpa using hv, JB hat', .v v hat'⟩
theorem F6 {parts : Array (Nat × Operand)} {t : Nat} {tt : TE} {fs pl : List (Nat × Nat)} {zs : List Value} {cs : List CV} (ht : Ka T.ty t = some tt) (hk : tt.kd = .struct fs) (hpl : O0 T.ty fs = some pl) (hz : tt.zero.cells.toList = zs) (hat : zs.all JW = true)
    (hf : Gi (fun i => pl[i]?) (zs.map fun v => .p (.v v)) (parts.toList.map fun x => (x.1, st.ev x.2)) = some cs) (hok : parts.toList.all (fun x => ZX x.2) = true) :
    KS E N P ops ⟨some d, .build t parts, ty, pos, af, gd⟩ st ⟨[], []⟩ ⟨.agg cs, []⟩ :=
  Zv fun st' cx a w ha hr => by
    obtain ⟨F, hu, hF⟩ := HE ht hk
    obtain ⟨dd, i, h1, h2, h3, h4, h5, h6⟩ := Vs (T.ok _ _ ht)
    have hm : ∀ x ∈ parts.toList, x.2 ∈ (Op.build t parts).operands.toList := fun x hx => by
      simp only [Op.operands, Array.toList_map, List.mem_map]; exact ⟨x, hx, rfl⟩
    obtain ⟨cells', h7, h8⟩ := DJ (cx := cx) (w := w) (h := st'.h) hf (Gj hz hat) (vs := (parts.map fun (i, x) => (i, a.eval x)).toList) (by simp) (C3 hr ha (fun x hx => hm x hx) hok)
    refine ⟨.agg cells', ?_, cells', rfl, h8⟩
    simp only [execOp, Sem.run_bind]
    rw [run_build w t _ cells' (by
      unfold Program.built
      rw [h2, hu]
      simp only [h6, Nb F.toList hpl hF]
      simpa using h7)]
    rfl
theorem F7 {parts : Array (Nat × Operand)} {t n e : Nat} {tt te : TE} {zs : List Value} {cs : List CV} (ht : Ka T.ty t = some tt) (hk : tt.kd = .array n e) (hel : Ka T.ty e = some te) (hz : tt.zero.cells.toList = zs) (hat : zs.all JW = true)
    (hf : Gi (fun i => some (i * te.size, te.size)) (zs.map fun v => .p (.v v)) (parts.toList.map fun x => (x.1, st.ev x.2)) = some cs) (hok : parts.toList.all (fun x => ZX x.2) = true) :
    KS E N P ops ⟨some d, .build t parts, ty, pos, af, gd⟩ st ⟨[], []⟩ ⟨.agg cs, []⟩ :=
  Zv fun st' cx a w ha hr => by
    have hu := Lh ht hk
    obtain ⟨dd, i, h1, h2, h3, h4, h5, h6⟩ := Vs (T.ok _ _ ht)
    obtain ⟨dd', i', h1', h2', h3', h4', h5', h6'⟩ := Vs (T.ok _ _ hel)
    have hm : ∀ x ∈ parts.toList, x.2 ∈ (Op.build t parts).operands.toList := fun x hx => by
      simp only [Op.operands, Array.toList_map, List.mem_map]; exact ⟨x, hx, rfl⟩
    obtain ⟨cells', h7, h8⟩ := DJ (cx := cx) (w := w) (h := st'.h) hf (Gj hz hat) (vs := (parts.map fun (i, x) => (i, a.eval x)).toList) (by simp) (C3 hr ha (fun x hx => hm x hx) hok)
    refine ⟨.agg cells', ?_, cells', rfl, h8⟩
    simp only [execOp, Sem.run_bind]
    rw [run_build w t _ cells' (by
      unfold Program.built
      rw [h2, hu]
      simp only [h6, h2', h4']
      exact h7)]
    rfl
def pvs : List CV → Option (List PV)
  | [] => some []
  | .p x :: r => match pvs r with
    | some l => some (x :: l)
    | none => none
  | _ => none
def Bo (e : Nat) : Nat → List PV → List (List PV)
  | 0, _ => []
  | n + 1, l => l.take e :: Bo e n (l.drop e)
theorem MA : ∀ {cs : List CV} {ps : List PV}, pvs cs = some ps → cs = ps.map .p
  | [], ps, h => by simp only [pvs, Option.some.injEq] at h; subst h; rfl
  | .p x :: r, ps, h => by
    simp only [pvs] at h
    split at h
    · rename_i l hl
      cases h
      rw [MA hl]; rfl
    · cases h
  | .any :: r, ps, h => by cases h
  | .ptr _ _ _ :: r, ps, h => by cases h
  | .sl _ _ _ :: r, ps, h => by cases h
  | .ep _ _ :: r, ps, h => by cases h
theorem CR (e : Nat) : ∀ (n : Nat) (l : List PV), l.length = n * e → (Bo e n l).length = n ∧ (∀ r ∈ Bo e n l, r.length = e) ∧ ∀ (i : Nat) (r : List PV) (k : Nat) (p : PV), (Bo e n l)[i]? = some r → r[k]? = some p → l[i * e + k]? = some p
  | 0, l, _ => ⟨rfl, by simp [Bo], by simp [Bo]⟩
  | n + 1, l, hl => by
    rw [Nat.succ_mul] at hl
    obtain ⟨h1, h2, h3⟩ := CR e n (l.drop e) (by rw [List.length_drop]; omega)
    refine ⟨by simp [Bo, h1], fun r hr => ?_, fun i r k p hi hk => ?_⟩
    · rcases List.mem_cons.1 hr with rfl | hr
      · rw [List.length_take]; omega
      · exact h2 r hr
    · cases i with
      | zero =>
        simp only [Bo, List.getElem?_cons_zero, Option.some.injEq] at hi
        subst hi
        rw [List.getElem?_take] at hk
        split at hk
        · rw [Nat.zero_mul, Nat.zero_add]; exact hk
        · cases hk
      | succ i =>
        simp only [Bo, List.getElem?_cons_succ] at hi
        have := h3 i r k p hi hk
        rw [List.getElem?_drop] at this
        rw [Nat.succ_mul, show i * e + e + k = e + (i * e + k) by omega]; exact this
theorem Ey {pl : Nat → Option (Nat × Nat)} : ∀ {vs : List (Nat × Value)} {cells cells' : Array Value}, Instr.fill pl cells vs = some cells' → cells'.size = cells.size
  | [], cells, cells', h => by cases h; rfl
  | (i, v) :: vs, cells, cells', h => by
    unfold Instr.fill at h
    split at h
    · cases h
    · split at h
      · cases h
      · rw [Ey h, ← Array.foldl_toList, Array.toList_zipIdx]
        exact (Great.foldl_set _ _ _ _).1
theorem DK {parts : Array (Nat × Operand)} {t e n sz : Nat} {tt te : TE} {zs : List Value} {cs : List CV} {ps : List PV} {rows : List (List PV)} (ht : Ka T.ty t = some tt) (hk : tt.kd = .slice e) (hel : Ka T.ty e = some te) (hsz : te.size = sz) (hpos : Nat.blt 0 (n * sz) = true) (hsm : Nat.ble (n * sz) 16777216 = true)
    (hz : te.zero.cells.toList = zs) (hat : zs.all JW = true) (hf : Gi (fun i => some (i * sz, sz)) ((List.range (n * sz)).map fun i => .p (.v (zs.getD (i % zs.length) undef))) (parts.toList.map fun x => (x.1, st.ev x.2)) = some cs) (hps : pvs cs = some ps) (hrows : Bo sz n ps = rows)
    (hzl : zs.length = sz) (hok : parts.toList.all (fun x => ZX x.2) = true) :
    KS E N P ops ⟨some d, .buildSlice t n parts, ty, pos, af, gd⟩ st ⟨[], [(d, 0)]⟩ ⟨.c (.sl (d, 0) 0 n), [((d, 0), some (.row sz rows true))]⟩ := by
  intro st' ha hfr hd cx a w Q hr
  have hpos := Nat.le_of_ble_eq_true hpos
  have hsm := Nat.le_of_ble_eq_true hsm
  have hn0 : 0 < n := Nat.pos_of_ne_zero (fun h => by rw [h] at hpos; omega)
  have hsz0 : 0 < sz := Nat.pos_of_ne_zero (fun h => by rw [h] at hpos; omega)
  have hu := KA ht hk
  obtain ⟨dd', i', h1', h2', h3', h4', h5', h6'⟩ := Vs (T.ok _ _ hel)
  have hm : ∀ x ∈ parts.toList, x.2 ∈ (Op.buildSlice t n parts).operands.toList := fun x hx => by
    simp only [Op.operands, Array.toList_map, List.mem_map]; exact ⟨x, hx, rfl⟩
  have hz0 : RL cx w st'.h ((List.range (n * sz)).map fun i => .p (.v (zs.getD (i % zs.length) undef))) ((Array.range (n * te.size)).map (te.zero.cells[· % te.zero.cells.size]!)) := by
    have hzs : te.zero.cells.size = sz := by rw [← hzl, ← hz]; simp
    refine ⟨by simp [hsz], fun i c hi => ?_⟩
    rw [List.getElem?_map, Option.map_eq_some_iff] at hi
    obtain ⟨j, hj, rfl⟩ := hi
    have hil : i < n * sz := by simpa using (List.getElem?_eq_some_iff.1 hj).1
    rw [List.getElem?_range hil] at hj
    cases hj
    have hmod : i % sz < sz := Nat.mod_lt _ hsz0
    have hat' : JW (zs.getD (i % zs.length) undef) = true := by
      rw [hzl, List.getD_eq_getElem?_getD, List.getElem?_eq_getElem (by omega)]
      exact List.all_eq_true.1 hat _ (List.getElem_mem _)
    refine ⟨zs.getD (i % zs.length) undef, ?_, JB hat', .v _ hat'⟩
    rw [Array.getElem?_map, Array.getElem?_range, hsz, if_pos hil, Option.map_some, hzs, hzl]
    congr 1
    have hbd : i % sz < te.zero.cells.size := by rw [hzs]; exact hmod
    have hg : zs[i % sz]? = some (te.zero.cells[i % sz]'hbd) := by rw [← hz, Array.getElem?_toList, Array.getElem?_eq_getElem]
    rw [getElem!_pos te.zero.cells _ hbd, List.getD_eq_getElem?_getD, hg]
    rfl
  obtain ⟨cells', h7, h8⟩ := DJ (cx := cx) (w := w) (h := st'.h) hf hz0 (vs := (parts.map fun (i, x) => (i, a.eval x)).toList) (by simp) (C3 hr ha (fun x hx => hm x hx) hok)
  have hcs := MA hps
  have hlen : cells'.size = n * sz := by
    rw [Ey h7]; simp [hsz]
  have hpl : ps.length = n * sz := by
    have := h8.1; rw [hcs, List.length_map] at this; omega
  obtain ⟨c1, c2, c3⟩ := CR sz n ps hpl
  rw [hrows] at c1 c2 c3
  have hrun := run_buildSlice (P := P) w t e n (parts.map fun (i, x) => (i, a.eval x)) cells' i' te.zero hu h2' h6' (by rw [h4', hsz]; omega) (by rw [h4', hsz]; omega) (by rw [h4', hsz]; rw [hsz] at h7; exact h7)
  refine YJ (v := .slice (some ⟨w.heap.size, 0, none⟩) n n) (w' := w.alloc (.cells cells' e)) (by simp only [execOp, Sem.run_bind, hrun]; rfl) ⟨_, We (w' := w.alloc (.cells cells' e)) (bk := .row sz rows true) (t := .c (.sl (d, 0) 0 n)) hr hd (b := (d, 0)) (hd d rfl) (hfr (d, 0) (by simp)) (ob := .cells cells' e) rfl rfl rfl rfl ?_ ?_⟩
  · refine ⟨hsz0, c2, ?_⟩
    simp only [Cx.upd, if_true]
    refine ⟨trivial, cells', e, (0, 0), n, Xe rfl, fun _ => ⟨rfl, fun h => ?_⟩, (fun h => by cases h), hlen, by omega, by unfold maxLen; have := Nat.le_mul_of_pos_right n hsz0; omega, fun i r k p hi hk => ?_⟩
    · have := (hr.A _ h).1; omega
    · have hp := c3 i r k p hi hk
      obtain ⟨u, hu, h9, h10⟩ := h8.2 (i * sz + k) (.p p) (by rw [hcs, List.getElem?_map, hp]; rfl)
      exact ⟨u, by simpa using hu, RP.keeps h10 (fun _ h => h) (VS rfl)⟩
  · refine ⟨.inr rfl, fun bk hbk => ?_⟩
    rw [XB, if_pos rfl] at hbk
    cases hbk
    refine ⟨_, n, rfl, Nat.le_refl _, by unfold maxLen; have := Nat.le_mul_of_pos_right n hsz0; omega, by simp [Bk.len, c1], .inr ⟨w.heap.size, cells', e, (0, 0), by simp [Cx.upd], by simp [Bk.e], Xe rfl, fun _ => by simp [Bk.e, hlen]⟩⟩
end
def gt : Bool → TV → TV
  | true, t => t
  | false, _ => .tup []
theorem Qe {g : Bool} {t : TV} (h : g = true) : gt g t = t := by subst h; rfl
theorem Qb {b : Bool} : (b == true) = b := by cases b <;> rfl
theorem Q9 {b : Bool} : (b == false) = !b := by cases b <;> rfl
section
variable {E : En} {N : Nat} {P : Program} {T : Tb P} {ops : Array Oper} {o : Oper} {st : St} {r : List Oper} {acc : List (Fp × Ef)} {K : List (Fp × Ef) → St → Prop} {d : Nat} {ty : Nat} {pos : String} {af : Array Edge} {gd : Option (Nat × Bool)} {op : Op} {f : Fp} {t : TV} {fr : List (Nat × TV)} {H : List (Zf × Option Bk)}
theorem QH {j dj : Nat} {want b g g0 : Bool} (hj : (ops[j]?).bind (·.dst) = some dj) (hb : (⟨fr, H⟩ : St).g dj = gt g0 (.c (.p (.v (.bool b))))) (hg : (g0 && (b == want)) = g) (hop : g = true → KS E N P ops ⟨some d, op, ty, pos, af, some (j, want)⟩ ⟨fr, H⟩ f ⟨t, []⟩)
    (h : UW E N P ops r ((f, ⟨gt g t, []⟩) :: acc) ⟨(d, gt g t) :: fr, H⟩ K) : UW E N P ops (⟨some d, op, ty, pos, af, some (j, want)⟩ :: r) acc ⟨fr, H⟩ K := by
  refine ⟨f, ⟨gt g t, []⟩, ?_, h⟩
  have hw : wn ops ⟨some d, op, ty, pos, af, some (j, want)⟩ ⟨fr, H⟩ = some g := by
    unfold wn
    simp only [hj, hb]
    subst hg
    cases g0
    · rfl
    · simp [gt]
  cases g with
  | true => exact .inl ⟨hw, hop rfl⟩
  | false => exact .inr ⟨hw, trivial, rfl⟩
theorem Q3 {j dj : Nat} {want b g : Bool} (hj : (ops[j]?).bind (·.dst) = some dj) (hb : (⟨fr, H⟩ : St).g dj = .c (.p (.v (.bool b)))) (hg : (b == want) = g) (hop : g = true → KS E N P ops ⟨some d, op, ty, pos, af, some (j, want)⟩ ⟨fr, H⟩ f ⟨t, []⟩)
    (h : UW E N P ops r ((f, ⟨gt g t, []⟩) :: acc) ⟨(d, gt g t) :: fr, H⟩ K) : UW E N P ops (⟨some d, op, ty, pos, af, some (j, want)⟩ :: r) acc ⟨fr, H⟩ K := QH (g0 := true) hj hb (by simpa using hg) hop h
theorem Qn {c x y : Operand} {b g : Bool} {v w : Value} {u : Value} (hv : st.ev c = .c (.p (.v (.bool b)))) (hx : st.ev x = gt g (.c (.p (.v v)))) (hg : (b == true) = g) (hy : st.ev y = .c (.p (.v w))) (hu : (bif b then v else w) = u) (hb : ZX c = true) (h1 : ZX x = true) (h2 : ZX y = true) :
    KS E N P ops ⟨some d, .pick c x y, ty, pos, af, gd⟩ st ⟨[], []⟩ ⟨.c (.p (.v u)), []⟩ := by
  refine FZ hb h1 h2 hv ?_
  subst hg hu
  cases b
  · rw [if_neg (by simp)]; exact hy
  · rw [if_pos rfl]; exact hx
theorem Qk {c x y : Operand} {b g : Bool} {v w : Value} {u : Value} (hv : st.ev c = .c (.p (.v (.bool b)))) (hx : st.ev x = .c (.p (.v v))) (hg : (b == false) = g) (hy : st.ev y = gt g (.c (.p (.v w)))) (hu : (bif b then v else w) = u) (hb : ZX c = true) (h1 : ZX x = true) (h2 : ZX y = true) :
    KS E N P ops ⟨some d, .pick c x y, ty, pos, af, gd⟩ st ⟨[], []⟩ ⟨.c (.p (.v u)), []⟩ := by
  refine FZ hb h1 h2 hv ?_
  subst hg hu
  cases b
  · rw [if_neg (by simp)]; exact hy
  · rw [if_pos rfl]; exact hx
theorem QB {b x y : Bool} : (bif b then Value.bool x else Value.bool y) = .bool (bif b then x else y) := by cases b <;> rfl
end
def QN (st st' : St) : Prop := ∀ (E : En) (N : Nat) (cx : Cx) (a : Act) (w : World), Vn E N cx st a w → ∃ cx', Vn E N cx' st' a w
def jn {α : Type} (k : α → Prop) (m : (α → Prop) → Prop) : Prop := m k
def lp {σ : Type} (step : (σ → Prop) → σ → Prop) (s : σ) : Prop := ∀ X : σ → Prop, (∀ s, step X s → X s) → X s
def ix {α : Type} (l : List α) (n : Int) (x : α) : Prop := 0 ≤ n ∧ l[n.toNat]? = some x
def Il (P : Program) (c : Code) (Q : Exit → Act → World → Prop) (a : Act) (w : World) : Prop :=
  ∀ (b : Frame) (kk : List Item) (cs : List Frame), ∃ e a' w', Q e a' w' ∧ Arrives P (lone (b.at a (.code c :: .inLoop c :: kk)) cs w) b kk cs e a' w'
theorem MD {P : Program} {c : Code} {Q : Exit → Act → World → Prop} {a : Act} {w : World} (h : Il P c Q a w) : (Code.loop c).wp P Q a w := by
  intro b kk cs
  obtain ⟨e, a', w', hq, harr⟩ := h b kk cs
  exact ⟨e, a', w', hq, .of_steps (.one step_loop) harr⟩
theorem OM {P : Program} {c : Code} {Q : Exit → Act → World → Prop} {a : Act} {w : World} (h : c.wp P (Exit.then (Il P c Q) Q) a w) : Il P c Q a w := by
  intro b kk cs
  obtain ⟨e, a₁, w₁, hq, harr⟩ := h b (.inLoop c :: kk) cs
  cases e with
  | normal =>
    obtain ⟨e₂, a₂, w₂, hq₂, harr₂⟩ := hq b kk cs
    exact ⟨e₂, a₂, w₂, hq₂, .of_steps (Steps.trans harr (.one step_inLoop)) harr₂⟩
  | exit id => exact ⟨_, a₁, w₁, hq, .pass (x := .inLoop c) rfl (fun _ _ => .inl (by simp)) harr⟩
  | goto l => exact ⟨_, a₁, w₁, hq, .pass (x := .inLoop c) rfl (fun _ _ => .inl (by simp)) harr⟩
  | ret => exact ⟨_, a₁, w₁, hq, .pass (x := .inLoop c) rfl (fun _ _ => .inl (by simp)) harr⟩
  | panic ch => exact ⟨_, a₁, w₁, hq, .pass (x := .inLoop c) rfl (fun _ _ => .inl (by simp)) harr⟩
  | outgrown => exact ⟨_, a₁, w₁, hq, .pass (x := .inLoop c) rfl (fun _ _ => .inl (by simp)) harr⟩
section
variable {E : En} {N : Nat} {P : Program} {T : Tb P} {Q : Exit → St → Prop} {st st' st2 : St}
theorem QN.refl (st : St) : QN st st := fun _ _ cx _ _ h => ⟨cx, h⟩
theorem QN.trans (h : QN st st') (h2 : QN st' st2) : QN st st2 := fun E N cx a w hr => let ⟨cx', hr'⟩ := h E N cx a w hr; h2 E N cx' a w hr'
theorem QN.nm (ks : List Nat) (σ : List (Zf × Zf)) (h1 : okS σ = true) (h : st.norm ks σ = st') : QN st st' := fun E N cx a w hr => by subst h; exact hr.norm h1
theorem Z9 {c : Code} (h : QN st st') (h2 : AW E N P c Q st') : AW E N P c Q st := fun cx a w hr => let ⟨cx', hr'⟩ := h E N cx a w hr; h2 cx' a w hr'
def AL (E : En) (N : Nat) (P : Program) (c : Code) (Q : Exit → St → Prop) (st : St) : Prop :=
  ∀ cx a w, Vn E N cx st a w → Il P c (fun e a' w' => ∃ st' cx', Q e st' ∧ Vn E N cx' st' a' w') a w
theorem ON {c : Code} (h : AL E N P c Q st) : AW E N P (.loop c) Q st := fun cx a w hr => MD (h cx a w hr)
theorem OO {c : Code} (h : AW E N P c (HK Q (AL E N P c Q)) st) : AL E N P c Q st := by
  intro cx a w hr
  refine OM (wp_mono (h cx a w hr) ?_)
  rintro e a' w' ⟨st', cx', h1, h2⟩
  cases e with
  | normal => exact h1 cx' a' w' h2
  | _ => exact ⟨st', cx', h1, h2⟩
theorem RF {c : Code} (h : QN st st') (h2 : AL E N P c Q st') : AL E N P c Q st := fun cx a w hr => let ⟨cx', hr'⟩ := h E N cx a w hr; h2 cx' a w hr'
theorem ZA {σ : Type} {c : Code} {step : (σ → Prop) → σ → Prop} {s0 : σ} (S : σ → St) (h : lp step s0) (hs : QN st (S s0))
    (hb : ∀ (X : σ → Prop) (L : St → Prop), (∀ p st, X p → QN st (S p) → L st) → ∀ s, step X s → AW E N P c (HK Q L) (S s)) : AW E N P (.loop c) Q st :=
  ON (h (fun s => ∀ st, QN st (S s) → AL E N P c Q st) (fun s hstep st hst => RF hst (OO (hb _ _ (fun p st hp hst => hp st hst) s hstep))) st hs)
theorem Zg {α : Type} {x y : Code} {k : α → Prop} {m : (α → Prop) → Prop} (S : α → St) (h : jn k m) (hk : ∀ p, k p → AW E N P y Q (S p))
    (hm : ∀ (J : α → Prop) (L : St → Prop), (∀ p st, J p → QN st (S p) → L st) → m J → AW E N P x (HK Q L) st) : AW E N P (.seq x y) Q st :=
  OE (hm k _ (fun p st hp hst => Z9 hst (hk p hp)) h)
theorem Zj {c : Code} {Q0 : Exit → St → Prop} (h : ∀ Q : Exit → St → Prop, (∀ e st, Q0 e st → Q e st) → AW E N P c Q st) : AW E N P c Q0 st := h _ fun _ _ h => h
end
theorem Gk (b b' : Zf) (x : Option Bk) (fr : List (Nat × TV)) (H : List (Zf × Option Bk)) : (⟨fr, (b, x) :: H⟩ : St).h b' = if b' = b then x else (⟨fr, H⟩ : St).h b' := by
  show (Uv ((b, x) :: H) b').getD none = _
  simp only [Uv]
  by_cases h : b' = b
  · subst h; rw [ZN.2 rfl, if_pos rfl]; rfl
  · have : Xz b b' = false := by
      cases hb : Xz b b' with
      | false => rfl
      | true => exact absurd (ZN.1 hb).symm h
    rw [this, if_neg h]; rfl
theorem RG (s s' : Nat) (t : TV) (fr : List (Nat × TV)) (H : List (Zf × Option Bk)) : (⟨(s, t) :: fr, H⟩ : St).g s' = if s' = s then t else (⟨fr, H⟩ : St).g s' := by
  show (Ka ((s, t) :: fr) s').getD (.c .any) = _
  simp only [Ka]
  by_cases h : s' = s
  · subst h; simp
  · have : Nat.beq s s' = false := by
      cases hb : Nat.beq s s' with
      | false => rfl
      | true => exact absurd (Nat.eq_of_beq_eq_true hb).symm h
    rw [this, if_neg h]; rfl
section
variable {E : En} {N : Nat} {P : Program} {T : Tb P} {Q : Exit → St → Prop} {st st' st2 : St} {cx : Cx} {a : Act} {w : World} {fr : List (Nat × TV)} {H : List (Zf × Option Bk)}
theorem QN.blk (b : Zf) (e : Nat) (he : Nat.blt 0 e = true) (hb0 : Nat.blt b.1 65536 = true) (hf : Ib b ⟨fr, H⟩ = true) : QN ⟨fr, H⟩ ⟨fr, (b, some (.row e [] true)) :: H⟩ := by
  intro E N cx a w hr
  have hf := F3 hf
  have hh := Gk b (x := some (.row e [] true)) (fr := fr) (H := H)
  have hcmp : ∀ b', b' ≠ b → NQ cx w (⟨fr, H⟩ : St).h (cx.upd b none) w (⟨fr, (b, some (.row e [] true)) :: H⟩ : St).h b' := by
    intro b' hne bk' hb
    rw [hh, if_neg hne] at hb
    exact ⟨bk', hb, rfl, Nat.le_refl _, by simp [Cx.upd, hne], fun g o c el fz _ h => ⟨c, el, fz, h, fun _ => rfl⟩⟩
  have hk : Vl cx.A w w := Vl.refl _ _
  refine ⟨cx.upd b none, hr.defers, hr.size, fun s' => ?_, fun b' bk hb => ?_, fun b1 b2 g o g' o' h1 h2 h3 h4 hne => ?_, fun b1 g o h1 h2 => ?_, hr.A, hr.A0, hr.kept, hr.sz, hr.os, hr.tape, hr.output, hr.hN, (FK (Nat.le_of_ble_eq_true hb0)).trans hr.pin⟩
  · refine RT.tr (cx := cx) (fun _ h => h) hk (fun b' hb' => hcmp b' ?_) (hr.fr s')
    rintro rfl
    exact hf.2.1 s' hb'
  · rw [hh] at hb
    by_cases h : b' = b
    · rw [if_pos h] at hb
      cases hb
      subst h
      exact ⟨Nat.le_of_ble_eq_true he, by simp, by simp [Cx.upd]⟩
    · rw [if_neg h] at hb
      refine RB.tr (cx := cx) (fun _ h => h) hk (fun b2 hb2 => hcmp b2 ?_) (by simp [Cx.upd, h]) (fun g o _ => ⟨rfl, fun h => h⟩) (hr.bl b' bk hb)
      rintro rfl
      exact hf.2.2 b' bk hb hb2
  · rw [hh] at h1 h2
    simp only [Cx.upd] at h3 h4
    by_cases e1 : b1 = b
    · rw [if_pos e1] at h3; cases h3
    · by_cases e2 : b2 = b
      · rw [if_pos e2] at h4; cases h4
      · rw [if_neg e1] at h1 h3; rw [if_neg e2] at h2 h4
        exact hr.inj b1 b2 g o g' o' h1 h2 h3 h4 hne
  · rw [hh] at h1
    simp only [Cx.upd] at h2
    by_cases e1 : b1 = b
    · rw [if_pos e1] at h2; cases h2
    · rw [if_neg e1] at h1 h2
      exact hr.own b1 g o h1 h2
theorem Vn.frz {b : Zf} {e : Nat} {rows : List (List PV)} {mu : Bool} (hb : st.h b = some (.row e rows mu)) (hr : Vn E N cx st a w) : ∃ cx', (∀ x, cx.A x → cx'.A x) ∧ cx'.ι = cx.ι ∧ Vn E N cx' ⟨st.fr, (b, some (.row e rows false)) :: st.H⟩ a w := by
  have hh := Gk b (x := some (.row e rows false)) (fr := st.fr) (H := st.H)
  let cx' : Cx := ⟨cx.ι, fun x => cx.A x ∨ ∃ q, cx.ι b = some (x, q)⟩
  have hA : ∀ x, cx.A x → cx'.A x := fun x h => .inl h
  have hk : Vl cx.A w w := Vl.refl _ _
  have hcmp : ∀ b', NQ cx w st.h cx' w (⟨st.fr, (b, some (.row e rows false)) :: st.H⟩ : St).h b' := by
    intro b' bk' hb'
    rw [hh] at hb'
    by_cases h : b' = b
    · rw [if_pos h] at hb'
      cases hb'
      subst h
      exact ⟨_, hb, rfl, Nat.le_refl _, rfl, fun g o c el fz _ h => ⟨c, el, fz, h, fun _ => rfl⟩⟩
    · rw [if_neg h] at hb'
      exact ⟨bk', hb', rfl, Nat.le_refl _, rfl, fun g o c el fz _ h => ⟨c, el, fz, h, fun _ => rfl⟩⟩
  have hlive : ∀ b', (⟨st.fr, (b, some (.row e rows false)) :: st.H⟩ : St).h b' ≠ none → st.h b' ≠ none := by
    intro b' h1
    rw [hh] at h1
    by_cases h : b' = b
    · rw [h, hb]; simp
    · rwa [if_neg h] at h1
  refine ⟨cx', hA, rfl, hr.defers, hr.size, fun s' => ?_, fun b' bk hb' => ?_, fun b1 b2 g o g' o' h1 h2 h3 h4 hne => ?_, fun b1 g o h1 h2 => ?_, fun g hg => ?_, fun g hg => hA g (hr.A0 g hg), hr.kept, hr.sz, hr.os, hr.tape, hr.output, hr.hN, hr.pin⟩
  · exact RT.tr (cx := cx) hA hk (fun b' _ => hcmp b') (hr.fr s')
  · rw [hh] at hb'
    by_cases h : b' = b
    · rw [if_pos h] at hb'
      cases hb'
      subst h
      obtain ⟨h1, h2, h3⟩ := hr.bl b' _ hb
      refine ⟨h1, h2, ?_⟩
      revert h3
      show (match cx.ι b' with | none => _ | some (g, o) => _) → (match cx.ι b' with | none => _ | some (g, o) => _)
      cases hι : cx.ι b' with
      | none => exact fun h => h
      | some x =>
        obtain ⟨g, o⟩ := x
        rintro ⟨h3, c, el, fz, capR, h4, h5, h6, h7, h8, h9, h10⟩
        exact ⟨h3, c, el, fz, capR, h4, (fun h => by cases h), fun _ => .inr ⟨o, hι⟩, h7, h8, h9, fun i r k p hi hk' => let ⟨cv, hc, hp⟩ := h10 i r k p hi hk'; ⟨cv, hc, hp.mono hA (Nat.le_refl _) (fun _ _ _ => rfl)⟩⟩
    · rw [if_neg h] at hb'
      refine RB.tr (cx := cx) hA hk (fun b2 _ => hcmp b2) rfl (fun g o hg => ⟨rfl, fun hn hA' => ?_⟩) (hr.bl b' bk hb')
      rcases hA' with hA' | ⟨q, hq⟩
      · exact hn hA'
      · exact hr.inj b' b g o g q (by rw [hb']; simp) (by rw [hb]; simp) hg hq h rfl
  · exact hr.inj b1 b2 g o g' o' (hlive b1 h1) (hlive b2 h2) h3 h4 hne
  · exact hr.own b1 g o (hlive b1 h1) h2
  · rcases hg with hg | ⟨q, hq⟩
    · exact hr.A g hg
    · obtain ⟨h1, h2⟩ := hr.own b g q (by rw [hb]; simp) hq
      exact ⟨h1, h2.elim (fun h => .inr (.inl h)) (fun h => .inr (.inr h))⟩
theorem QN.frz (b : Zf) {e : Nat} {rows : List (List PV)} {mu : Bool} (hb : (⟨fr, H⟩ : St).h b = some (.row e rows mu)) : QN ⟨fr, H⟩ ⟨fr, (b, some (.row e rows false)) :: H⟩ := fun E N cx a w hr =>
  let ⟨cx', _, _, h⟩ := hr.frz hb; ⟨cx', h⟩
inductive Ct (st : St) : CV → CV → Prop
  | k (c : CV) : Ct st c c
  | any (c : CV) : Ct st c .any
  | nil (e : Nat) : Ct st (.p (.v (.slice none 0 0))) (.p (.l e []))
  | nilo {b : Zf} {bk : Bk} (hb : st.h b = some bk) : Ct st (.p (.v (.slice none 0 0))) (.sl b 0 0)
  | n {b : Zf} {off n n' : Nat} (h : n = n') : Ct st (.sl b off n) (.sl b off n')
  | fr {b : Zf} {e off n : Nat} {rows rows' : List (List PV)} (hb : st.h b = some (.row e rows false)) (hr : (rows.drop off).take n = rows') : Ct st (.sl b off n) (.p (.l e rows'))
theorem OP {c c' : CV} {v : Value} (hr : Vn E N cx st a w) (h : Ct st c c') (hc : RC cx w st.h c v) : RC cx w st.h c' v := by
  cases h with
  | k => exact hc
  | any => trivial
  | nil e => cases hc with | v _ _ => exact OG e
  | n h => subst h; exact hc
  | nilo hb =>
    cases hc with
    | v _ _ =>
      intro bk hbk
      exact ⟨none, 0, rfl, Nat.le_refl _, Nat.zero_le _, Nat.zero_le _, .inl rfl⟩
  | @fr b e off n rows rows' hb hr' =>
    have hA : ∀ b' ∈ [b], ∀ g q, cx.ι b' = some (g, q) → cx.A g := by
      intro b' hb' g q hg
      rw [List.mem_singleton.1 hb'] at hg
      obtain ⟨_, _, h3⟩ := hr.bl b _ hb
      rw [hg] at h3
      obtain ⟨_, c, el, fz, capR, _, _, h6, _⟩ := h3
      exact h6 rfl
    exact Ie (x := .p (.l e rows')) (o := none) hr (.fr hb hr') hc (fun _ h => h) hA (fun b h => by cases h)
inductive O1 (st : St) : List CV → List CV → Prop
  | nil : O1 st [] []
  | cons {c c' : CV} {cs cs' : List CV} (h : Ct st c c') (hs : O1 st cs cs') : O1 st (c :: cs) (c' :: cs')
theorem O1.k (cs : List CV) : O1 st cs cs := by
  induction cs with
  | nil => exact .nil
  | cons c cs ih => exact .cons (.k c) ih
theorem O1.at {cs cs' : List CV} (h : O1 st cs cs') : cs'.length = cs.length ∧ ∀ (k : Nat) (c' : CV), cs'[k]? = some c' → ∃ c, cs[k]? = some c ∧ Ct st c c' := by
  induction h with
  | nil => exact ⟨rfl, fun k c' h => by simp at h⟩
  | cons h hs ih =>
    refine ⟨by simp [ih.1], fun k c' hk => ?_⟩
    cases k with
    | zero => rw [List.getElem?_cons_zero] at hk; cases hk; exact ⟨_, rfl, h⟩
    | succ k => rw [List.getElem?_cons_succ] at hk; obtain ⟨c, h1, h2⟩ := ih.2 k c' hk; exact ⟨c, by rw [List.getElem?_cons_succ]; exact h1, h2⟩
theorem RH {cs cs' : List CV} {vs : Array Value} (hr : Vn E N cx st a w) (h : O1 st cs cs') (hc : RL cx w st.h cs vs) : RL cx w st.h cs' vs := by
  obtain ⟨h1, h2⟩ := h.at
  refine ⟨by rw [h1]; exact hc.1, fun i c hi => ?_⟩
  obtain ⟨c0, h3, h4⟩ := h2 i c hi
  obtain ⟨u, hu, h5, h6⟩ := hc.2 i c0 h3
  exact ⟨u, hu, h5, OP hr h4 h6⟩
theorem Vn.re (hr : Vn E N cx st a w) {s : Nat} {t : TV} (ht : RT cx w st.h t (a.tmps.getD s undef)) : Vn E N cx ⟨(s, t) :: st.fr, st.H⟩ a w := by
  refine ⟨hr.defers, hr.size, fun s' => ?_, hr.bl, hr.inj, hr.own, hr.A, hr.A0, hr.kept, hr.sz, hr.os, hr.tape, hr.output, hr.hN, hr.pin⟩
  rw [RG]
  by_cases h : s' = s
  · rw [if_pos h, h]; exact ht
  · rw [if_neg h]; exact hr.fr s'
theorem QN.slot (s : Nat) {c c' : CV} (hs : (⟨fr, H⟩ : St).g s = .c c) (hc : Ct ⟨fr, H⟩ c c') : QN ⟨fr, H⟩ ⟨(s, .c c') :: fr, H⟩ := by
  intro E N cx a w hr
  refine ⟨cx, hr.re ?_⟩
  have := hr.fr s
  rw [hs] at this
  refine ⟨?_, OP hr hc this.2⟩
  rcases this.1 with h | h
  · subst h; cases hc <;> exact .inl rfl
  · exact .inr h
theorem QN.cells (b : Zf) {cs cs' : List CV} (hb : (⟨fr, H⟩ : St).h b = some (.box cs)) (hc : O1 ⟨fr, H⟩ cs cs') : QN ⟨fr, H⟩ ⟨fr, (b, some (.box cs')) :: H⟩ := by
  intro E N cx a w hr
  have hh := Gk b (x := some (.box cs')) (fr := fr) (H := H)
  obtain ⟨hl, hat⟩ := hc.at
  have hcmp : ∀ b', NQ cx w (⟨fr, H⟩ : St).h cx w (⟨fr, (b, some (.box cs')) :: H⟩ : St).h b' := by
    intro b' bk' hb'
    rw [hh] at hb'
    by_cases h : b' = b
    · rw [if_pos h] at hb'
      cases hb'
      subst h
      exact ⟨_, hb, rfl, Nat.le_refl _, rfl, fun g o c el fz _ h => ⟨c, el, fz, h, fun _ => rfl⟩⟩
    · rw [if_neg h] at hb'
      exact ⟨bk', hb', rfl, Nat.le_refl _, rfl, fun g o c el fz _ h => ⟨c, el, fz, h, fun _ => rfl⟩⟩
  have hk : Vl cx.A w w := Vl.refl _ _
  have hlive : ∀ b', (⟨fr, (b, some (.box cs')) :: H⟩ : St).h b' ≠ none → (⟨fr, H⟩ : St).h b' ≠ none := by
    intro b' h1
    rw [hh] at h1
    by_cases h : b' = b
    · rw [h, hb]; simp
    · rwa [if_neg h] at h1
  refine ⟨cx, hr.defers, hr.size, fun s' => ?_, fun b' bk hb' => ?_, fun b1 b2 g o g' o' h1 h2 h3 h4 hne => ?_, fun b1 g o h1 h2 => ?_, hr.A, hr.A0, hr.kept, hr.sz, hr.os, hr.tape, hr.output, hr.hN, hr.pin⟩
  · exact RT.tr (cx := cx) (fun _ h => h) hk (fun b' _ => hcmp b') (hr.fr s')
  · rw [hh] at hb'
    by_cases h : b' = b
    · rw [if_pos h] at hb'
      cases hb'
      subst h
      obtain ⟨g, o, c, el, h1, h2, h3, h4, h5⟩ := hr.bl b' _ hb
      refine ⟨g, o, c, el, h1, h2, h3, by rw [hl]; exact h4, fun k x hx => ?_⟩
      obtain ⟨x0, h6, h7⟩ := hat k x hx
      obtain ⟨cv, h8, h9, h10⟩ := h5 k x0 h6
      exact ⟨cv, h8, h9, RC.tr (cx := cx) (fun _ h => h) hk (fun b' _ => hcmp b') (OP hr h7 h10)⟩
    · rw [if_neg h] at hb'
      exact RB.tr (cx := cx) (fun _ h => h) hk (fun b2 _ => hcmp b2) rfl (fun g o _ => ⟨rfl, fun h => h⟩) (hr.bl b' bk hb')
  · exact hr.inj b1 b2 g o g' o' (hlive b1 h1) (hlive b2 h2) h3 h4 hne
  · exact hr.own b1 g o (hlive b1 h1) h2
theorem Im {ops : Array Oper} {o : Oper} {rb al : List Zf} {t : TV} {bl : List (Zf × Option Bk)} {b : Zf} {e : Nat} {rows : List (List PV)} {mu : Bool} (hb : (⟨fr, H⟩ : St).h b = some (.row e rows mu)) (hal : GZ al [b] = true)
    (h : KS E N P ops o ⟨fr, (b, some (.row e rows false)) :: H⟩ ⟨rb, al⟩ ⟨t, bl⟩) : KS E N P ops o ⟨fr, H⟩ ⟨b :: rb, al⟩ ⟨t, bl ++ [(b, some (.row e rows false))]⟩ := by
  intro st' ha hf hd cx a w Q hr
  have hb' : st'.h b = some (.row e rows mu) := by rw [ha.2 b (by simp)]; exact hb
  obtain ⟨cx', hA, hι, hr'⟩ := hr.frz hb'
  have hh := Gk b (x := some (.row e rows false)) (fr := st'.fr) (H := st'.H)
  refine Oper.wp_mono (fun a' w' ⟨cx2, h2⟩ => ⟨cx2, ?_⟩) (h ⟨st'.fr, (b, some (.row e rows false)) :: st'.H⟩ ⟨ha.1, fun b' hb2 => ?_⟩ (fun b' hb2 => ?_) hd cx' a w Q hr')
  · rw [hh, Gk]
    by_cases hbb : b' = b
    · rw [if_pos hbb, if_pos hbb]
    · rw [if_neg hbb, if_neg hbb]; exact ha.2 b' (List.mem_cons_of_mem _ hb2)
  · obtain ⟨h1, h2, h3⟩ := hf b' hb2
    have hne : b' ≠ b := by have := XV hal b' hb2; simpa using this
    refine ⟨by rw [hh, if_neg hne]; exact h1, h2, fun b2 bk hbk => ?_⟩
    rw [hh] at hbk
    by_cases h4 : b2 = b
    · rw [if_pos h4] at hbk; cases hbk; simp [Bk.ment]
    · rw [if_neg h4] at hbk; exact h3 b2 bk hbk
  · have e1 : (Ef.ap ⟨t, bl ++ [(b, some (.row e rows false))]⟩ o st') = Ef.ap ⟨t, bl⟩ o ⟨st'.fr, (b, some (.row e rows false)) :: st'.H⟩ := by
      unfold Ef.ap; simp
    rw [e1]; exact h2
end
def eI (k : IntKind) (n : Int) : List PV := [.v (.int k n)]
def eS (s : ByteArray) : List PV := [.v (.string s)]
def eB (b : Bool) : List PV := [.v (.bool b)]
def bx (s : ByteArray) (n v : Int) : Prop := 0 ≤ n ∧ ∃ b : UInt8, s[n.toNat]? = some b ∧ v = (b.toNat : Int)
def ME (k : IntKind) (a b : Int) : Int := k.wrap (BitVec.ofInt k.bits a ||| BitVec.ofInt k.bits b).toNat
def Zq (k : IntKind) (a b : Int) : Int := k.wrap (BitVec.ofInt k.bits a &&& BitVec.ofInt k.bits b).toNat
def YF (k : IntKind) (a b : Int) : Int := k.wrap (BitVec.ofInt k.bits a ^^^ BitVec.ofInt k.bits b).toNat
def V4 (k : IntKind) (a b : Int) : Int := k.wrap (a * 2 ^ (min b.toNat k.bits))
def QR (k : IntKind) (a b : Int) : Int := a.fdiv (2 ^ (min b.toNat k.bits))
def Yd (a b : Int) : Int := if b < a then b else a
def DL (a b : Int) : Int := if b > a then b else a
def eqV : Value → Value → Bool
  | .int _ a, .int _ b => a == b
  | .bool a, .bool b => a == b
  | .string a, .string b => a.toList == b.toList
  | _, _ => false
def MF : List Value → List Value → Bool
  | [], [] => true
  | a :: l, b :: m => eqV a b && MF l m
  | _, _ => false
section
variable {α : Type} {f : α → List PV} {L L' : List α} {E : En} {N : Nat} {P : Program} {T : Tb P} {ops : Array Oper} {o : Oper} {st : St} {d : Nat} {ty : Nat} {pos : String} {af : Array Edge} {gd : Option (Nat × Bool)} {cx : Cx} {a : Act} {w w' : World}
theorem tn {n : Int} (h : 0 ≤ n) : n = (n.toNat : Int) := (Int.toNat_of_nonneg h).symm
theorem Nc {x y : Operand} {t el e : Nat} {k : IntKind} {n : Int} {v : α} {tt te : TE} (hv : ix L n v) (h1 : st.ev x = .c (.p (.l e (L.map f)))) (h2 : st.ev y = .c (.p (.v (.int k n)))) (ht : Ka T.ty t = some tt) (hk : tt.kd = .slice el) (hel : Ka T.ty el = some te) (he : te.size = e) (hx : ZX x = true) (hy : ZX y = true) :
    KS E N P ops ⟨some d, .indexAddr t x y, ty, pos, af, gd⟩ st ⟨[], []⟩ ⟨.c (.ep (f v) 0), []⟩ := Li h1 h2 (tn hv.1) (gm hv.2) ht hk hel he hx hy
theorem Lw {x y : Operand} {t el e m : Nat} {b : Zf} {mu : Bool} {k : IntKind} {n : Int} {v : α} {tt te : TE} (hv : ix L n v) (h1 : st.ev x = .c (.sl b 0 m)) (hb : st.h b = some (.row e (L.map f) mu)) (hm : (L.map f).length = m) (h2 : st.ev y = .c (.p (.v (.int k n)))) (ht : Ka T.ty t = some tt) (hk : tt.kd = .slice el) (hel : Ka T.ty el = some te) (he : te.size = e) (hx : ZX x = true) (hy : ZX y = true) :
    KS E N P ops ⟨some d, .indexAddr t x y, ty, pos, af, gd⟩ st ⟨[b], []⟩ ⟨.c (.ptr b n.toNat 0), []⟩ :=
  I8 h1 hb h2 (tn hv.1) (by rw [← hm, List.length_map]; exact (List.getElem?_eq_some_iff.1 hv.2).1) ht hk hel he (Nat.zero_add _) hx hy
theorem F8 {x y : Operand} {t : Nat} {s : ByteArray} {k : IntKind} {n v : Int} {tt : TE} (hv : bx s n v) (h1 : st.ev x = .c (.p (.v (.string s)))) (h2 : st.ev y = .c (.p (.v (.int k n)))) (ht : Ka T.ty t = some tt) (hk : tt.kd = .string) (hx : ZX x = true) (hy : ZX y = true) :
    KS E N P ops ⟨some d, .index t x y, ty, pos, af, gd⟩ st ⟨[], []⟩ ⟨.c (.p (.v (.int .u8 v))), []⟩ := by
  obtain ⟨h0, b, hb, rfl⟩ := hv
  exact H3 h1 h2 (tn h0) hb ht hk hx hy
theorem Nf {x : Operand} {t e : TypeId} {tt : TE} {k : Nat} (h1 : st.ev x = .c (.p (.l k (L.map f)))) (ht : Ka T.ty t = some tt) (hk : tt.kd = .slice e) (hx : ZX x = true) :
    KS E N P ops ⟨some d, .call { callee := .builtin .len, args := #[x], argTypes := #[t] }, ty, pos, af, gd⟩ st ⟨[], []⟩ ⟨.c (.p (.v (.int .i64 (L.length : Int)))), []⟩ := by
  have := NS (E := E) (N := N) (ops := ops) (d := d) (ty := ty) (pos := pos) (af := af) (gd := gd) h1 ht hk hx
  rwa [List.length_map] at this
theorem Lx {x : Operand} {t e e' : TypeId} {tt : TE} {b : Zf} {m : Nat} {mu : Bool} (h1 : st.ev x = .c (.sl b 0 m)) (hb : st.h b = some (.row e' (L.map f) mu)) (hm : (L.map f).length = m) (ht : Ka T.ty t = some tt) (hk : tt.kd = .slice e) (hx : ZX x = true) :
    KS E N P ops ⟨some d, .call { callee := .builtin .len, args := #[x], argTypes := #[t] }, ty, pos, af, gd⟩ st ⟨[b], []⟩ ⟨.c (.p (.v (.int .i64 (L.length : Int)))), []⟩ := by
  have := Mk (E := E) (N := N) (ops := ops) (d := d) (ty := ty) (pos := pos) (af := af) (gd := gd) h1 (by rw [hb]; rfl) ht hk hx
  rwa [← hm, List.length_map] at this
theorem Cs {xt yt : TypeId} {x y : Operand} {k k' : IntKind} {a b : Int} (hb : 0 ≤ b) (h1 : st.ev x = .c (.p (.v (.int k a)))) (h2 : st.ev y = .c (.p (.v (.int k' b)))) (hx : ZX x = true) (hy : ZX y = true) :
    KS E N P ops ⟨some d, .binOp .shl xt x y yt, ty, pos, af, gd⟩ st ⟨[], []⟩ ⟨.c (.p (.v (.int k (V4 k a b)))), []⟩ := PL h1 h2 hb rfl hx hy
theorem Zx {xt yt : TypeId} {x y : Operand} {k k' : IntKind} {a b : Int} (hb : 0 ≤ b) (h1 : st.ev x = .c (.p (.v (.int k a)))) (h2 : st.ev y = .c (.p (.v (.int k' b)))) (hx : ZX x = true) (hy : ZX y = true) :
    KS E N P ops ⟨some d, .binOp .shr xt x y yt, ty, pos, af, gd⟩ st ⟨[], []⟩ ⟨.c (.p (.v (.int k (QR k a b)))), []⟩ := PM h1 h2 hb rfl hx hy
theorem Ng {xt yt : TypeId} {x y : Operand} {k : IntKind} {a b : Int} (hb : b ≠ 0) (h1 : st.ev x = .c (.p (.v (.int k a)))) (h2 : st.ev y = .c (.p (.v (.int k b)))) (hx : ZX x = true) (hy : ZX y = true) :
    KS E N P ops ⟨some d, .binOp .quo xt x y yt, ty, pos, af, gd⟩ st ⟨[], []⟩ ⟨.c (.p (.v (.int k (k.wrap (a.tdiv b))))), []⟩ := Za h1 h2 (by simp [G0, hb]) hx hy
theorem Y8 {xt yt : TypeId} {x y : Operand} {k : IntKind} {a b : Int} (hb : b ≠ 0) (h1 : st.ev x = .c (.p (.v (.int k a)))) (h2 : st.ev y = .c (.p (.v (.int k b)))) (hx : ZX x = true) (hy : ZX y = true) :
    KS E N P ops ⟨some d, .binOp .rem xt x y yt, ty, pos, af, gd⟩ st ⟨[], []⟩ ⟨.c (.p (.v (.int k (a.tmod b)))), []⟩ := Za h1 h2 (by simp [G0, hb]) hx hy
theorem PX {lo hi : Nat} : ((L.map f).take hi).drop lo = ((L.take hi).drop lo).map f := by simp
theorem Ez {x : Operand} {y z : Option Operand} {t el e lo hi : Nat} {tt te : TE} (h1 : st.ev x = .c (.p (.l e (L.map f)))) (hlo : Bd st y 0 lo) (hhi : Bd st z L.length hi) (hlh : lo ≤ hi) (hhl : hi ≤ L.length) (ht : Ka T.ty t = some tt) (hk : tt.kd = .slice el) (hel : Ka T.ty el = some te) (he : te.size = e) (hx : ZX x = true) :
    KS E N P ops ⟨some d, .slice t x y z none, ty, pos, af, gd⟩ st ⟨[], []⟩ ⟨.c (.p (.l e (((L.take hi).drop lo).map f))), []⟩ := by
  have := Lj (E := E) (N := N) (ops := ops) (d := d) (ty := ty) (pos := pos) (af := af) (gd := gd) (T := T) (lo := lo) (hi := hi) h1 hlo (by rw [List.length_map]; exact hhi) hlh (by rw [List.length_map]; exact hhl) ht hk hel he hx
  rwa [PX] at this
theorem FM {n : Nat} : Bd st none n n := rfl
theorem C4 {x : Operand} {k : IntKind} {z : Int} {m : Nat} (h0 : 0 ≤ z) (h : st.ev x = .c (.p (.v (.int k z)))) (hc : ZX x = true) : Bd st (some x) m z.toNat := ⟨hc, k, z, h, tn h0⟩
theorem Gl {x y : Operand} {t el e : Nat} {k : IntKind} {p : Int} {tt te : TE} (hp : 0 ≤ p ∧ p ≤ L.length) (h1 : st.ev x = .c (.p (.l e (L.map f)))) (h2 : st.ev y = .c (.p (.v (.int k p)))) (ht : Ka T.ty t = some tt) (hk : tt.kd = .slice el) (hel : Ka T.ty el = some te) (he : te.size = e) (hx : ZX x = true) (hy : ZX y = true) :
    KS E N P ops ⟨some d, .slice t x (some y) none none, ty, pos, af, gd⟩ st ⟨[], []⟩ ⟨.c (.p (.l e ((L.drop p.toNat).map f))), []⟩ := by
  have := Ez (E := E) (N := N) (ops := ops) (d := d) (ty := ty) (pos := pos) (af := af) (gd := gd) (T := T) h1 (C4 hp.1 h2 hy) FM (by have := hp.2; omega) (Nat.le_refl _) ht hk hel he hx
  rwa [List.take_length] at this
theorem Gm {x z : Operand} {t el e : Nat} {k : IntKind} {q : Int} {tt te : TE} (hp : 0 ≤ q ∧ q ≤ L.length) (h1 : st.ev x = .c (.p (.l e (L.map f)))) (h2 : st.ev z = .c (.p (.v (.int k q)))) (ht : Ka T.ty t = some tt) (hk : tt.kd = .slice el) (hel : Ka T.ty el = some te) (he : te.size = e) (hx : ZX x = true) (hy : ZX z = true) :
    KS E N P ops ⟨some d, .slice t x none (some z) none, ty, pos, af, gd⟩ st ⟨[], []⟩ ⟨.c (.p (.l e ((L.take q.toNat).map f))), []⟩ := by
  have := Ez (E := E) (N := N) (ops := ops) (d := d) (ty := ty) (pos := pos) (af := af) (gd := gd) (T := T) h1 FM (C4 hp.1 h2 hy) (Nat.zero_le _) (by have := hp.2; omega) ht hk hel he hx
  simpa using this
theorem DN {x y z : Operand} {t el e : Nat} {k k' : IntKind} {p q : Int} {tt te : TE} (hp : 0 ≤ p ∧ p ≤ q ∧ q ≤ L.length) (h1 : st.ev x = .c (.p (.l e (L.map f)))) (h2 : st.ev y = .c (.p (.v (.int k p)))) (h3 : st.ev z = .c (.p (.v (.int k' q)))) (ht : Ka T.ty t = some tt) (hk : tt.kd = .slice el) (hel : Ka T.ty el = some te) (he : te.size = e) (hx : ZX x = true) (hy : ZX y = true) (hz : ZX z = true) :
    KS E N P ops ⟨some d, .slice t x (some y) (some z) none, ty, pos, af, gd⟩ st ⟨[], []⟩ ⟨.c (.p (.l e (((L.take q.toNat).drop p.toNat).map f))), []⟩ :=
  Ez h1 (C4 hp.1 h2 hy) (C4 (by omega) h3 hz) (by omega) (by omega) ht hk hel he hx
theorem Nh {x y : Operand} {t el e off m : Nat} {b : Zf} {mu : Bool} {rows : List (List PV)} {k : IntKind} {p : Int} {tt te : TE} (hp : 0 ≤ p ∧ p ≤ m) (h1 : st.ev x = .c (.sl b off m)) (hb : st.h b = some (.row e rows mu)) (h2 : st.ev y = .c (.p (.v (.int k p)))) (ht : Ka T.ty t = some tt) (hk : tt.kd = .slice el) (hel : Ka T.ty el = some te) (he : te.size = e) (hx : ZX x = true) (hy : ZX y = true) :
    KS E N P ops ⟨some d, .slice t x (some y) none none, ty, pos, af, gd⟩ st ⟨[b], []⟩ ⟨.c (.sl b (off + p.toNat) (m - p.toNat)), []⟩ := DG h1 hb (C4 hp.1 h2 hy) FM (by have := hp.2; omega) (Nat.le_refl _) ht hk hel he rfl rfl hx
theorem Ni {x z : Operand} {t el e off m : Nat} {b : Zf} {mu : Bool} {rows : List (List PV)} {k : IntKind} {q : Int} {tt te : TE} (hp : 0 ≤ q ∧ q ≤ m) (h1 : st.ev x = .c (.sl b off m)) (hb : st.h b = some (.row e rows mu)) (h2 : st.ev z = .c (.p (.v (.int k q)))) (ht : Ka T.ty t = some tt) (hk : tt.kd = .slice el) (hel : Ka T.ty el = some te) (he : te.size = e) (hx : ZX x = true) (hy : ZX z = true) :
    KS E N P ops ⟨some d, .slice t x none (some z) none, ty, pos, af, gd⟩ st ⟨[b], []⟩ ⟨.c (.sl b off q.toNat), []⟩ := DG h1 hb FM (C4 hp.1 h2 hy) (Nat.zero_le _) (by have := hp.2; omega) ht hk hel he (Nat.add_zero _) (Nat.sub_zero _) hx
def OQ (E : En) (N : Nat) (P : Program) (ops : Array Oper) (o : Oper) (st : St) (rb : List Zf) (tx : TypeId) (e : Nat) (y : Operand) (f : α → List PV) (L : List α) : Prop := NT E N P ops o st rb tx e y (L.map f)
theorem OR {y : Operand} {tx e' : TypeId} {e : Nat} {tt : TE} (hm : y ∈ o.op.operands.toList) (hy : ZX y = true) (h1 : st.ev y = .c (.p (.l e (L.map f)))) (he : Nat.blt 0 e = true) (ht : Ka T.ty tx = some tt) (hk : tt.kd = .slice e') : OQ E N P ops o st [] tx e y f L := Ry hm hy h1 (Nat.le_of_ble_eq_true he) ht hk
theorem Nj {y : Operand} {tx e' : TypeId} {e m : Nat} {b : Zf} {tt : TE} {mu : Bool} (hm : y ∈ o.op.operands.toList) (hy : ZX y = true) (h1 : st.ev y = .c (.sl b 0 m)) (hb : st.h b = some (.row e (L.map f) mu)) (hl : (L.map f).length = m) (ht : Ka T.ty tx = some tt) (hk : tt.kd = .slice e') : OQ E N P ops o st [b] tx e y f L := by
  have := PP (E := E) (N := N) (P := P) (ops := ops) hm hy h1 hb ht hk
  rw [List.drop_zero, ← hl, List.take_length] at this
  exact this
theorem Ly {y : Operand} {tx : TypeId} {tt : TE} {s : ByteArray} (hm : y ∈ o.op.operands.toList) (hy : ZX y = true) (h1 : st.ev y = .c (.p (.v (.string s)))) (ht : Ka T.ty tx = some tt) (hk : tt.kd = .string) : OQ E N P ops o st [] tx 1 y (eI .u8) (sI s) := OD hm hy h1 ht hk
theorem HR {x y : Operand} {t tx el : TypeId} {te tt : TE} {e by' : Nat} {rb : List Zf} (hb : L.length * by' ≤ 140737488355328) (hx : st.ev x = .c (.p (.v (.slice none 0 0)))) (hcx : ZX x = true) (ht : Ka T.ty t = some tt) (hk : tt.kd = .slice el) (hel : Ka T.ty el = some te) (hes : te.size = e) (hbt : te.bytes = by') (hpos : Nat.blt 0 by' = true) (he : Nat.blt 0 e = true) (hz : te.zero.cells.size = e)
    (hsrc : OQ E N P ops ⟨some d, .call { callee := .builtin .append, args := #[x, y], argTypes := #[t, tx] }, ty, pos, af, gd⟩ st rb tx e y f L) :
    KS E N P ops ⟨some d, .call { callee := .builtin .append, args := #[x, y], argTypes := #[t, tx] }, ty, pos, af, gd⟩ st ⟨rb, [(d, 0)]⟩ ⟨.c (.sl (d, 0) 0 (L.map f).length), [((d, 0), some (.row e (L.map f) true))]⟩ :=
  Ln hx hcx ht hk hel hes (Nat.le_of_ble_eq_true he) hz hsrc (by rw [List.length_map]; exact Nat.le_trans (Nat.le_mul_of_pos_right _ (Nat.le_of_ble_eq_true hpos)) hb) (by rw [List.length_map, hbt]; exact hb)
theorem Lz {x y : Operand} {t tx el : TypeId} {te tt : TE} {e m by' : Nat} {b : Zf} {rb : List Zf} (hby : (L.length + L'.length) * by' ≤ 140737488355328) (hx : st.ev x = .c (.sl b 0 m)) (hcx : ZX x = true) (hb : st.h b = some (.row e (L.map f) true)) (hm : (L.map f).length = m) (ht : Ka T.ty t = some tt) (hk : tt.kd = .slice el) (hel : Ka T.ty el = some te) (hes : te.size = e) (hbt : te.bytes = by') (hpos : Nat.blt 0 by' = true) (hz : te.zero.cells.size = e)
    (hsrc : OQ E N P ops ⟨some d, .call { callee := .builtin .append, args := #[x, y], argTypes := #[t, tx] }, ty, pos, af, gd⟩ st rb tx e y f L') :
    KS E N P ops ⟨some d, .call { callee := .builtin .append, args := #[x, y], argTypes := #[t, tx] }, ty, pos, af, gd⟩ st ⟨b :: rb, [(d, 0)]⟩ ⟨.c (.sl (d, 0) 0 ((L ++ L').map f).length), [((d, 0), some (.row e ((L ++ L').map f) true)), (b, none)]⟩ := by
  have hb2 : L.length + L'.length ≤ 140737488355328 := Nat.le_trans (Nat.le_mul_of_pos_right _ (Nat.le_of_ble_eq_true hpos)) hby
  exact Mq hx hcx hb hm ht hk hel hes hz hsrc (List.map_append).symm (by rw [← hm]; simp) (by simpa using hb2) (by rw [hbt]; simpa using hby)
theorem Gn {x : Operand} {s t e : TypeId} {ts te tt : TE} {l : List Int} (h1 : st.ev x = .c (.p (.l 1 (l.map (eI .u8))))) (hs : Ka T.ty s = some ts) (hsk : ts.kd = .slice e) (he : Ka T.ty e = some te) (hek : te.kd = .int .u8) (ht : Ka T.ty t = some tt) (htk : tt.kd = .string) (hx : ZX x = true) :
    KS E N P ops ⟨some d, .convert s t x, ty, pos, af, gd⟩ st ⟨[], []⟩ ⟨.c (.p (.v (.string (strOfNums l)))), []⟩ := Ia h1 rfl hs hsk he hek ht htk hx
theorem F9 {x : Operand} {s t e : TypeId} {ts te tt : TE} {b : Zf} {m : Nat} {mu : Bool} {l : List Int} (h1 : st.ev x = .c (.sl b 0 m)) (hb : st.h b = some (.row 1 (l.map (eI .u8)) mu)) (hm : (l.map (eI .u8)).length = m) (hs : Ka T.ty s = some ts) (hsk : ts.kd = .slice e) (he : Ka T.ty e = some te) (hek : te.kd = .int .u8) (ht : Ka T.ty t = some tt) (htk : tt.kd = .string) (hx : ZX x = true) :
    KS E N P ops ⟨some d, .convert s t x, ty, pos, af, gd⟩ st ⟨[b], []⟩ ⟨.c (.p (.v (.string (strOfNums l)))), []⟩ := by
  have := H4 (E := E) (N := N) (ops := ops) (d := d) (ty := ty) (pos := pos) (af := af) (gd := gd) (T := T) h1 hb rfl hs hsk he hek ht htk hx
  rw [List.length_map] at hm
  rwa [List.drop_zero, ← hm, List.take_length] at this
theorem Nk {n : Nat} {x : α} : (L.map f).set n (f x) = (L.set n x).map f := by rw [List.map_set]
theorem Fa {x y : Operand} {t : TypeId} {te : TE} {b : Zf} {i k e : Nat} {x0 x1 : α} {ps : List PV} {v : TV} {dst : Option Nat} (hi : L[i]? = some x0) (hx : st.ev x = .c (.ptr b i k)) (hb : st.h b = some (.row e (L.map f) true)) (hv : st.ev y = v) (hk : v.known = true) (hps : pvs v.cells = some ps)
    (ht : Ka T.ty t = some te) (hsz : ps.length = te.size) (hin : Nat.ble (k + ps.length) e = true) (hr' : setAt (f x0) k ps = f x1) (hcx : ZX x = true) (hcy : ZX y = true) :
    KS E N P ops ⟨dst, .store t x y, ty, pos, af, gd⟩ st ⟨[b], []⟩ ⟨.c .any, [(b, some (.row e ((L.set i x1).map f) true))]⟩ :=
  H5 hx hb (gm hi) hv hk (MA hps) ht hsz (Nat.le_of_ble_eq_true hin) hr' Nk hcx hcy
end
theorem Z0 {α : Type} {l : List α} {n : Nat} (h : l.length = n) : (l.drop 0).take n = l := by subst h; simp
theorem RI {α β : Type} {f : α → β} {l : List α} {i n : Nat} : ((l.map f).drop i).take n = ((l.drop i).take n).map f := by simp
theorem Nl {α β : Type} {f : α → β} {l : List α} {n : Nat} : ((l.map f).drop 0).take n = (l.take n).map f := by simp
theorem ZK {st : St} {g : Bool} {t : TV} {x : AV} {bs : List Zf} (hg : g = true) (h : ToA st t x bs) : ToA st (gt g t) x bs := by rw [Qe hg]; exact h
theorem QZ {a b : Bool} : (a && (b == true)) = (a && b) := by cases b <;> simp
theorem K5 {a b : Bool} : (a && (b == false)) = (a && !b) := by cases b <;> simp
theorem Jt {a b : Bool} (h : a = true) : (b == true) = (a && b) := by subst h; cases b <;> rfl
theorem UH {a b : Bool} (h : a = true) : (b == false) = (a && !b) := by subst h; cases b <;> rfl
theorem QO {x y : Operand} {ats : Array TypeId} : y ∈ (Op.call { callee := .builtin .append, args := #[x, y], argTypes := ats }).operands.toList := by simp [Op.operands, Call.operands]
def eL {α : Type} (e : Nat) (f : α → List PV) (l : List α) : List PV := [.l e (l.map f)]
theorem Bp {k : IntKind} (n : Int) : (eI k n).all Pz = true := rfl
theorem nl_eS (s : ByteArray) : (eS s).all Pz = true := rfl
theorem Vo {α : Type} {f : α → List PV} (h : ∀ x, (f x).all Pz = true) {L : List α} : ∀ r ∈ L.map f, ∀ p ∈ r, Pz p = true := by
  intro r hr p hp
  obtain ⟨x, _, rfl⟩ := List.mem_map.1 hr
  exact List.all_eq_true.1 (h x) p hp
inductive RJ : RV → Prop
  | p {x : PV} (h : Pz x = true) : RJ (.p x)
  | o {e : Nat} {rows : List (List PV)} (h : ∀ r ∈ rows, ∀ p ∈ r, Pz p = true) : RJ (.own e rows)
inductive Zy : List RV → Prop
  | nil : Zy []
  | cons {x : RV} {l : List RV} (h : RJ x) (hs : Zy l) : Zy (x :: l)
theorem Vt {cs : List RV} (h : Zy cs) : NoLs cs := by
  induction h with
  | nil => exact fun x hx => by cases hx
  | cons h hs ih =>
    intro x hx
    rcases List.mem_cons.1 hx with rfl | hx
    · cases h with
      | p h => exact h
      | o h => exact h
    · exact ih x hx
section
variable {P : Program} {T : Tb P} {st : St} {k0 : Nat}
theorem H6.p {x : PV} (h : st.g k0 = .c (.p x)) : H6 T st (.tmp k0) (.c (.p x)) := .tmpc h (by simp)
theorem H6.s {b : Zf} {off n : Nat} (h : st.g k0 = .c (.sl b off n)) : H6 T st (.tmp k0) (.c (.sl b off n)) := .tmpc h (by simp)
end
section
variable {α : Type} {f : α → List PV} {L L' : List α} {E : En} {N : Nat} {P : Program} {T : Tb P} {ops : Array Oper} {o : Oper} {st : St} {d : Nat} {ty : Nat} {pos : String} {af : Array Edge} {gd : Option (Nat × Bool)} {cx : Cx} {a : Act} {w w' : World} {fr : List (Nat × TV)} {H : List (Zf × Option Bk)}
theorem Q7 {f : FuncId} {xs : Array Operand} {tys : Array TypeId} {avs : List AV} {r : List RS} {t : TV} (hcon : Qq P f avs r []) (hn : avs.any AV.isRef = false) (hok : xs.toList.all ZX = true) (hargs : Gb st (xs.toList.map st.ev) avs []) (hids : (C1 d 0 (Zr r)).map (·.1) = []) (hbl : C1 d 0 (Zr r) ++ UG st [] = []) (ht : IZ d r = t) :
    KS E N P ops ⟨some d, .call { callee := .value (.func f), args := xs, argTypes := tys }, ty, pos, af, gd⟩ st ⟨[], []⟩ ⟨t, []⟩ := QG hcon hn hok hargs hids hbl ht
theorem OS {xt yt : TypeId} {x y : Operand} {b c : Bool} {te : TE} (h1 : st.ev x = .c (.p (.v (.bool b)))) (h2 : st.ev y = .c (.p (.v (.bool c)))) (ht : Ka T.ty xt = some te) (hk : te.kd = .bool) (hx : ZX x = true) (hy : ZX y = true) :
    KS E N P ops ⟨some d, .binOp .eql xt x y yt, ty, pos, af, gd⟩ st ⟨[], []⟩ ⟨.c (.p (.v (.bool (b == c)))), []⟩ :=
  Zv fun st' cx a' w ha hr => by
    obtain ⟨e1, w1⟩ := CJ h1 hx ha (by simp [Op.operands]) hr
    obtain ⟨e2, w2⟩ := CJ h2 hy ha (by simp [Op.operands]) hr
    obtain ⟨dd, i, g1, g2, g3, g4, g5, g6⟩ := Vs (T.ok _ _ ht)
    have hu : P.underlying xt = some .bool := by rw [g1]; rw [hk] at g3; cases dd <;> simp_all [Fi]
    refine ⟨.bool (b == c), ?_, .inr rfl, .v _ rfl⟩
    simp only [execOp, e1, e2, Sem.run_bind, Bj, Result.andThen_ok, binOp, Op.equal, Op.maxDepth, run_equalIn_bool' w _ _ _ _ hu, Sem.run_pure]
theorem OT {xt yt : TypeId} {x y : Operand} {b c : Bool} {te : TE} (h1 : st.ev x = .c (.p (.v (.bool b)))) (h2 : st.ev y = .c (.p (.v (.bool c)))) (ht : Ka T.ty xt = some te) (hk : te.kd = .bool) (hx : ZX x = true) (hy : ZX y = true) :
    KS E N P ops ⟨some d, .binOp .neq xt x y yt, ty, pos, af, gd⟩ st ⟨[], []⟩ ⟨.c (.p (.v (.bool (!(b == c))))), []⟩ :=
  Zv fun st' cx a' w ha hr => by
    obtain ⟨e1, w1⟩ := CJ h1 hx ha (by simp [Op.operands]) hr
    obtain ⟨e2, w2⟩ := CJ h2 hy ha (by simp [Op.operands]) hr
    obtain ⟨dd, i, g1, g2, g3, g4, g5, g6⟩ := Vs (T.ok _ _ ht)
    have hu : P.underlying xt = some .bool := by rw [g1]; rw [hk] at g3; cases dd <;> simp_all [Fi]
    refine ⟨.bool (!(b == c)), ?_, .inr rfl, .v _ rfl⟩
    simp only [execOp, e1, e2, Sem.run_bind, Bj, Result.andThen_ok, binOp, Op.equal, Op.maxDepth, run_equalIn_bool' w _ _ _ _ hu, Sem.run_pure]
def CS (P : Program) : Nat → List Field → List Value → List Value → Bool
  | _, [], [], [] => true
  | i, f :: fs, x :: xs, y :: ys => f.name != "_" && Nat.beq f.offset i && (match P.underlying f.type, x, y with
    | some (.int _), .int k _, .int k' _ => decide (k = k')
    | some .bool, .bool _, .bool _ => true
    | some .string, .string _, .string _ => true
    | _, _, _ => false) && CS P (i + 1) fs xs ys
  | _, _, _, _ => false
def Nn (P : Program) (t : TypeId) (xs ys : List Value) : Bool := match P.underlying t with
  | some (.struct fs) => CS P 0 fs.toList xs ys && !P.stoodInHeld t && !P.eqGuardType P.depth t
  | _ => false
def MG : TypeDesc → Bool
  | .int _ | .bool | .string => true
  | _ => false
theorem HT {e : TypeId} {dsc : TypeDesc} (hu : P.underlying e = some dsc) (ha : MG dsc = true) {xs : Array Value} {i : Nat} {v : Value} (hx : xs[i]? = some v) : (part e xs i).run P w = .ok v w := by
  cases dsc <;> simp [MG] at ha <;> simp [part, isAgg, run_underlying hu, hx]
theorem Io {xs ys : Array Value} : ∀ (fs : List Field) (i : Nat) (us vs : List Value), CS P i fs us vs = true → xs.toList.drop i = us → ys.toList.drop i = vs → (Op.eqFields 9999 xs ys fs).run P w = .ok (MF us vs) w := by
  intro fs
  induction fs with
  | nil =>
    intro i us vs h h1 h2
    cases us <;> cases vs <;> simp [CS] at h
    simp [Op.eqFields, MF, Sem.run_pure]
  | cons f fs ih =>
    intro i us vs h h1 h2
    cases us with
    | nil => simp [CS] at h
    | cons u us =>
      cases vs with
      | nil => simp [CS] at h
      | cons v vs =>
        simp only [CS, Bool.and_eq_true] at h
        obtain ⟨⟨⟨hn, hi⟩, hk⟩, hr⟩ := h
        have hi := Nat.eq_of_beq_eq_true hi
        have hu : xs[i]? = some u := by have := congrArg (·[0]?) h1; simpa [List.getElem?_drop] using this
        have hv : ys[i]? = some v := by have := congrArg (·[0]?) h2; simpa [List.getElem?_drop] using this
        have h1' : xs.toList.drop (i + 1) = us := by rw [← List.drop_drop, h1]; rfl
        have h2' : ys.toList.drop (i + 1) = vs := by rw [← List.drop_drop, h2]; rfl
        have hih := ih (i + 1) us vs hr h1' h2'
        have hne : f.name ≠ "_" := by simpa using hn
        have key : ∃ dsc, P.underlying f.type = some dsc ∧ MG dsc = true ∧ (Op.equalIn 9999 f.type u v).run P w = .ok (eqV u v) w := by
          split at hk
          · rename_i k0 k a k' b hd
            have := of_decide_eq_true hk; subst this
            exact ⟨_, hd, rfl, run_equalIn_int w 9998 _ _ _ _ _ hd⟩
          · rename_i a b hd
            exact ⟨_, hd, rfl, run_equalIn_bool' w 9998 _ _ _ hd⟩
          · rename_i a b hd
            exact ⟨_, hd, rfl, run_equalIn_string w 9998 _ _ _ hd⟩
          · cases hk
        obtain ⟨dsc, hd, ha, he⟩ := key
        simp only [Op.eqFields, if_pos hne, Sem.run_bind, hi, HT hd ha hu, HT hd ha hv, Result.andThen_ok, he, MF]
        cases heq : eqV u v
        · simp [Sem.run_pure]
        · simp [hih]
theorem No {t : TypeId} {us vs : List Value} (h : Nn P t us vs = true) : (Op.equalIn 10000 t (.agg us.toArray) (.agg vs.toArray)).run P w = .ok (MF us vs) w ∧ P.eqGuardType P.depth t = false := by
  unfold Nn at h
  split at h
  · rename_i fs hu
    simp only [Bool.and_eq_true, Bool.not_eq_true'] at h
    obtain ⟨⟨h1, h2⟩, h3⟩ := h
    have hfo : P.fieldsOf t = fs := by unfold Program.fieldsOf; rw [hu]
    refine ⟨?_, h3⟩
    rw [run_equalIn_struct w 9999 t _ _ (by rw [hfo]; exact hu) h2, hfo]
    exact Io fs.toList 0 us vs h1 rfl rfl
  · cases h
theorem DO {st' : St} {x : Operand} {us : List Value} {f : Fp} (hx : st.ev x = .agg (us.map fun v => .p (.v v))) (hc : ZX x = true) (ha : Agree ops o f st st') (hm : x ∈ o.op.operands.toList) (hr : Vn E N cx st' a w) : a.eval x = .agg us.toArray := by
  have := hr.ev hc
  rw [Jh ha hm, hx] at this
  obtain ⟨vs, h1, h2, h3⟩ := this
  rw [h1]
  have key : vs = us.toArray := by
    apply Array.ext_getElem?
    intro i
    cases hu : us[i]? with
    | none =>
      have h4 : us.length ≤ i := by simpa using hu
      rw [Array.getElem?_eq_none (by rw [h2]; simpa using h4), List.getElem?_toArray, hu]
    | some u =>
      obtain ⟨v, h5, h6, h7⟩ := h3 i (.p (.v u)) (by rw [List.getElem?_map, hu]; rfl)
      rw [h5, List.getElem?_toArray, hu]
      cases h7 with | v _ _ => rfl
  rw [key]
theorem OU {xt yt : TypeId} {x y : Operand} {us vs : List Value} {c : Bool} {cx1 cy1 : List CV} (h1 : st.ev x = .agg cx1) (h2 : st.ev y = .agg cy1) (hf : Nn P xt us vs = true) (he : MF us vs = c) (hcx : cx1 = us.map fun v => .p (.v v)) (hcy : cy1 = vs.map fun v => .p (.v v)) (hx : ZX x = true) (hy : ZX y = true) (htr : true = true) :
    KS E N P ops ⟨some d, .binOp .eql xt x y yt, ty, pos, af, gd⟩ st ⟨[], []⟩ ⟨.c (.p (.v (.bool c))), []⟩ :=
  Zv fun st' cx a' w ha hr => by
    subst hcx hcy he
    have e1 := DO h1 hx ha (by simp [Op.operands]) hr
    have e2 := DO h2 hy ha (by simp [Op.operands]) hr
    obtain ⟨h3, h4⟩ := No (w := w) hf
    refine ⟨_, ?_, .inr rfl, .v _ rfl⟩
    simp only [execOp, e1, e2, Sem.run_bind, run_eqGuard_agg w _ _ _ _ _ _ h4, Result.andThen_ok, run_eql_struct, h3, Sem.run_pure]
theorem CW {xt yt : TypeId} {x y : Operand} {us vs : List Value} {c : Bool} {cx1 cy1 : List CV} (h1 : st.ev x = .agg cx1) (h2 : st.ev y = .agg cy1) (hf : Nn P xt us vs = true) (he : (!MF us vs) = c) (hcx : cx1 = us.map fun v => .p (.v v)) (hcy : cy1 = vs.map fun v => .p (.v v)) (hx : ZX x = true) (hy : ZX y = true) (htr : true = true) :
    KS E N P ops ⟨some d, .binOp .neq xt x y yt, ty, pos, af, gd⟩ st ⟨[], []⟩ ⟨.c (.p (.v (.bool c))), []⟩ :=
  Zv fun st' cx a' w ha hr => by
    subst hcx hcy he
    have e1 := DO h1 hx ha (by simp [Op.operands]) hr
    have e2 := DO h2 hy ha (by simp [Op.operands]) hr
    obtain ⟨h3, h4⟩ := No (w := w) hf
    refine ⟨_, ?_, .inr rfl, .v _ rfl⟩
    simp only [execOp, e1, e2, Sem.run_bind, run_eqGuard_agg w _ _ _ _ _ _ h4, Result.andThen_ok, run_neq_struct, h3, Sem.run_pure]
end
inductive Cr (st : St) : CV → PV → Prop
  | k (x : PV) : Cr st (.p x) x
  | nil (e : Nat) : Cr st (.p (.v (.slice none 0 0))) (.l e [])
  | fr {b : Zf} {e off n : Nat} {rows rows' : List (List PV)} (hb : st.h b = some (.row e rows false)) (hr : (rows.drop off).take n = rows') : Cr st (.sl b off n) (.l e rows')
inductive Ip (st : St) : List CV → List PV → Prop
  | nil : Ip st [] []
  | cons {c : CV} {x : PV} {cs : List CV} {xs : List PV} (h : Cr st c x) (hs : Ip st cs xs) : Ip st (c :: cs) (x :: xs)
theorem Ip.agree {st st' : St} {cs : List CV} {xs : List PV} (h : Ip st cs xs) (ha : ∀ b ∈ Wc cs, st'.h b = st.h b) : Ip st' cs xs := by
  induction h with
  | nil => exact .nil
  | @cons c x cs xs h hs ih =>
    have h1 : ∀ b ∈ c.ment, st'.h b = st.h b := fun b hb => ha b (by unfold Wc; rw [List.flatMap_cons]; exact List.mem_append_left _ hb)
    refine .cons ?_ (ih fun b hb => ha b (by unfold Wc at hb ⊢; rw [List.flatMap_cons]; exact List.mem_append_right _ hb))
    cases h with
    | k => exact .k _
    | nil e => exact .nil e
    | @fr b e off n rows rows' hb hr => exact .fr (by rw [h1 b (by simp [CV.ment])]; exact hb) hr
theorem Ip.cts {st : St} {cs : List CV} {xs : List PV} (h : Ip st cs xs) : O1 st cs (xs.map .p) := by
  induction h with
  | nil => exact .nil
  | cons h hs ih =>
    refine .cons ?_ ih
    cases h with
    | k => exact .k _
    | nil e => exact .nil e
    | fr hb hr => exact .fr hb hr
section
variable {E : En} {N : Nat} {P : Program} {T : Tb P} {ops : Array Oper} {o : Oper} {st : St} {d : Nat} {ty : Nat} {pos : String} {af : Array Edge} {gd : Option (Nat × Bool)} {cx : Cx} {a : Act} {w w' : World}
theorem MH {cs : List CV} {xs : List PV} {vs : Array Value} (hr : Vn E N cx st a w) (h : Ip st cs xs) (hc : RL cx w st.h cs vs) : RL cx w st.h (xs.map .p) vs := RH hr h.cts hc
theorem Fb {parts : Array (Nat × Operand)} {t e n sz : Nat} {tt te : TE} {zs : List Value} {cs : List CV} {ps : List PV} {rows : List (List PV)} (ht : Ka T.ty t = some tt) (hk : tt.kd = .slice e) (hel : Ka T.ty e = some te) (hsz : te.size = sz) (hpos : Nat.blt 0 (n * sz) = true) (hsm : Nat.ble (n * sz) 16777216 = true)
    (hz : te.zero.cells.toList = zs) (hat : zs.all JW = true) (hf : Gi (fun i => some (i * sz, sz)) ((List.range (n * sz)).map fun i => .p (.v (zs.getD (i % zs.length) undef))) (parts.toList.map fun x => (x.1, st.ev x.2)) = some cs) (hct : Ip st cs ps) (hrows : Bo sz n ps = rows)
    (hzl : zs.length = sz) (hok : parts.toList.all (fun x => ZX x.2) = true) :
    KS E N P ops ⟨some d, .buildSlice t n parts, ty, pos, af, gd⟩ st ⟨Wc cs, [(d, 0)]⟩ ⟨.c (.sl (d, 0) 0 n), [((d, 0), some (.row sz rows true))]⟩ := by
  intro st' ha hfr hd cx a w Q hr
  have hpos := Nat.le_of_ble_eq_true hpos
  have hsm := Nat.le_of_ble_eq_true hsm
  have hn0 : 0 < n := Nat.pos_of_ne_zero (fun h => by rw [h] at hpos; omega)
  have hsz0 : 0 < sz := Nat.pos_of_ne_zero (fun h => by rw [h] at hpos; omega)
  have hu := KA ht hk
  obtain ⟨dd', i', h1', h2', h3', h4', h5', h6'⟩ := Vs (T.ok _ _ hel)
  have hm : ∀ x ∈ parts.toList, x.2 ∈ (Op.buildSlice t n parts).operands.toList := fun x hx => by
    simp only [Op.operands, Array.toList_map, List.mem_map]; exact ⟨x, hx, rfl⟩
  have hz0 : RL cx w st'.h ((List.range (n * sz)).map fun i => .p (.v (zs.getD (i % zs.length) undef))) ((Array.range (n * te.size)).map (te.zero.cells[· % te.zero.cells.size]!)) := by
    have hzs : te.zero.cells.size = sz := by rw [← hzl, ← hz]; simp
    refine ⟨by simp [hsz], fun i c hi => ?_⟩
    rw [List.getElem?_map, Option.map_eq_some_iff] at hi
    obtain ⟨j, hj, rfl⟩ := hi
    have hil : i < n * sz := by simpa using (List.getElem?_eq_some_iff.1 hj).1
    rw [List.getElem?_range hil] at hj
    cases hj
    have hmod : i % sz < sz := Nat.mod_lt _ hsz0
    have hat' : JW (zs.getD (i % zs.length) undef) = true := by
      rw [hzl, List.getD_eq_getElem?_getD, List.getElem?_eq_getElem (by omega)]
      exact List.all_eq_true.1 hat _ (List.getElem_mem _)
    refine ⟨zs.getD (i % zs.length) undef, ?_, JB hat', .v _ hat'⟩
    rw [Array.getElem?_map, Array.getElem?_range, hsz, if_pos hil, Option.map_some, hzs, hzl]
    congr 1
    have hbd : i % sz < te.zero.cells.size := by rw [hzs]; exact hmod
    have hg : zs[i % sz]? = some (te.zero.cells[i % sz]'hbd) := by rw [← hz, Array.getElem?_toList, Array.getElem?_eq_getElem]
    rw [getElem!_pos te.zero.cells _ hbd, List.getD_eq_getElem?_getD, hg]
    rfl
  obtain ⟨cells', h7, h8⟩ := DJ (cx := cx) (w := w) (h := st'.h) hf hz0 (vs := (parts.map fun (i, x) => (i, a.eval x)).toList) (by simp) (C3 hr ha (fun x hx => hm x hx) hok)
  replace h8 := MH hr (hct.agree ha.2) h8
  have hlen : cells'.size = n * sz := by
    rw [Ey h7]; simp [hsz]
  have hpl : ps.length = n * sz := by
    have := h8.1; rw [List.length_map] at this; omega
  obtain ⟨c1, c2, c3⟩ := CR sz n ps hpl
  rw [hrows] at c1 c2 c3
  have hrun := run_buildSlice (P := P) w t e n (parts.map fun (i, x) => (i, a.eval x)) cells' i' te.zero hu h2' h6' (by rw [h4', hsz]; omega) (by rw [h4', hsz]; omega) (by rw [h4', hsz]; rw [hsz] at h7; exact h7)
  refine YJ (v := .slice (some ⟨w.heap.size, 0, none⟩) n n) (w' := w.alloc (.cells cells' e)) (by simp only [execOp, Sem.run_bind, hrun]; rfl) ⟨_, We (w' := w.alloc (.cells cells' e)) (bk := .row sz rows true) (t := .c (.sl (d, 0) 0 n)) hr hd (b := (d, 0)) (hd d rfl) (hfr (d, 0) (by simp)) (ob := .cells cells' e) rfl rfl rfl rfl ?_ ?_⟩
  · refine ⟨hsz0, c2, ?_⟩
    simp only [Cx.upd, if_true]
    refine ⟨trivial, cells', e, (0, 0), n, Xe rfl, fun _ => ⟨rfl, fun h => ?_⟩, (fun h => by cases h), hlen, by omega, by unfold maxLen; have := Nat.le_mul_of_pos_right n hsz0; omega, fun i r k p hi hk => ?_⟩
    · have := (hr.A _ h).1; omega
    · have hp := c3 i r k p hi hk
      obtain ⟨u, hu, h9, h10⟩ := h8.2 (i * sz + k) (.p p) (by rw [List.getElem?_map, hp]; rfl)
      exact ⟨u, by simpa using hu, RP.keeps h10 (fun _ h => h) (VS rfl)⟩
  · refine ⟨.inr rfl, fun bk hbk => ?_⟩
    rw [XB, if_pos rfl] at hbk
    cases hbk
    refine ⟨_, n, rfl, Nat.le_refl _, by unfold maxLen; have := Nat.le_mul_of_pos_right n hsz0; omega, by simp [Bk.len, c1], .inr ⟨w.heap.size, cells', e, (0, 0), by simp [Cx.upd], by simp [Bk.e], Xe rfl, fun _ => by simp [Bk.e, hlen]⟩⟩
theorem Gp {x y : Operand} {t : TypeId} {te : TE} {b : Zf} {i k e : Nat} {rows rows' : List (List PV)} {r r' ps : List PV} {v : TV} {dst : Option Nat} (hx : st.ev x = .c (.ptr b i k)) (hb : st.h b = some (.row e rows true)) (hi : rows[i]? = some r) (hv : st.ev y = v) (hk : v.known = true) (hct : Ip st v.cells ps)
    (ht : Ka T.ty t = some te) (hsz : ps.length = te.size) (hin : k + ps.length ≤ e) (hr' : setAt r k ps = r') (hrows : rows.set i r' = rows') (hcx : ZX x = true) (hcy : ZX y = true) :
    KS E N P ops ⟨dst, .store t x y, ty, pos, af, gd⟩ st ⟨b :: Wc v.cells, []⟩ ⟨.c .any, [(b, some (.row e rows' true))]⟩ := by
  intro st' ha hf hd cx a w Q hr
  have he := hr.ev hcy
  rw [Jh ha (by simp [Op.operands]), hv] at he
  have hrl := UX hk he
  replace hrl := MH hr (hct.agree fun b' hb' => ha.2 b' (List.mem_cons_of_mem _ hb')) hrl
  obtain ⟨-, h4⟩ := H0 hx hcx ha (by simp [Op.operands]) hr
  have hb' : st'.h b = some (.row e rows true) := by rw [ha.2 b (by simp)]; exact hb
  obtain ⟨g, q, h5, h6⟩ := h4 _ hb'
  have hbl := hr.bl b _ hb'
  obtain ⟨h7, h8, h9⟩ := hbl
  rw [h5] at h9
  obtain ⟨rfl, c, el, fz, capR, h10, h11, h12, h13, h14, h15, h16⟩ := h9
  obtain ⟨rfl, hnA⟩ := h11 rfl
  have hil := (List.getElem?_eq_some_iff.1 hi).1
  have hrl2 := h8 r (List.mem_of_getElem? hi)
  have h6' : a.eval x = .pointer (some ⟨g, i * e + k, none⟩) := by simpa [Bk.e] using h6
  have hcl : (a.eval y).cells.size = ps.length := by have := hrl.1; simpa using this
  have hbig : i * e + e ≤ c.size := by
    have : (i + 1) * e ≤ capR * e := Nat.mul_le_mul_right e (by omega)
    rw [Nat.add_mul] at this
    omega
  have hrun := Ag (w := w) (g := g) (q := i * e + k) (u := a.eval y) ht (by rw [hcl, hsz]) h10 (by omega) (Mo hrl)
  obtain ⟨c2, hc2⟩ : ∃ c2, c2 = (c.toList.take (i * e + k) ++ (a.eval y).cells.toList ++ c.toList.drop (i * e + k + (a.eval y).cells.size)).toArray := ⟨_, rfl⟩
  rw [← hc2] at hrun
  have hlen : c2.size = c.size := by rw [hc2]; simp; omega
  refine upon_skip (w' := w.setRow g c2) (by simp only [execOp, h6', Sem.run_bind, Instr.storeAt, Instr.sureAddr, Sem.run_pure, Result.andThen_ok, hrun]) ⟨cx, ?_⟩
  have hkeep : Vl cx.A w (w.setRow g c2) := ⟨by simp, fun g' hA _ => setRow_other w g g' c2 (fun e => hnA (e ▸ hA))⟩
  have hr'l : r'.length = e := by rw [← hr', C0 r k ps (by omega)]; exact hrl2
  refine CL (t := .c .any) (bk' := .row e rows' true) hr hd hb' rfl (by simp [Bk.len, ← hrows]) h5 hnA h10 rfl hlen ⟨h7, ?_, ?_⟩ ⟨.inl rfl, trivial⟩
  · intro r2 hr2
    rw [← hrows] at hr2
    rcases List.mem_or_eq_of_mem_set hr2 with h | h
    · exact h8 r2 h
    · rw [h]; exact hr'l
  · rw [h5]
    refine ⟨rfl, c2, el, (0, 0), capR, setRow_heap w g c c2 el _ h10, fun _ => ⟨rfl, hnA⟩, (fun h => by cases h), by rw [hlen]; exact h13, by rw [← hrows]; simpa using h14, h15, fun i2 r2 k2 p2 hi2 hk2 => ?_⟩
    have hidx : ∀ j, c2[j]? = if j < i * e + k ∨ i * e + k + ps.length ≤ j then c[j]? else (a.eval y).cells[j - (i * e + k)]? := by
      intro j
      have h17 := U7 c.toList (i * e + k) (a.eval y).cells.toList (by simp; omega)
      rw [hc2, show i * e + k + (a.eval y).cells.size = i * e + k + (a.eval y).cells.toList.length by simp, ← h17, List.getElem?_toArray, U8 _ _ _ (by simp; omega)]
      simp only [Array.length_toList, hcl, Array.getElem?_toList]
    have hk2l : k2 < e := by
      have h1 := (List.getElem?_eq_some_iff.1 hk2).1
      have : r2.length = e := by
        rw [← hrows] at hi2
        rcases List.mem_or_eq_of_mem_set (List.mem_of_getElem? hi2) with h | h
        · exact h8 r2 h
        · rw [h]; exact hr'l
      omega
    rw [← hrows, List.getElem?_set] at hi2
    rw [hidx]
    by_cases e1 : i = i2
    · rw [if_pos e1, if_pos hil] at hi2
      cases hi2
      subst e1
      rw [← hr', U8 r k ps (by omega)] at hk2
      by_cases h17 : k2 < k ∨ k + ps.length ≤ k2
      · rw [if_pos h17] at hk2
        rw [if_pos (by omega)]
        obtain ⟨cv, h18, h19⟩ := h16 i r k2 p2 hi hk2
        exact ⟨cv, h18, h19.keeps (fun _ h => h) hkeep⟩
      · rw [if_neg h17] at hk2
        rw [if_neg (by omega)]
        obtain ⟨u, h18, h19, h20⟩ := hrl.2 (k2 - k) (.p p2) (by rw [List.getElem?_map, hk2]; rfl)
        refine ⟨u, ?_, RP.keeps h20 (fun _ h => h) hkeep⟩
        rw [← h18]
        congr 1
        omega
    · rw [if_neg e1] at hi2
      have hi2l := (List.getElem?_eq_some_iff.1 hi2).1
      have hout : i2 * e + k2 < i * e + k ∨ i * e + k + ps.length ≤ i2 * e + k2 := by
        rcases Nat.lt_or_gt_of_ne e1 with h | h
        · right
          have : (i + 1) * e ≤ i2 * e := Nat.mul_le_mul_right e h
          rw [Nat.add_mul] at this
          omega
        · left
          have : (i2 + 1) * e ≤ i * e := Nat.mul_le_mul_right e h
          rw [Nat.add_mul] at this
          omega
      rw [if_pos hout]
      obtain ⟨cv, h18, h19⟩ := h16 i2 r2 k2 p2 hi2 hk2
      exact ⟨cv, h18, h19.keeps (fun _ h => h) hkeep⟩
theorem DR {α : Type} {f : α → List PV} {L : List α} {x y : Operand} {t : TypeId} {te : TE} {b : Zf} {i k e : Nat} {x0 x1 : α} {ps : List PV} {v : TV} {dst : Option Nat} (hi : L[i]? = some x0) (hx : st.ev x = .c (.ptr b i k)) (hb : st.h b = some (.row e (L.map f) true)) (hv : st.ev y = v) (hk : v.known = true) (hct : Ip st v.cells ps)
    (ht : Ka T.ty t = some te) (hsz : ps.length = te.size) (hin : Nat.ble (k + ps.length) e = true) (hr' : setAt (f x0) k ps = f x1) (hcx : ZX x = true) (hcy : ZX y = true) :
    KS E N P ops ⟨dst, .store t x y, ty, pos, af, gd⟩ st ⟨b :: Wc v.cells, []⟩ ⟨.c .any, [(b, some (.row e ((L.set i x1).map f) true))]⟩ :=
  Gp hx hb (gm hi) hv hk hct ht hsz (Nat.le_of_ble_eq_true hin) hr' Nk hcx hcy
theorem OV {α : Type} {f : α → List PV} {z : α} {x y : Operand} {t el e by' : Nat} {tt te : TE} {k k' : IntKind} {n : Int} {zs : List Value} (hn : 0 ≤ n ∧ n * (by' : Nat) ≤ 140737488355328) (h1 : st.ev x = .c (.p (.v (.int k n)))) (h2 : st.ev y = .c (.p (.v (.int k' n)))) (ht : Ka T.ty t = some tt) (hk : tt.kd = .slice el) (hel : Ka T.ty el = some te) (hes : te.size = e) (hbt : te.bytes = by') (hpos : (Nat.blt 0 by' && Nat.blt 0 e) = true) (hz : te.zero.cells.toList = zs)
    (hct : Ip (⟨[], []⟩ : St) (zs.map fun v => .p (.v v)) (f z)) (hat : zs.all JW = true) (hok : (ZX x && ZX y && Nat.beq zs.length e) = true) :
    KS E N P ops ⟨some d, .makeSlice t x y, ty, pos, af, gd⟩ st ⟨[], [(d, 0)]⟩ ⟨.c (.sl (d, 0) 0 ((List.replicate n.toNat z).map f).length), [((d, 0), some (.row e ((List.replicate n.toNat z).map f) true))]⟩ := by
  intro st' ha hfr hd cx a w Q hr
  simp only [Bool.and_eq_true] at hok hpos
  have he0 : 0 < e := Nat.le_of_ble_eq_true hpos.2
  have hb0 : 0 < by' := Nat.le_of_ble_eq_true hpos.1
  have e1 := (CJ h1 hok.1.1 ha (by simp [Op.operands]) hr).1
  have e2 := (CJ h2 hok.1.2 ha (by simp [Op.operands]) hr).1
  obtain ⟨i, hi1, hi2, hi3, hi4⟩ := FL hel
  have hzl : te.zero.cells.size = e := by have := Nat.eq_of_beq_eq_true hok.2; rw [← hz] at this; simpa using this
  have hnb : n ≤ 140737488355328 := by
    have h3 : n * 1 ≤ n * (by' : Nat) := Int.mul_le_mul_of_nonneg_left (by omega) hn.1
    omega
  have hrun := run_make (P := P) (w := w) t el i te.zero (KA ht hk) hi1 hi4 k k' n n hn.1 (Int.le_refl _) (by rw [hi3, hbt, Int.mul_comm]; omega) (by omega)
  rw [hi2, hes] at hrun
  have hct' : Ip st' (zs.map fun v => .p (.v v)) (f z) := by
    refine (Ip.agree hct (fun b hb => ?_) : Ip st' _ _)
    simp only [Wc, List.mem_flatMap, List.mem_map] at hb
    obtain ⟨c, ⟨y, _, rfl⟩, h2⟩ := hb
    simp [CV.ment] at h2
  have hrz := MH hr hct' (Gj (cx := cx) (w := w) (h := st'.h) hz hat)
  have hfl : (f z).length = e := by have := hrz.1; rw [List.length_map] at this; omega
  have hmk : ∀ (i : Nat) (r : List PV) (k : Nat) (p : PV), ((List.replicate n.toNat z).map f)[i]? = some r → r[k]? = some p → ∃ cv, (madeCells te.zero.cells (n.toNat * e))[i * e + k]? = some cv ∧ RP w cx.A p cv := by
    intro i r k p hi hk
    rw [List.getElem?_map, Option.map_eq_some_iff] at hi
    obtain ⟨z', hz', rfl⟩ := hi
    have hil : i < n.toNat := by have := (List.getElem?_eq_some_iff.1 hz').1; simpa using this
    have : z' = z := by have := List.mem_of_getElem? hz'; exact (List.mem_replicate.1 this).2
    subst this
    obtain ⟨u, hu, h3, h4⟩ := hrz.2 k (.p p) (by rw [List.getElem?_map, hk]; rfl)
    have hkl : k < e := by have := (List.getElem?_eq_some_iff.1 hk).1; omega
    refine ⟨u, ?_, h4⟩
    have hlt : i * e + k < n.toNat * e := by
      have : (i + 1) * e ≤ n.toNat * e := Nat.mul_le_mul_right e hil
      rw [Nat.add_mul] at this
      omega
    have hmod : (i * e + k) % e = k := by rw [Nat.mul_comm, Nat.mul_add_mod]; exact Nat.mod_eq_of_lt hkl
    unfold madeCells
    rw [Array.getElem?_map, Array.getElem?_range, if_pos hlt, Option.map_some, hzl, hmod, ← hu]
    have hb : k < te.zero.cells.size := by omega
    rw [getElem!_pos te.zero.cells _ hb, Array.getElem?_eq_getElem hb]
  have hsz : (madeCells te.zero.cells (n.toNat * e)).size = n.toNat * e := size_madeCells _ _
  have hlen : ((List.replicate n.toNat z).map f).length = n.toNat := by simp
  refine YJ (v := .slice (some ⟨w.heap.size, 0, none⟩) n.toNat n.toNat) (w' := w.alloc (.cells (madeCells te.zero.cells (n.toNat * e)) el)) (by simp only [execOp, e1, e2, Sem.run_bind, hrun]; rfl) ⟨_, We (w' := w.alloc (.cells (madeCells te.zero.cells (n.toNat * e)) el)) (bk := .row e ((List.replicate n.toNat z).map f) true) (t := .c (.sl (d, 0) 0 ((List.replicate n.toNat z).map f).length)) hr hd (b := (d, 0)) (hd d rfl) (hfr (d, 0) (by simp)) (ob := .cells (madeCells te.zero.cells (n.toNat * e)) el) rfl rfl rfl rfl ?_ ?_⟩
  · refine ⟨he0, fun r hr' => ?_, ?_⟩
    · obtain ⟨z', hz', rfl⟩ := List.mem_map.1 hr'
      rw [(List.mem_replicate.1 hz').2]; exact hfl
    · simp only [Cx.upd, if_true]
      refine ⟨trivial, _, el, (0, 0), n.toNat, Xe rfl, fun _ => ⟨rfl, fun h => ?_⟩, (fun h => by cases h), hsz, by rw [hlen]; exact Nat.le_refl _, by unfold maxLen; omega, fun i r k p hi hk => ?_⟩
      · have := (hr.A _ h).1; omega
      · obtain ⟨cv, h3, h4⟩ := hmk i r k p hi hk
        exact ⟨cv, h3, RP.keeps h4 (fun _ h => h) (VS rfl)⟩
  · refine ⟨.inr rfl, fun bk hbk => ?_⟩
    rw [XB, if_pos rfl] at hbk
    cases hbk
    refine ⟨_, n.toNat, by rw [hlen], by rw [hlen]; exact Nat.le_refl _, by unfold maxLen; omega, by simp [Bk.len], .inr ⟨w.heap.size, _, el, (0, 0), by simp [Cx.upd], by simp [Bk.e], Xe rfl, fun _ => by simp [Bk.e, hsz]⟩⟩
theorem Np {x : Operand} {s0 t e : TypeId} {ts tt : TE} {s : ByteArray} (hb : s.size ≤ 140737488355328) (h1 : st.ev x = .c (.p (.v (.string s)))) (hs : Ka T.ty s0 = some ts) (hsk : ts.kd = .string) (ht : Ka T.ty t = some tt) (htk : tt.kd = .slice e) (hok : ZX x = true) (he : (Ka T.ty e).map (·.kd) = some (.int .u8)) :
    KS E N P ops ⟨some d, .convert s0 t x, ty, pos, af, gd⟩ st ⟨[], []⟩ ⟨.c (.p (.l 1 ((sI s).map (eI .u8)))), []⟩ := by
  intro st' ha hfr hd cx a w Q hr
  have e1 := (CJ h1 hok ha (by simp [Op.operands]) hr).1
  obtain ⟨te, hte, hek⟩ := Option.map_eq_some_iff.1 he
  obtain ⟨de, ie, g1, g2, g3, g4, g5, g6⟩ := Vs (T.ok _ _ hte)
  have hue : P.underlying e = some (.int .u8) := by
    rw [g1]; rw [hek] at g3
    cases de <;> simp [Fi] at g3
    rw [g3]
  have hrun := run_bytes_of_string (P := P) w s0 t e s (U0 hs hsk) (KA ht htk) hue
  have hcge := grownCap_ge w s.size 0 e
  have hcle := grownCap_le_maxLen w s.size 0 e (by unfold maxLen; omega)
  generalize hcap : grownCap w s.size 0 e = cap at hrun hcge hcle
  obtain ⟨w', hw'⟩ : ∃ w', w' = w.drew.alloc (.cells (bytesRow s cap) e ((bytesRow s cap).size, (bytesRow s cap).size + 1)) := ⟨_, rfl⟩
  rw [← hw'] at hrun
  have hh : w'.heap = w.heap.push (.cells (bytesRow s cap) e ((bytesRow s cap).size, (bytesRow s cap).size + 1)) := by rw [hw']; rfl
  let cx' : Cx := ⟨cx.ι, fun x => cx.A x ∨ x = w.heap.size⟩
  have hA : ∀ g, cx.A g → cx'.A g := fun g h => .inl h
  have hk : Vl cx.A w w' := VS hh
  have hlen : ((sI s).map (eI .u8)).length = s.size := by rw [List.length_map, Vr]
  refine YJ (v := .slice (some ⟨w.heap.size, 0, none⟩) s.size cap) (w' := w') (by simp only [execOp, e1, Sem.run_bind, hrun]; rfl) ⟨cx', ?_⟩
  refine hr.step (ef := ⟨.c (.p (.l 1 ((sI s).map (eI .u8)))), []⟩) hd [] (fun b hb => by cases hb) hA (fun g hg => hg.elim .inl fun h => .inr ⟨by rw [h, hh]; simp, .inl (by rw [h]; exact hr.sz)⟩) hk (fun g hg _ => U6 hh (Nat.lt_of_lt_of_le hg hr.sz)) (by rw [hw']; rfl) (by rw [hw']; rfl) (by rw [hw']; rfl) ?_ ?_ ?_ ?_ ?_ rfl
  · intro b _ bk' hbk
    exact ⟨bk', hbk, rfl, Nat.le_refl _, rfl, fun g q c el fz h1 h2 => ⟨c, el, fz, by rw [U6 hh (Array.getElem?_eq_some_iff.1 h2).1]; exact h2, fun _ => rfl⟩⟩
  · intro b bk' hbk
    refine .inl ⟨by simp, hbk, rfl, fun g q hg => ?_⟩
    have hl := (hr.own b g q (by rw [show st'.h b = _ from hbk]; simp) hg).1
    exact ⟨U6 hh hl, fun hn h => h.elim hn fun h => by omega⟩
  · exact hr.inj
  · intro b g q h1 h2
    obtain ⟨h3, h4⟩ := hr.own b g q h1 h2
    exact ⟨by rw [hh]; simp; omega, h4⟩
  · refine ⟨.inr rfl, ?_⟩
    have key := RP.l (w := w') (A := cx'.A) 1 ((sI s).map (eI .u8)) (some ⟨w.heap.size, 0, none⟩) cap (fun i _ => .int .u8 (gI (sI s) i)) (by rw [hlen]; exact hcge) hcle (fun r hr => by obtain ⟨n, _, rfl⟩ := List.mem_map.1 hr; rfl) (.inr ⟨w.heap.size, 0, rfl, .inr rfl, by rw [hh]; simp, fun i r k p hi hk => ?_⟩) (fun i r k p hi hk => ?_)
    · rw [hlen] at key; exact key
    · rw [List.getElem?_map, Option.map_eq_some_iff] at hi
      obtain ⟨n, hn, rfl⟩ := hi
      have hlt := (List.getElem?_eq_some_iff.1 hn).1
      cases k with
      | succ k => simp [eI] at hk
      | zero =>
        unfold World.cell?
        have h0 : (w.heap.push (.cells (bytesRow s cap) e ((bytesRow s cap).size, (bytesRow s cap).size + 1)))[w.heap.size]? = some (.cells (bytesRow s cap) e ((bytesRow s cap).size, (bytesRow s cap).size + 1)) := by simp
        simp only [hh, h0]
        have h5 : i < (s.data.map fun b => Value.int .u8 b.toNat).size := by rw [Vr] at hlt; simpa using hlt
        have h7 : i < s.data.size := by simpa using h5
        have h6 : (sI s)[i]? = some ((s.data[i]'h7).toNat : Int) := by unfold sI; rw [List.getElem?_map, Array.getElem?_toList, Array.getElem?_eq_getElem h7]; rfl
        simp only [bytesRow, Nat.zero_add, Nat.mul_one, Nat.add_zero, Option.isSome_none, Bool.false_eq_true, if_false]
        rw [Array.getElem?_append_left h5, Array.getElem?_map, Array.getElem?_eq_getElem h7]
        simp [gI, h6]
    · rw [List.getElem?_map, Option.map_eq_some_iff] at hi
      obtain ⟨n, hn, rfl⟩ := hi
      have hlt := (List.getElem?_eq_some_iff.1 hn).1
      cases k with
      | succ k => simp [eI] at hk
      | zero =>
        simp only [eI, List.getElem?_cons_zero, Option.some.injEq] at hk
        subst hk
        have : gI (sI s) i = n := by simp [gI, hn]
        rw [this]
        exact .v _ (Oj s _ (List.mem_of_getElem? hn))
theorem OW {op : Op} {f : Fp} {t : TV} {fr : List (Nat × TV)} {H : List (Zf × Option Bk)} {bl : List (Zf × Option Bk)} {r : List Oper} {acc : List (Fp × Ef)} {K : List (Fp × Ef) → St → Prop} (hw : wn ops ⟨none, op, ty, pos, af, gd⟩ ⟨fr, H⟩ = some true) (hop : KS E N P ops ⟨none, op, ty, pos, af, gd⟩ ⟨fr, H⟩ f ⟨t, bl⟩) (h : UW E N P ops r ((f, ⟨t, bl⟩) :: acc) ⟨fr, bl ++ H⟩ K) : UW E N P ops (⟨none, op, ty, pos, af, gd⟩ :: r) acc ⟨fr, H⟩ K := ⟨f, ⟨t, bl⟩, .inl ⟨hw, hop⟩, h⟩
theorem LA {α : Type} {f : α → List PV} {t e sz : Nat} {tt te : TE} (ht : Ka T.ty t = some tt) (hk : tt.kd = .slice e) (hel : Ka T.ty e = some te) (hsz : te.size = sz) (hpos : Nat.blt 0 sz = true) :
    KS E N P ops ⟨some d, .buildSlice t 0 #[], ty, pos, af, gd⟩ st ⟨[], [(d, 0)]⟩ ⟨.c (.sl (d, 0) 0 (([] : List α).map f).length), [((d, 0), some (.row sz (([] : List α).map f) true))]⟩ := by
  intro st' ha hfr hd cx a w Q hr
  have hpos := Nat.le_of_ble_eq_true hpos
  obtain ⟨i, hi1, hi2, hi3, hi4⟩ := FL hel
  have hrun : (Instr.buildSlice t 0 #[]).run P w = .ok (.slice (some ⟨w.heap.size, 0, none⟩) 0 0) (w.alloc (.cells #[] e)) := by
    simp [Instr.buildSlice, run_underlying (KA ht hk), sizeOf, typeInfo, hi1, Instr.fill, newRow, Array.range_zero']
  refine YJ (v := .slice (some ⟨w.heap.size, 0, none⟩) 0 0) (w' := w.alloc (.cells #[] e)) (by simp only [execOp, Sem.run_bind]; rw [show (#[] : Array (Nat × Operand)).map (fun x => (x.fst, a.eval x.snd)) = #[] from by simp, hrun]; rfl) ⟨_, We (w' := w.alloc (.cells #[] e)) (bk := .row sz [] true) (t := .c (.sl (d, 0) 0 0)) hr hd (b := (d, 0)) (hd d rfl) (hfr (d, 0) (by simp)) (ob := .cells #[] e) rfl rfl rfl rfl ?_ ?_⟩
  · refine ⟨hpos, by simp, ?_⟩
    simp only [Cx.upd, if_true]
    exact ⟨trivial, #[], e, (0, 0), 0, Xe rfl, fun _ => ⟨rfl, fun h => by have := (hr.A _ h).1; omega⟩, (fun h => by cases h), by simp, by simp, by unfold maxLen; omega, fun i r k p hi hk => by simp at hi⟩
  · refine ⟨.inr rfl, fun bk hbk => ?_⟩
    rw [XB, if_pos rfl] at hbk
    cases hbk
    exact ⟨_, 0, rfl, Nat.le_refl _, by unfold maxLen; omega, by simp [Bk.len], .inl rfl⟩
end
def gotoQ (l : Nat) (G : St → Prop) (Q : Exit → St → Prop) : Exit → St → Prop
  | .goto l', st => l' = l ∧ G st
  | e, st => Q e st
def noG (Q : Exit → St → Prop) : Exit → St → Prop
  | .goto _, _ => False
  | e, st => Q e st
section
variable {E : En} {N : Nat} {P : Program} {Q : Exit → St → Prop} {st : St}
theorem PY {l : Nat} (h : Q (.goto l) st) : AW E N P (.goto l) Q st := fun cx a w hr => wp_goto ⟨st, cx, h, hr⟩
theorem OX {c rest : Code} {l : Nat} (hf : findLabel c l = some rest) (h : ∀ G : St → Prop, (∀ st, AW E N P rest (noG Q) st → G st) → AW E N P c (gotoQ l G (noG Q)) st) : AW E N P (.scope c) Q st := by
  intro cx a w hr
  have h1 := h (AW E N P rest (noG Q)) (fun _ h => h) cx a w hr
  have conv : ∀ (e : Exit) (a' : Act) (w' : World), (∃ st' cx', noG Q e st' ∧ Vn E N cx' st' a' w') → Exit.jump l (fun a' w' => (∃ st' cx', AW E N P rest (noG Q) st' ∧ Vn E N cx' st' a' w') ∧ 0 < 0) (fun e a' w' => ∃ st' cx', Q e st' ∧ Vn E N cx' st' a' w') e a' w' := by
    rintro e a' w' ⟨st', cx', h2, h3⟩
    cases e with
    | goto l' => exact h2.elim
    | _ => exact ⟨st', cx', h2, h3⟩
  refine wp_scope_jumps l (fun a' w' => ∃ st' cx', AW E N P rest (noG Q) st' ∧ Vn E N cx' st' a' w') (fun _ _ => 0) hf (wp_mono h1 ?_) ?_
  · rintro e a' w' ⟨st', cx', h2, h3⟩
    cases e with
    | goto l' => exact ⟨h2.1, st', cx', h2.2, h3⟩
    | _ => exact ⟨st', cx', h2, h3⟩
  · rintro a' w' ⟨st', cx', h2, h3⟩
    exact wp_mono (h2 cx' a' w' h3) (fun e a2 w2 h4 => conv e a2 w2 h4)
end
section
variable {P : Program} {w w' : World}
theorem LB {A : Nat → Prop} {gs : Nat → Option Nat} {g q g' q' : Nat} (hg : w.grownBy w' none) (hA : ∀ x, A x → x < w.heap.size) : ∀ {avs : List AV} {vs : List Value}, avs.any AV.isRef = false → Mr w A gs g q avs vs → Mr w' A gs g' q' avs vs := by
  intro avs
  induction avs with
  | nil => intro vs _ h; cases vs with | nil => trivial | cons v vs => exact h.elim
  | cons a avs ih =>
    intro vs hn h
    cases vs with
    | nil => exact h.elim
    | cons v vs =>
      simp only [List.any_cons, Bool.or_eq_false_iff] at hn
      refine ⟨?_, ih hn.2 h.2⟩
      have hm : ∀ {p : PV} {u : Value}, RP w A p u → RP w' A p u := fun h => h.mono (fun _ h => h) hg.size (fun x hx hl => hg.block x hl (by simp))
      have hcs : ∀ {n : Nat} {xs : List PV} {us : List Value}, CM w A (fun _ => none) n (xs.map .p) us → CM w' A (fun _ => none) n (xs.map .p) us := by
        intro n xs
        induction xs generalizing n with
        | nil => intro us h; cases us with | nil => trivial | cons u us => exact h.elim
        | cons x xs ih2 =>
          intro us h
          cases us with
          | nil => exact h.elim
          | cons u us => exact ⟨h.1, hm h.2.1, ih2 h.2.2⟩
      cases a with
      | c x => exact hm h.1
      | agg xs => obtain ⟨us, h1, h2⟩ := h.1; exact ⟨us, h1, hcs h2⟩
      | ref cs => exact absurd hn.1 (by simp [AV.isRef])
theorem Ux {f : FuncId} {avs : List AV} {x : Value} {vs : Array Value} {A : Nat → Prop} {g q : Nat} (hc : Qq P f avs [.c (.p (.v x))] []) (hn : avs.any AV.isRef = false) (hA : ∀ x, A x → x < w.heap.size) (hR : Mr w A (fun _ => none) g q avs vs.toList) :
    Calls P f vs w fun e w' => e = .returned x ∧ w.grownBy w' none := by
  refine (hc.run A (fun _ => none) w.heap.size 0 w vs hA (fun n m x h => by cases h) (fun n x h => by cases h) (fun _ => ⟨fun _ => rfl, rfl⟩) (LB ⟨rfl, rfl, rfl, Nat.le_refl _, fun _ _ _ => rfl⟩ hA hn hR)).mono ?_
  rintro e w' ⟨v, A', gs', h1, h2, h3, h4, h5, h6, h7, h8, h9, h10, h11, h12⟩
  have hv : v = x := by
    have := h11.2.1
    cases this with | v _ _ => rfl
  subst hv
  exact ⟨h1, h6, h7, h8, h4, fun k hk _ => h5 k hk (by omega) (fun n h => by cases h)⟩
theorem Gq {f : FuncId} {avs : List AV} {x : Value} (he : Ms P f = true) (hx : JW x = true) (hn : avs.any AV.isRef = false) (h : ∀ A q w vs, (∀ x, A x → x < w.heap.size) → Mr w A (fun _ => none) w.heap.size q avs vs.toList → Calls P f vs w fun e w' => e = .returned x ∧ w.grownBy w' none) : Qq P f avs [.c (.p (.v x))] [] := by
  refine ⟨he, fun A gs g q w vs hA hinj hgs hg hR => ?_⟩
  obtain ⟨hg1, rfl⟩ := hg hn
  have e : gs = fun _ => none := funext hg1
  subst e
  refine (h A q w vs hA hR).mono ?_
  rintro _ w' ⟨rfl, hgr⟩
  exact ⟨x, A, fun _ => none, rfl, fun _ h => h, fun _ h => .inl h, hgr.size, fun y hy _ _ => hgr.block y hy (by simp), hgr.os, hgr.tape, hgr.output, fun n m y h => (by cases h), fun n y h => (by cases h), ⟨JB hx, .v x hx, trivial⟩, fun h => by rw [hn] at h; cases h⟩
end
end Go.Proofs.YthlaenafkihjiaaGreat
namespace Go.Proofs.YthlaenafkihjiaaGreat
open Go.RowKit Go.ChangeShapes Go.WideShapes
theorem ret_b {x y : Bool} (h : x = y) : Ending.returned (.bool x) = .returned (.bool y) := by rw [h]
end Go.Proofs.YthlaenafkihjiaaGreat
namespace Go.Proofs.YthlaenafkihjiaaGreat
open Go.RowKit Go.ChangeShapes Go.WideShapes
theorem ZV {σ : Type} {step : (σ → Prop) → σ → Prop} (I : Nat → σ → Prop) (h : ∀ k s, I k s → ∀ X : σ → Prop, (∀ k' s', k' < k → I k' s' → X s') → step X s) {k : Nat} {s : σ} (h0 : I k s) : lp step s := by
  intro X hX
  have key : ∀ k s, I k s → X s := by
    intro k
    induction k using Nat.strongRecOn with
    | _ k ih => exact fun s hs => hX s (h k s hs X fun k' s' hk hs' => ih k' hk s' hs')
  exact key k s h0
theorem Vm {α : Type} {l : List α} {n : Int} {j : Nat} {x : α} (hn : n = (j : Int)) (h : l[j]? = some x) : ix l n x := by
  subst hn; exact ⟨by omega, by simpa using h⟩
theorem bx_of {s : ByteArray} {n v : Int} {j : Nat} (hn : n = (j : Int)) (hj : j < s.size) (h : v = (s[j].toNat : Int)) : bx s n v := by
  subst hn; exact ⟨by omega, s[j], by simp [hj], h⟩
theorem Zm {n : Int} (h : -9223372036854775808 ≤ n ∧ n ≤ 9223372036854775807) : IntKind.i64.wrap n = n := by rw [IntKind.wrap_i64]; omega
def wI (n lo hi : Int) : Bool := decide (lo ≤ n ∧ n ≤ hi)
def GM {R : Type} (G G' : (R → Prop) → Prop) : Prop := ∀ Post : R → Prop, G Post → ∃ r, G' (fun x => r = x) ∧ Post r
section
variable {R α σ : Type}
theorem GM.ret (e : R) : GM (fun Q => Q e) (fun Q => Q e) := fun Post h => ⟨e, rfl, h⟩
theorem GM.and {p : Prop} {G G' : (R → Prop) → Prop} (h : GM G G') : GM (fun Q => p ∧ G Q) (fun Q => p ∧ G' Q) := fun Post ⟨hp, hg⟩ => let ⟨r, h1, h2⟩ := h Post hg; ⟨r, ⟨hp, h1⟩, h2⟩
theorem GM.ex {p : α → Prop} {G G' : α → (R → Prop) → Prop} (h : ∀ a, GM (G a) (G' a)) : GM (fun Q => ∃ a, p a ∧ G a Q) (fun Q => ∃ a, p a ∧ G' a Q) := fun Post ⟨a, hp, hg⟩ => let ⟨r, h1, h2⟩ := h a Post hg; ⟨r, ⟨a, hp, h1⟩, h2⟩
theorem GM.cond {c : Bool} {A A' B B' : (R → Prop) → Prop} (h1 : GM A A') (h2 : GM B B') : GM (fun Q => (c = true → A Q) ∧ (c = false → B Q)) (fun Q => (c = true → A' Q) ∧ (c = false → B' Q)) := fun Post h => by
  cases c with
  | true => obtain ⟨r, h3, h4⟩ := h1 Post (h.1 rfl); exact ⟨r, ⟨fun _ => h3, (fun h => by cases h)⟩, h4⟩
  | false => obtain ⟨r, h3, h4⟩ := h2 Post (h.2 rfl); exact ⟨r, ⟨(fun h => by cases h), fun _ => h3⟩, h4⟩
theorem GM.join {k k' : α → (R → Prop) → Prop} {m m' : (α → Prop) → (R → Prop) → Prop} (h1 : ∀ p, GM (k p) (k' p)) (h2 : ∀ K K' : α → (R → Prop) → Prop, (∀ p, GM (K p) (K' p)) → GM (fun Q => m (fun p => K p Q) Q) (fun Q => m' (fun p => K' p Q) Q)) :
    GM (fun Q => jn (fun p => k p Q) (fun J => m J Q)) (fun Q => jn (fun p => k' p Q) (fun J => m' J Q)) := h2 k k' h1
theorem GM.loop {step step' : (σ → Prop) → σ → (R → Prop) → Prop} {s0 : σ} (hm : ∀ (X Y : σ → Prop) (Q : R → Prop) (s : σ), (∀ s, X s → Y s) → step' X s Q → step' Y s Q)
    (h : ∀ K K' : σ → (R → Prop) → Prop, (∀ s, GM (K s) (K' s)) → ∀ s, GM (fun Q => step (fun s => K s Q) s Q) (fun Q => step' (fun s => K' s Q) s Q)) :
    GM (fun Q => lp (fun (X : σ → Prop) (s : σ) => step X s Q) s0) (fun Q => lp (fun (X : σ → Prop) (s : σ) => step' X s Q) s0) := by
  intro Post hl
  have hl : lp (fun (X : σ → Prop) (s : σ) => step X s Post) s0 := hl
  refine hl (fun (s : σ) => ∃ r, lp (fun (X : σ → Prop) (s : σ) => step' X s (fun x => r = x)) s ∧ Post r) fun s hs => ?_
  obtain ⟨r, h1, h2⟩ := h (fun s Q => ∃ r, lp (fun (X : σ → Prop) (s : σ) => step' X s (fun x => r = x)) s ∧ Q r) (fun s Q => lp (fun (X : σ → Prop) (s : σ) => step' X s Q) s) (fun s P ⟨r, h1, h2⟩ => ⟨r, h1, h2⟩) s Post hs
  exact ⟨r, fun X hX => hX s (hm _ _ _ s (fun s' h' => h' X hX) h1), h2⟩
end
theorem YL {α : Type} {k k' : α → Prop} {m m' : (α → Prop) → Prop} (h : jn k m) (h1 : ∀ p, k p → k' p) (h2 : ∀ J J' : α → Prop, (∀ p, J p → J' p) → m J → m' J') : jn k' m' := h2 k k' h1 h
theorem CX {σ : Type} {step step' : (σ → Prop) → σ → Prop} {s0 : σ} (h : lp step s0) (hi : ∀ X Y : σ → Prop, (∀ s, X s → Y s) → ∀ s, step X s → step' Y s) : lp step' s0 := fun Y hY => h Y fun s hs => hY s (hi Y Y (fun _ h => h) s hs)
section
variable {E : En} {N : Nat} {P : Program} {T : Tb P} {ops : Array Oper} {o : Oper} {st : St} {r : List Oper} {acc : List (Fp × Ef)} {K : List (Fp × Ef) → St → Prop} {d : Nat} {ty : Nat} {pos : String} {af : Array Edge} {op : Op} {f : Fp} {t : TV} {fr : List (Nat × TV)} {H : List (Zf × Option Bk)} {Q : Exit → St → Prop}
theorem u0 (hop : KS E N P ops ⟨some d, op, ty, pos, af, none⟩ ⟨fr, H⟩ f ⟨t, []⟩) (h : UW E N P ops r ((f, ⟨t, []⟩) :: acc) ⟨(d, t) :: fr, H⟩ K) : UW E N P ops (⟨some d, op, ty, pos, af, none⟩ :: r) acc ⟨fr, H⟩ K := Ws rfl hop h
theorem u1 {b1 : Zf × Option Bk} (hop : KS E N P ops ⟨some d, op, ty, pos, af, none⟩ ⟨fr, H⟩ f ⟨t, [b1]⟩) (h : UW E N P ops r ((f, ⟨t, [b1]⟩) :: acc) ⟨(d, t) :: fr, b1 :: H⟩ K) : UW E N P ops (⟨some d, op, ty, pos, af, none⟩ :: r) acc ⟨fr, H⟩ K := PF rfl hop h
theorem un {b1 : Zf × Option Bk} (hop : KS E N P ops ⟨none, op, ty, pos, af, none⟩ ⟨fr, H⟩ f ⟨t, [b1]⟩) (h : UW E N P ops r ((f, ⟨t, [b1]⟩) :: acc) ⟨fr, b1 :: H⟩ K) : UW E N P ops (⟨none, op, ty, pos, af, none⟩ :: r) acc ⟨fr, H⟩ K := PG rfl hop h
theorem ul {bl : List (Zf × Option Bk)} (hop : KS E N P ops ⟨some d, op, ty, pos, af, none⟩ ⟨fr, H⟩ f ⟨t, bl⟩) (h : UW E N P ops r ((f, ⟨t, bl⟩) :: acc) ⟨(d, t) :: fr, bl ++ H⟩ K) : UW E N P ops (⟨some d, op, ty, pos, af, none⟩ :: r) acc ⟨fr, H⟩ K := C2 rfl hop h
theorem mv {k : Nat} {y : CV} (hx : (⟨fr, H⟩ : St).ev (.tmp k) = .c y) (h : UW E N P ops r ((⟨[], []⟩, ⟨.c y, []⟩) :: acc) ⟨(d, .c y) :: fr, H⟩ K) : UW E N P ops (⟨some d, .move (.tmp k), ty, pos, af, none⟩ :: r) acc ⟨fr, H⟩ K := Ws rfl (Qd hx rfl) h
theorem Qf {x : Operand} {y : CV} (hx : (⟨fr, H⟩ : St).ev x = .c y) (hc : ZX x = true) (h : UW E N P ops r ((⟨[], []⟩, ⟨.c y, []⟩) :: acc) ⟨(d, .c y) :: fr, H⟩ K) : UW E N P ops (⟨some d, .assign x, ty, pos, af, none⟩ :: r) acc ⟨fr, H⟩ K := Ws rfl (Ij hx hc) h
theorem rt {L : St → Prop} (h : L st) (h1 : Mf acc.reverse = true := by kernel_rfl) {st0 : St} (h2 : Wg st0 acc = true := by kernel_rfl) : UW E N P ops [] acc st fun acc st' => Mf acc.reverse = true ∧ Wg st0 acc = true ∧ L st' := N2 ⟨h1, h2, h⟩
theorem rd {L : St → Prop} {l : List Oper} (h : L st) (h1 : Me l acc.reverse = true := by kernel_rfl) {st0 : St} (h2 : Wg st0 acc = true := by kernel_rfl) : UW E N P ops [] acc st fun acc st' => Me l acc.reverse = true ∧ Wg st0 acc = true ∧ L st' := N2 ⟨h1, h2, h⟩
theorem tk {x : List Oper} {id : Nat} {y : Code} (h : ∀ L : St → Prop, (∀ st, AW E N P y Q st → L st) → UW E N P x.toArray x [] st fun acc st' => Mf acc.reverse = true ∧ Wg st acc = true ∧ L st') (hN : Ov N x = true := by kernel_rfl) : AW E N P (.seq (.region id x.toArray false) y) Q st := OK hN h
theorem dk (hm : P.follows .mixedOrders = true) {x : List Oper} {id : Nat} {y : Code} (h : ∀ L : St → Prop, (∀ st, AW E N P y Q st → L st) → UW E N P x.toArray x [] st fun acc st' => Me x acc.reverse = true ∧ Wg st acc = true ∧ L st') (hS : Ot N x = true := by kernel_rfl) : AW E N P (.seq (.region id x.toArray true) y) Q st := OL hm hS h
theorem tl {x : List Oper} {id : Nat} (h : ∀ L : St → Prop, (∀ st, Q .normal st → L st) → UW E N P x.toArray x [] st fun acc st' => Mf acc.reverse = true ∧ Wg st acc = true ∧ L st') (hN : Ov N x = true := by kernel_rfl) : AW E N P (.region id x.toArray false) Q st := N7 hN (h _ fun _ h => h)
theorem dl (hm : P.follows .mixedOrders = true) {x : List Oper} {id : Nat} (h : ∀ L : St → Prop, (∀ st, Q .normal st → L st) → UW E N P x.toArray x [] st fun acc st' => Me x acc.reverse = true ∧ Wg st acc = true ∧ L st') (hS : Ot N x = true := by kernel_rfl) : AW E N P (.region id x.toArray true) Q st := N6 hm hS (h _ fun _ h => h)
theorem sk {x y : Code} (h : ∀ K : St → Prop, (∀ st, AW E N P y Q st → K st) → AW E N P x (HK Q K) st) : AW E N P (.seq x y) Q st := Ik h
theorem Z3 {c : Operand} {x y : Code} {b : Bool} {A B : Prop} (hb : st.ev c = .c (.p (.v (.bool b)))) (h : (b = true → A) ∧ (b = false → B)) (ht : A → AW E N P x Q st) (hf : B → AW E N P y Q st) (hc : ZX c = true := by rfl) : AW E N P (.cond c x y) Q st := PR hb hc (fun e => ht (h.1 e)) (fun e => hf (h.2 e))
end
structure Qr where
  ff : Int
  fh : Int
  fp : Int
  fv : Int
def VT (x : Qr) : List PV := [.v (.int .i64 (x.ff)), .v (.int .i64 (x.fh)), .v (.int .i64 (x.fp)), .v (.int .u64 (x.fv))]
structure QE where
  ff : Int
  f3 : ByteArray
  fo : Int
  fa9 : Int
  fa7 : Int
def Wz (x : QE) : List PV := [.v (.int .i64 (x.ff)), .v (.string (x.f3)), .v (.int .i64 (x.fo)), .v (.int .i64 (x.fa9)), .v (.int .i64 (x.fa7))]
structure Qh where
  f3 : ByteArray
  f4 : Int
def QX (x : Qh) : List PV := [.v (.string (x.f3)), .v (.int .i64 (x.f4))]
structure QS where
  fk : Int
  fj : Int
  fc : Bool
def WA (x : QS) : List PV := [.v (.int .i64 (x.fk)), .v (.int .i64 (x.fj)), .v (.bool (x.fc))]
structure Qz where
  fp : Int
  fh : Int
  fv : Int
  fa3 : (List Int)
  fc : Bool
def Kq (x : Qz) : List PV := [.v (.int .i64 (x.fp)), .v (.int .i64 (x.fh)), .v (.int .u64 (x.fv)), .l 1 (List.map (eI .i64) (x.fa3)), .v (.bool (x.fc))]
structure QI where
  f5 : Int
  fv : Int
  fx : (List Int)
def VU (x : QI) : List PV := [.v (.int .i64 (x.f5)), .v (.int .u64 (x.fv)), .l 1 (List.map (eI .i64) (x.fx))]
structure Q5 where
  f3 : ByteArray
  fo : Int
  fb3 : Int
def Qg (x : Q5) : List PV := [.v (.string (x.f3)), .v (.int .i64 (x.fo)), .v (.int .i64 (x.fb3))]
theorem WW (x : Q5) : (Qg x).all Pz = true := rfl
structure QW where
  fh : Int
  fk : Int
  fg : (List Q5)
  fc : Bool
def JY (x : QW) : List PV := [.v (.int .i64 (x.fh)), .v (.int .i64 (x.fk)), .l 3 (List.map Qg (x.fg)), .v (.bool (x.fc))]
structure QC where
  fh : Int
  fk : Int
  fb2 : Int
  fg : (List Q5)
  fc : Bool
def KB (x : QC) : List PV := [.v (.int .i64 (x.fh)), .v (.int .i64 (x.fk)), .v (.int .i64 (x.fb2)), .l 3 (List.map Qg (x.fg)), .v (.bool (x.fc))]
structure QK where
  fh : Int
  fk : Int
  fa8 : Int
  fw : (List (List ByteArray))
  fc : Bool
def Zh (x : QK) : List PV := [.v (.int .i64 (x.fh)), .v (.int .i64 (x.fk)), .v (.int .i64 (x.fa8)), .l 1 (List.map (eL 1 eS) (x.fw)), .v (.bool (x.fc))]
structure Qy where
  fa : Qr
  f0 : QS
  fq : Qz
  f8 : QI
  fb0 : QW
  fu : QC
  f7 : QK
def Ju (x : Qy) : List PV := [.v (.int .i64 (x.fa.ff)), .v (.int .i64 (x.fa.fh)), .v (.int .i64 (x.fa.fp)), .v (.int .u64 (x.fa.fv)), .v (.int .i64 (x.f0.fk)), .v (.int .i64 (x.f0.fj)), .v (.bool (x.f0.fc)), .v (.int .i64 (x.fq.fp)), .v (.int .i64 (x.fq.fh)), .v (.int .u64 (x.fq.fv)), .l 1 (List.map (eI .i64) (x.fq.fa3)), .v (.bool (x.fq.fc)), .v (.int .i64 (x.f8.f5)), .v (.int .u64 (x.f8.fv)), .l 1 (List.map (eI .i64) (x.f8.fx)), .v (.int .i64 (x.fb0.fh)), .v (.int .i64 (x.fb0.fk)), .l 3 (List.map Qg (x.fb0.fg)), .v (.bool (x.fb0.fc)), .v (.int .i64 (x.fu.fh)), .v (.int .i64 (x.fu.fk)), .v (.int .i64 (x.fu.fb2)), .l 3 (List.map Qg (x.fu.fg)), .v (.bool (x.fu.fc)), .v (.int .i64 (x.f7.fh)), .v (.int .i64 (x.f7.fk)), .v (.int .i64 (x.f7.fa8)), .l 1 (List.map (eL 1 eS) (x.f7.fw)), .v (.bool (x.f7.fc))]
structure Qu where
  ff : Int
  fb1 : ByteArray
  fa5 : ByteArray
  fy : (List ByteArray)
  fa : Qr
  fj : (List Qh)
  fa2 : (List Int)
  f6 : Int
  f9 : Int
  fa0 : Int
  fa4 : Int
  fa1 : Int
  fo : Int
  fi : QE
  fa6 : (List Int)
def Zp (x : Qu) : List PV := [.v (.int .i64 (x.ff)), .v (.string (x.fb1)), .v (.string (x.fa5)), .l 1 (List.map eS (x.fy)), .v (.int .i64 (x.fa.ff)), .v (.int .i64 (x.fa.fh)), .v (.int .i64 (x.fa.fp)), .v (.int .u64 (x.fa.fv)), .l 2 (List.map QX (x.fj)), .l 1 (List.map (eI .u8) (x.fa2)), .v (.int .i64 (x.f6)), .v (.int .i64 (x.f9)), .v (.int .i64 (x.fa0)), .v (.int .i64 (x.fa4)), .v (.int .i64 (x.fa1)), .v (.int .i64 (x.fo)), .v (.int .i64 (x.fi.ff)), .v (.string (x.fi.f3)), .v (.int .i64 (x.fi.fo)), .v (.int .i64 (x.fi.fa9)), .v (.int .i64 (x.fi.fa7)), .l 1 (List.map (eI .u8) (x.fa6))]
structure KC where
  fe0 : Bool
  fe1 : Bool
  fe2 : Bool
  fe3 : Bool
  fe4 : Bool
  fe5 : Bool
  fe6 : Bool
  fe7 : Bool
  fe8 : Bool
  fe9 : Bool
  fe10 : Bool
  fe11 : Bool
  fe12 : Bool
def Yn (x : KC) : List PV := [.v (.bool (x.fe0)), .v (.bool (x.fe1)), .v (.bool (x.fe2)), .v (.bool (x.fe3)), .v (.bool (x.fe4)), .v (.bool (x.fe5)), .v (.bool (x.fe6)), .v (.bool (x.fe7)), .v (.bool (x.fe8)), .v (.bool (x.fe9)), .v (.bool (x.fe10)), .v (.bool (x.fe11)), .v (.bool (x.fe12))]
structure QP where
  fb : (List Int)
structure Qw where
  fb : (List Int)
  fbad : Bool
def Yo (x : Qw) : List PV := [.l 1 (List.map (eI .u8) (x.fb)), .v (.bool (x.fbad))]
set_option maxRecDepth 20000
theorem te_2 : ZL Tryz.prog 2 = some ⟨.int .i64, 1, 8, .int .i64 0⟩ := by kernel_rfl
theorem te_3 : ZL Tryz.prog 3 = some ⟨.int .i64, 1, 8, .int .i64 0⟩ := by kernel_rfl
theorem te_4 : ZL Tryz.prog 4 = some ⟨.bool, 1, 1, .bool false⟩ := by kernel_rfl
theorem te_5 : ZL Tryz.prog 5 = some ⟨.int .u8, 1, 1, .int .u8 0⟩ := by kernel_rfl
theorem te_6 : ZL Tryz.prog 6 = some ⟨.int .u8, 1, 1, .int .u8 0⟩ := by kernel_rfl
theorem te_7 : ZL Tryz.prog 7 = some ⟨.struct [(0, 2), (1, 3), (2, 4), (3, 6)], 4, 24, .agg #[.int .i64 0, .int .i64 0, .bool false, .int .u8 0]⟩ := by kernel_rfl
theorem te_8 : ZL Tryz.prog 8 = some ⟨.struct [(0, 2), (1, 3), (2, 4), (3, 6)], 4, 24, .agg #[.int .i64 0, .int .i64 0, .bool false, .int .u8 0]⟩ := by kernel_rfl
theorem te_9 : ZL Tryz.prog 9 = some ⟨.string, 1, 16, .string ByteArray.empty⟩ := by kernel_rfl
theorem te_10 : ZL Tryz.prog 10 = some ⟨.string, 1, 16, .string ByteArray.empty⟩ := by kernel_rfl
theorem te_11 : ZL Tryz.prog 11 = some ⟨.string, 1, 16, .string ByteArray.empty⟩ := by kernel_rfl
theorem te_12 : ZL Tryz.prog 12 = some ⟨.int .u64, 1, 8, .int .u64 0⟩ := by kernel_rfl
theorem te_13 : ZL Tryz.prog 13 = some ⟨.struct [(0, 9), (1, 12)], 2, 24, .agg #[.string ByteArray.empty, .int .u64 0]⟩ := by kernel_rfl
theorem te_14 : ZL Tryz.prog 14 = some ⟨.struct [(0, 9), (1, 12)], 2, 24, .agg #[.string ByteArray.empty, .int .u64 0]⟩ := by kernel_rfl
theorem te_15 : ZL Tryz.prog 15 = some ⟨.ptr 199, 1, 8, .pointer none⟩ := by kernel_rfl
theorem te_16 : ZL Tryz.prog 16 = some ⟨.ptr 202, 1, 8, .pointer none⟩ := by kernel_rfl
theorem te_17 : ZL Tryz.prog 17 = some ⟨.ptr 210, 1, 8, .pointer none⟩ := by kernel_rfl
theorem te_18 : ZL Tryz.prog 18 = some ⟨.struct [(0, 17)], 1, 8, .agg #[.pointer none]⟩ := by kernel_rfl
theorem te_19 : ZL Tryz.prog 19 = some ⟨.struct [(0, 17)], 1, 8, .agg #[.pointer none]⟩ := by kernel_rfl
theorem te_21 : ZL Tryz.prog 21 = some ⟨.int .i32, 1, 4, .int .i32 0⟩ := by kernel_rfl
theorem te_22 : ZL Tryz.prog 22 = some ⟨.slice 3, 1, 24, .slice none 0 0⟩ := by kernel_rfl
theorem te_23 : ZL Tryz.prog 23 = some ⟨.slice 9, 1, 24, .slice none 0 0⟩ := by kernel_rfl
theorem te_24 : ZL Tryz.prog 24 = some ⟨.int .u64, 1, 8, .int .u64 0⟩ := by kernel_rfl
theorem te_25 : ZL Tryz.prog 25 = some ⟨.struct [(0, 3), (1, 3), (2, 3), (3, 24)], 4, 32, .agg #[.int .i64 0, .int .i64 0, .int .i64 0, .int .u64 0]⟩ := by kernel_rfl
theorem te_26 : ZL Tryz.prog 26 = some ⟨.struct [(0, 3), (1, 3), (2, 3), (3, 24)], 4, 32, .agg #[.int .i64 0, .int .i64 0, .int .i64 0, .int .u64 0]⟩ := by kernel_rfl
theorem te_27 : ZL Tryz.prog 27 = some ⟨.slice 76, 1, 24, .slice none 0 0⟩ := by kernel_rfl
theorem te_28 : ZL Tryz.prog 28 = some ⟨.slice 5, 1, 24, .slice none 0 0⟩ := by kernel_rfl
theorem te_29 : ZL Tryz.prog 29 = some ⟨.struct [(0, 3), (1, 9), (2, 3), (3, 3), (4, 3)], 5, 48, .agg #[.int .i64 0, .string ByteArray.empty, .int .i64 0, .int .i64 0, .int .i64 0]⟩ := by kernel_rfl
theorem te_30 : ZL Tryz.prog 30 = some ⟨.struct [(0, 3), (1, 9), (2, 3), (3, 3), (4, 3)], 5, 48, .agg #[.int .i64 0, .string ByteArray.empty, .int .i64 0, .int .i64 0, .int .i64 0]⟩ := by kernel_rfl
theorem te_31 : ZL Tryz.prog 31 = some ⟨.struct [(0, 3), (1, 9), (2, 9), (3, 23), (4, 26), (8, 27), (9, 28), (10, 3), (11, 3), (12, 3), (13, 3), (14, 3), (15, 3), (16, 30), (21, 28)], 22, 264, .agg #[.int .i64 0, .string ByteArray.empty, .string ByteArray.empty, .slice none 0 0, .int .i64 0, .int .i64 0, .int .i64 0, .int .u64 0, .slice none 0 0, .slice none 0 0, .int .i64 0, .int .i64 0, .int .i64 0, .int .i64 0, .int .i64 0, .int .i64 0, .int .i64 0, .string ByteArray.empty, .int .i64 0, .int .i64 0, .int .i64 0, .slice none 0 0]⟩ := by kernel_rfl
theorem te_32 : ZL Tryz.prog 32 = some ⟨.struct [(0, 3), (1, 9), (2, 9), (3, 23), (4, 26), (8, 27), (9, 28), (10, 3), (11, 3), (12, 3), (13, 3), (14, 3), (15, 3), (16, 30), (21, 28)], 22, 264, .agg #[.int .i64 0, .string ByteArray.empty, .string ByteArray.empty, .slice none 0 0, .int .i64 0, .int .i64 0, .int .i64 0, .int .u64 0, .slice none 0 0, .slice none 0 0, .int .i64 0, .int .i64 0, .int .i64 0, .int .i64 0, .int .i64 0, .int .i64 0, .int .i64 0, .string ByteArray.empty, .int .i64 0, .int .i64 0, .int .i64 0, .slice none 0 0]⟩ := by kernel_rfl
theorem te_35 : ZL Tryz.prog 35 = some ⟨.int .i64, 1, 8, .int .i64 0⟩ := by kernel_rfl
theorem te_52 : ZL Tryz.prog 52 = some ⟨.int .u64, 1, 8, .int .u64 0⟩ := by kernel_rfl
theorem te_58 : ZL Tryz.prog 58 = some ⟨.struct [(0, 3), (1, 3), (2, 4)], 3, 24, .agg #[.int .i64 0, .int .i64 0, .bool false]⟩ := by kernel_rfl
theorem te_59 : ZL Tryz.prog 59 = some ⟨.struct [(0, 3), (1, 3), (2, 4)], 3, 24, .agg #[.int .i64 0, .int .i64 0, .bool false]⟩ := by kernel_rfl
theorem te_60 : ZL Tryz.prog 60 = some ⟨.struct [(0, 3), (1, 3), (2, 24), (3, 22), (4, 4)], 5, 56, .agg #[.int .i64 0, .int .i64 0, .int .u64 0, .slice none 0 0, .bool false]⟩ := by kernel_rfl
theorem te_61 : ZL Tryz.prog 61 = some ⟨.struct [(0, 3), (1, 3), (2, 24), (3, 22), (4, 4)], 5, 56, .agg #[.int .i64 0, .int .i64 0, .int .u64 0, .slice none 0 0, .bool false]⟩ := by kernel_rfl
theorem te_62 : ZL Tryz.prog 62 = some ⟨.struct [(0, 3), (1, 24), (2, 22)], 3, 40, .agg #[.int .i64 0, .int .u64 0, .slice none 0 0]⟩ := by kernel_rfl
theorem te_63 : ZL Tryz.prog 63 = some ⟨.struct [(0, 3), (1, 24), (2, 22)], 3, 40, .agg #[.int .i64 0, .int .u64 0, .slice none 0 0]⟩ := by kernel_rfl
theorem te_64 : ZL Tryz.prog 64 = some ⟨.slice 146, 1, 24, .slice none 0 0⟩ := by kernel_rfl
theorem te_65 : ZL Tryz.prog 65 = some ⟨.struct [(0, 3), (1, 3), (2, 64), (3, 4)], 4, 48, .agg #[.int .i64 0, .int .i64 0, .slice none 0 0, .bool false]⟩ := by kernel_rfl
theorem te_66 : ZL Tryz.prog 66 = some ⟨.struct [(0, 3), (1, 3), (2, 64), (3, 4)], 4, 48, .agg #[.int .i64 0, .int .i64 0, .slice none 0 0, .bool false]⟩ := by kernel_rfl
theorem te_67 : ZL Tryz.prog 67 = some ⟨.struct [(0, 3), (1, 3), (2, 3), (3, 64), (4, 4)], 5, 56, .agg #[.int .i64 0, .int .i64 0, .int .i64 0, .slice none 0 0, .bool false]⟩ := by kernel_rfl
theorem te_68 : ZL Tryz.prog 68 = some ⟨.struct [(0, 3), (1, 3), (2, 3), (3, 64), (4, 4)], 5, 56, .agg #[.int .i64 0, .int .i64 0, .int .i64 0, .slice none 0 0, .bool false]⟩ := by kernel_rfl
theorem te_69 : ZL Tryz.prog 69 = some ⟨.slice 23, 1, 24, .slice none 0 0⟩ := by kernel_rfl
theorem te_70 : ZL Tryz.prog 70 = some ⟨.struct [(0, 3), (1, 3), (2, 3), (3, 69), (4, 4)], 5, 56, .agg #[.int .i64 0, .int .i64 0, .int .i64 0, .slice none 0 0, .bool false]⟩ := by kernel_rfl
theorem te_71 : ZL Tryz.prog 71 = some ⟨.struct [(0, 3), (1, 3), (2, 3), (3, 69), (4, 4)], 5, 56, .agg #[.int .i64 0, .int .i64 0, .int .i64 0, .slice none 0 0, .bool false]⟩ := by kernel_rfl
theorem te_72 : ZL Tryz.prog 72 = some ⟨.struct [(0, 26), (4, 59), (7, 61), (12, 63), (15, 66), (19, 68), (24, 71)], 29, 312, .agg #[.int .i64 0, .int .i64 0, .int .i64 0, .int .u64 0, .int .i64 0, .int .i64 0, .bool false, .int .i64 0, .int .i64 0, .int .u64 0, .slice none 0 0, .bool false, .int .i64 0, .int .u64 0, .slice none 0 0, .int .i64 0, .int .i64 0, .slice none 0 0, .bool false, .int .i64 0, .int .i64 0, .int .i64 0, .slice none 0 0, .bool false, .int .i64 0, .int .i64 0, .int .i64 0, .slice none 0 0, .bool false]⟩ := by kernel_rfl
theorem te_73 : ZL Tryz.prog 73 = some ⟨.struct [(0, 26), (4, 59), (7, 61), (12, 63), (15, 66), (19, 68), (24, 71)], 29, 312, .agg #[.int .i64 0, .int .i64 0, .int .i64 0, .int .u64 0, .int .i64 0, .int .i64 0, .bool false, .int .i64 0, .int .i64 0, .int .u64 0, .slice none 0 0, .bool false, .int .i64 0, .int .u64 0, .slice none 0 0, .int .i64 0, .int .i64 0, .slice none 0 0, .bool false, .int .i64 0, .int .i64 0, .int .i64 0, .slice none 0 0, .bool false, .int .i64 0, .int .i64 0, .int .i64 0, .slice none 0 0, .bool false]⟩ := by kernel_rfl
theorem te_75 : ZL Tryz.prog 75 = some ⟨.struct [(0, 9), (1, 3)], 2, 24, .agg #[.string ByteArray.empty, .int .i64 0]⟩ := by kernel_rfl
theorem te_76 : ZL Tryz.prog 76 = some ⟨.struct [(0, 9), (1, 3)], 2, 24, .agg #[.string ByteArray.empty, .int .i64 0]⟩ := by kernel_rfl
theorem te_78 : ZL Tryz.prog 78 = some ⟨.array 14 4, 14, 14, .agg #[.bool false, .bool false, .bool false, .bool false, .bool false, .bool false, .bool false, .bool false, .bool false, .bool false, .bool false, .bool false, .bool false, .bool false]⟩ := by kernel_rfl
theorem te_82 : ZL Tryz.prog 82 = some ⟨.array 13 4, 13, 13, .agg #[.bool false, .bool false, .bool false, .bool false, .bool false, .bool false, .bool false, .bool false, .bool false, .bool false, .bool false, .bool false, .bool false]⟩ := by kernel_rfl
theorem te_89 : ZL Tryz.prog 89 = some ⟨.ptr 91, 1, 8, .pointer none⟩ := by kernel_rfl
theorem te_90 : ZL Tryz.prog 90 = some ⟨.struct [(0, 28)], 1, 24, .agg #[.slice none 0 0]⟩ := by kernel_rfl
theorem te_91 : ZL Tryz.prog 91 = some ⟨.struct [(0, 28)], 1, 24, .agg #[.slice none 0 0]⟩ := by kernel_rfl
theorem te_96 : ZL Tryz.prog 96 = some ⟨.ptr 98, 1, 8, .pointer none⟩ := by kernel_rfl
theorem te_97 : ZL Tryz.prog 97 = some ⟨.struct [(0, 28), (1, 4)], 2, 32, .agg #[.slice none 0 0, .bool false]⟩ := by kernel_rfl
theorem te_98 : ZL Tryz.prog 98 = some ⟨.struct [(0, 28), (1, 4)], 2, 32, .agg #[.slice none 0 0, .bool false]⟩ := by kernel_rfl
theorem RN : ZL Tryz.prog 104 = some ⟨.int .u32, 1, 4, .int .u32 0⟩ := by kernel_rfl
theorem RO : ZL Tryz.prog 145 = some ⟨.struct [(0, 9), (1, 3), (2, 3)], 3, 32, .agg #[.string ByteArray.empty, .int .i64 0, .int .i64 0]⟩ := by kernel_rfl
theorem RQ : ZL Tryz.prog 146 = some ⟨.struct [(0, 9), (1, 3), (2, 3)], 3, 32, .agg #[.string ByteArray.empty, .int .i64 0, .int .i64 0]⟩ := by kernel_rfl
theorem RR : ZL Tryz.prog 192 = some ⟨.slice 24, 1, 24, .slice none 0 0⟩ := by kernel_rfl
theorem RU : ZL Tryz.prog 198 = some ⟨.struct [(0, 17), (1, 17), (2, 17), (3, 9)], 4, 40, .agg #[.pointer none, .pointer none, .pointer none, .string ByteArray.empty]⟩ := by kernel_rfl
theorem RX : ZL Tryz.prog 199 = some ⟨.struct [(0, 17), (1, 17), (2, 17), (3, 9)], 4, 40, .agg #[.pointer none, .pointer none, .pointer none, .string ByteArray.empty]⟩ := by kernel_rfl
theorem RY : ZL Tryz.prog 200 = some ⟨.array 0 16, 0, 0, .agg #[]⟩ := by kernel_rfl
theorem RZ : ZL Tryz.prog 201 = some ⟨.struct [(0, 200)], 0, 0, .agg #[]⟩ := by kernel_rfl
theorem S0 : ZL Tryz.prog 202 = some ⟨.struct [(0, 200)], 0, 0, .agg #[]⟩ := by kernel_rfl
theorem S1 : ZL Tryz.prog 203 = some ⟨.int .u8, 1, 1, .int .u8 0⟩ := by kernel_rfl
theorem S2 : ZL Tryz.prog 204 = some ⟨.int .u8, 1, 1, .int .u8 0⟩ := by kernel_rfl
theorem S3 : ZL Tryz.prog 206 = some ⟨.ptr 5, 1, 8, .pointer none⟩ := by kernel_rfl
theorem S4 : ZL Tryz.prog 207 = some ⟨.int .i32, 1, 4, .int .i32 0⟩ := by kernel_rfl
theorem S5 : ZL Tryz.prog 208 = some ⟨.int .i32, 1, 4, .int .i32 0⟩ := by kernel_rfl
theorem S6 : ZL Tryz.prog 209 = some ⟨.struct [(0, 12), (1, 12), (2, 104), (3, 203), (4, 5), (5, 5), (6, 204), (7, 205), (8, 206), (9, 207), (10, 208)], 11, 48, .agg #[.int .u64 0, .int .u64 0, .int .u32 0, .int .u8 0, .int .u8 0, .int .u8 0, .int .u8 0, .nilFunc, .pointer none, .int .i32 0, .int .i32 0]⟩ := by kernel_rfl
theorem S7 : ZL Tryz.prog 210 = some ⟨.struct [(0, 12), (1, 12), (2, 104), (3, 203), (4, 5), (5, 5), (6, 204), (7, 205), (8, 206), (9, 207), (10, 208)], 11, 48, .agg #[.int .u64 0, .int .u64 0, .int .u32 0, .int .u8 0, .int .u8 0, .int .u8 0, .int .u8 0, .nilFunc, .pointer none, .int .i32 0, .int .i32 0]⟩ := by kernel_rfl
def tbl : List (Nat × TE) := [(2, ⟨.int .i64, 1, 8, .int .i64 0⟩),
  (3, ⟨.int .i64, 1, 8, .int .i64 0⟩),
  (4, ⟨.bool, 1, 1, .bool false⟩),
  (5, ⟨.int .u8, 1, 1, .int .u8 0⟩),
  (6, ⟨.int .u8, 1, 1, .int .u8 0⟩),
  (7, ⟨.struct [(0, 2), (1, 3), (2, 4), (3, 6)], 4, 24, .agg #[.int .i64 0, .int .i64 0, .bool false, .int .u8 0]⟩),
  (8, ⟨.struct [(0, 2), (1, 3), (2, 4), (3, 6)], 4, 24, .agg #[.int .i64 0, .int .i64 0, .bool false, .int .u8 0]⟩),
  (9, ⟨.string, 1, 16, .string ByteArray.empty⟩),
  (10, ⟨.string, 1, 16, .string ByteArray.empty⟩),
  (11, ⟨.string, 1, 16, .string ByteArray.empty⟩),
  (12, ⟨.int .u64, 1, 8, .int .u64 0⟩),
  (13, ⟨.struct [(0, 9), (1, 12)], 2, 24, .agg #[.string ByteArray.empty, .int .u64 0]⟩),
  (14, ⟨.struct [(0, 9), (1, 12)], 2, 24, .agg #[.string ByteArray.empty, .int .u64 0]⟩),
  (15, ⟨.ptr 199, 1, 8, .pointer none⟩),
  (16, ⟨.ptr 202, 1, 8, .pointer none⟩),
  (17, ⟨.ptr 210, 1, 8, .pointer none⟩),
  (18, ⟨.struct [(0, 17)], 1, 8, .agg #[.pointer none]⟩),
  (19, ⟨.struct [(0, 17)], 1, 8, .agg #[.pointer none]⟩),
  (21, ⟨.int .i32, 1, 4, .int .i32 0⟩),
  (22, ⟨.slice 3, 1, 24, .slice none 0 0⟩),
  (23, ⟨.slice 9, 1, 24, .slice none 0 0⟩),
  (24, ⟨.int .u64, 1, 8, .int .u64 0⟩),
  (25, ⟨.struct [(0, 3), (1, 3), (2, 3), (3, 24)], 4, 32, .agg #[.int .i64 0, .int .i64 0, .int .i64 0, .int .u64 0]⟩),
  (26, ⟨.struct [(0, 3), (1, 3), (2, 3), (3, 24)], 4, 32, .agg #[.int .i64 0, .int .i64 0, .int .i64 0, .int .u64 0]⟩),
  (27, ⟨.slice 76, 1, 24, .slice none 0 0⟩),
  (28, ⟨.slice 5, 1, 24, .slice none 0 0⟩),
  (29, ⟨.struct [(0, 3), (1, 9), (2, 3), (3, 3), (4, 3)], 5, 48, .agg #[.int .i64 0, .string ByteArray.empty, .int .i64 0, .int .i64 0, .int .i64 0]⟩),
  (30, ⟨.struct [(0, 3), (1, 9), (2, 3), (3, 3), (4, 3)], 5, 48, .agg #[.int .i64 0, .string ByteArray.empty, .int .i64 0, .int .i64 0, .int .i64 0]⟩),
  (31, ⟨.struct [(0, 3), (1, 9), (2, 9), (3, 23), (4, 26), (8, 27), (9, 28), (10, 3), (11, 3), (12, 3), (13, 3), (14, 3), (15, 3), (16, 30), (21, 28)], 22, 264, .agg #[.int .i64 0, .string ByteArray.empty, .string ByteArray.empty, .slice none 0 0, .int .i64 0, .int .i64 0, .int .i64 0, .int .u64 0, .slice none 0 0, .slice none 0 0, .int .i64 0, .int .i64 0, .int .i64 0, .int .i64 0, .int .i64 0, .int .i64 0, .int .i64 0, .string ByteArray.empty, .int .i64 0, .int .i64 0, .int .i64 0, .slice none 0 0]⟩),
  (32, ⟨.struct [(0, 3), (1, 9), (2, 9), (3, 23), (4, 26), (8, 27), (9, 28), (10, 3), (11, 3), (12, 3), (13, 3), (14, 3), (15, 3), (16, 30), (21, 28)], 22, 264, .agg #[.int .i64 0, .string ByteArray.empty, .string ByteArray.empty, .slice none 0 0, .int .i64 0, .int .i64 0, .int .i64 0, .int .u64 0, .slice none 0 0, .slice none 0 0, .int .i64 0, .int .i64 0, .int .i64 0, .int .i64 0, .int .i64 0, .int .i64 0, .int .i64 0, .string ByteArray.empty, .int .i64 0, .int .i64 0, .int .i64 0, .slice none 0 0]⟩),
  (35, ⟨.int .i64, 1, 8, .int .i64 0⟩),
  (52, ⟨.int .u64, 1, 8, .int .u64 0⟩),
  (58, ⟨.struct [(0, 3), (1, 3), (2, 4)], 3, 24, .agg #[.int .i64 0, .int .i64 0, .bool false]⟩),
  (59, ⟨.struct [(0, 3), (1, 3), (2, 4)], 3, 24, .agg #[.int .i64 0, .int .i64 0, .bool false]⟩),
  (60, ⟨.struct [(0, 3), (1, 3), (2, 24), (3, 22), (4, 4)], 5, 56, .agg #[.int .i64 0, .int .i64 0, .int .u64 0, .slice none 0 0, .bool false]⟩),
  (61, ⟨.struct [(0, 3), (1, 3), (2, 24), (3, 22), (4, 4)], 5, 56, .agg #[.int .i64 0, .int .i64 0, .int .u64 0, .slice none 0 0, .bool false]⟩),
  (62, ⟨.struct [(0, 3), (1, 24), (2, 22)], 3, 40, .agg #[.int .i64 0, .int .u64 0, .slice none 0 0]⟩),
  (63, ⟨.struct [(0, 3), (1, 24), (2, 22)], 3, 40, .agg #[.int .i64 0, .int .u64 0, .slice none 0 0]⟩),
  (64, ⟨.slice 146, 1, 24, .slice none 0 0⟩),
  (65, ⟨.struct [(0, 3), (1, 3), (2, 64), (3, 4)], 4, 48, .agg #[.int .i64 0, .int .i64 0, .slice none 0 0, .bool false]⟩),
  (66, ⟨.struct [(0, 3), (1, 3), (2, 64), (3, 4)], 4, 48, .agg #[.int .i64 0, .int .i64 0, .slice none 0 0, .bool false]⟩),
  (67, ⟨.struct [(0, 3), (1, 3), (2, 3), (3, 64), (4, 4)], 5, 56, .agg #[.int .i64 0, .int .i64 0, .int .i64 0, .slice none 0 0, .bool false]⟩),
  (68, ⟨.struct [(0, 3), (1, 3), (2, 3), (3, 64), (4, 4)], 5, 56, .agg #[.int .i64 0, .int .i64 0, .int .i64 0, .slice none 0 0, .bool false]⟩),
  (69, ⟨.slice 23, 1, 24, .slice none 0 0⟩),
  (70, ⟨.struct [(0, 3), (1, 3), (2, 3), (3, 69), (4, 4)], 5, 56, .agg #[.int .i64 0, .int .i64 0, .int .i64 0, .slice none 0 0, .bool false]⟩),
  (71, ⟨.struct [(0, 3), (1, 3), (2, 3), (3, 69), (4, 4)], 5, 56, .agg #[.int .i64 0, .int .i64 0, .int .i64 0, .slice none 0 0, .bool false]⟩),
  (72, ⟨.struct [(0, 26), (4, 59), (7, 61), (12, 63), (15, 66), (19, 68), (24, 71)], 29, 312, .agg #[.int .i64 0, .int .i64 0, .int .i64 0, .int .u64 0, .int .i64 0, .int .i64 0, .bool false, .int .i64 0, .int .i64 0, .int .u64 0, .slice none 0 0, .bool false, .int .i64 0, .int .u64 0, .slice none 0 0, .int .i64 0, .int .i64 0, .slice none 0 0, .bool false, .int .i64 0, .int .i64 0, .int .i64 0, .slice none 0 0, .bool false, .int .i64 0, .int .i64 0, .int .i64 0, .slice none 0 0, .bool false]⟩),
  (73, ⟨.struct [(0, 26), (4, 59), (7, 61), (12, 63), (15, 66), (19, 68), (24, 71)], 29, 312, .agg #[.int .i64 0, .int .i64 0, .int .i64 0, .int .u64 0, .int .i64 0, .int .i64 0, .bool false, .int .i64 0, .int .i64 0, .int .u64 0, .slice none 0 0, .bool false, .int .i64 0, .int .u64 0, .slice none 0 0, .int .i64 0, .int .i64 0, .slice none 0 0, .bool false, .int .i64 0, .int .i64 0, .int .i64 0, .slice none 0 0, .bool false, .int .i64 0, .int .i64 0, .int .i64 0, .slice none 0 0, .bool false]⟩),
  (75, ⟨.struct [(0, 9), (1, 3)], 2, 24, .agg #[.string ByteArray.empty, .int .i64 0]⟩),
  (76, ⟨.struct [(0, 9), (1, 3)], 2, 24, .agg #[.string ByteArray.empty, .int .i64 0]⟩),
  (78, ⟨.array 14 4, 14, 14, .agg #[.bool false, .bool false, .bool false, .bool false, .bool false, .bool false, .bool false, .bool false, .bool false, .bool false, .bool false, .bool false, .bool false, .bool false]⟩),
  (82, ⟨.array 13 4, 13, 13, .agg #[.bool false, .bool false, .bool false, .bool false, .bool false, .bool false, .bool false, .bool false, .bool false, .bool false, .bool false, .bool false, .bool false]⟩),
  (89, ⟨.ptr 91, 1, 8, .pointer none⟩),
  (90, ⟨.struct [(0, 28)], 1, 24, .agg #[.slice none 0 0]⟩),
  (91, ⟨.struct [(0, 28)], 1, 24, .agg #[.slice none 0 0]⟩),
  (96, ⟨.ptr 98, 1, 8, .pointer none⟩),
  (97, ⟨.struct [(0, 28), (1, 4)], 2, 32, .agg #[.slice none 0 0, .bool false]⟩),
  (98, ⟨.struct [(0, 28), (1, 4)], 2, 32, .agg #[.slice none 0 0, .bool false]⟩),
  (104, ⟨.int .u32, 1, 4, .int .u32 0⟩),
  (145, ⟨.struct [(0, 9), (1, 3), (2, 3)], 3, 32, .agg #[.string ByteArray.empty, .int .i64 0, .int .i64 0]⟩),
  (146, ⟨.struct [(0, 9), (1, 3), (2, 3)], 3, 32, .agg #[.string ByteArray.empty, .int .i64 0, .int .i64 0]⟩),
  (192, ⟨.slice 24, 1, 24, .slice none 0 0⟩),
  (198, ⟨.struct [(0, 17), (1, 17), (2, 17), (3, 9)], 4, 40, .agg #[.pointer none, .pointer none, .pointer none, .string ByteArray.empty]⟩),
  (199, ⟨.struct [(0, 17), (1, 17), (2, 17), (3, 9)], 4, 40, .agg #[.pointer none, .pointer none, .pointer none, .string ByteArray.empty]⟩),
  (200, ⟨.array 0 16, 0, 0, .agg #[]⟩),
  (201, ⟨.struct [(0, 200)], 0, 0, .agg #[]⟩),
  (202, ⟨.struct [(0, 200)], 0, 0, .agg #[]⟩),
  (203, ⟨.int .u8, 1, 1, .int .u8 0⟩),
  (204, ⟨.int .u8, 1, 1, .int .u8 0⟩),
  (206, ⟨.ptr 5, 1, 8, .pointer none⟩),
  (207, ⟨.int .i32, 1, 4, .int .i32 0⟩),
  (208, ⟨.int .i32, 1, 4, .int .i32 0⟩),
  (209, ⟨.struct [(0, 12), (1, 12), (2, 104), (3, 203), (4, 5), (5, 5), (6, 204), (7, 205), (8, 206), (9, 207), (10, 208)], 11, 48, .agg #[.int .u64 0, .int .u64 0, .int .u32 0, .int .u8 0, .int .u8 0, .int .u8 0, .int .u8 0, .nilFunc, .pointer none, .int .i32 0, .int .i32 0]⟩),
  (210, ⟨.struct [(0, 12), (1, 12), (2, 104), (3, 203), (4, 5), (5, 5), (6, 204), (7, 205), (8, 206), (9, 207), (10, 208)], 11, 48, .agg #[.int .u64 0, .int .u64 0, .int .u32 0, .int .u8 0, .int .u8 0, .int .u8 0, .int .u8 0, .nilFunc, .pointer none, .int .i32 0, .int .i32 0]⟩)]
theorem PZ : ∀ y ∈ tbl, ZL Tryz.prog y.1 = some y.2 :=
  (List.forall_mem_cons.2 ⟨te_2, (List.forall_mem_cons.2 ⟨te_3, (List.forall_mem_cons.2 ⟨te_4, (List.forall_mem_cons.2 ⟨te_5, (List.forall_mem_cons.2 ⟨te_6, (List.forall_mem_cons.2 ⟨te_7, (List.forall_mem_cons.2 ⟨te_8, (List.forall_mem_cons.2 ⟨te_9, (List.forall_mem_cons.2 ⟨te_10, (List.forall_mem_cons.2 ⟨te_11, (List.forall_mem_cons.2 ⟨te_12, (List.forall_mem_cons.2 ⟨te_13, (List.forall_mem_cons.2 ⟨te_14, (List.forall_mem_cons.2 ⟨te_15, (List.forall_mem_cons.2 ⟨te_16, (List.forall_mem_cons.2 ⟨te_17, (List.forall_mem_cons.2 ⟨te_18, (List.forall_mem_cons.2 ⟨te_19, (List.forall_mem_cons.2 ⟨te_21, (List.forall_mem_cons.2 ⟨te_22, (List.forall_mem_cons.2 ⟨te_23, (List.forall_mem_cons.2 ⟨te_24, (List.forall_mem_cons.2 ⟨te_25, (List.forall_mem_cons.2 ⟨te_26, (List.forall_mem_cons.2 ⟨te_27, (List.forall_mem_cons.2 ⟨te_28, (List.forall_mem_cons.2 ⟨te_29, (List.forall_mem_cons.2 ⟨te_30, (List.forall_mem_cons.2 ⟨te_31, (List.forall_mem_cons.2 ⟨te_32, (List.forall_mem_cons.2 ⟨te_35, (List.forall_mem_cons.2 ⟨te_52, (List.forall_mem_cons.2 ⟨te_58, (List.forall_mem_cons.2 ⟨te_59, (List.forall_mem_cons.2 ⟨te_60, (List.forall_mem_cons.2 ⟨te_61, (List.forall_mem_cons.2 ⟨te_62, (List.forall_mem_cons.2 ⟨te_63, (List.forall_mem_cons.2 ⟨te_64, (List.forall_mem_cons.2 ⟨te_65, (List.forall_mem_cons.2 ⟨te_66, (List.forall_mem_cons.2 ⟨te_67, (List.forall_mem_cons.2 ⟨te_68, (List.forall_mem_cons.2 ⟨te_69, (List.forall_mem_cons.2 ⟨te_70, (List.forall_mem_cons.2 ⟨te_71, (List.forall_mem_cons.2 ⟨te_72, (List.forall_mem_cons.2 ⟨te_73, (List.forall_mem_cons.2 ⟨te_75, (List.forall_mem_cons.2 ⟨te_76, (List.forall_mem_cons.2 ⟨te_78, (List.forall_mem_cons.2 ⟨te_82, (List.forall_mem_cons.2 ⟨te_89, (List.forall_mem_cons.2 ⟨te_90, (List.forall_mem_cons.2 ⟨te_91, (List.forall_mem_cons.2 ⟨te_96, (List.forall_mem_cons.2 ⟨te_97, (List.forall_mem_cons.2 ⟨te_98, (List.forall_mem_cons.2 ⟨RN, (List.forall_mem_cons.2 ⟨RO, (List.forall_mem_cons.2 ⟨RQ, (List.forall_mem_cons.2 ⟨RR, (List.forall_mem_cons.2 ⟨RU, (List.forall_mem_cons.2 ⟨RX, (List.forall_mem_cons.2 ⟨RY, (List.forall_mem_cons.2 ⟨RZ, (List.forall_mem_cons.2 ⟨S0, (List.forall_mem_cons.2 ⟨S1, (List.forall_mem_cons.2 ⟨S2, (List.forall_mem_cons.2 ⟨S3, (List.forall_mem_cons.2 ⟨S4, (List.forall_mem_cons.2 ⟨S5, (List.forall_mem_cons.2 ⟨S6, (List.forall_mem_cons.2 ⟨S7, (by simp)⟩)⟩)⟩)⟩)⟩)⟩)⟩)⟩)⟩)⟩)⟩)⟩)⟩)⟩)⟩)⟩)⟩)⟩)⟩)⟩)⟩)⟩)⟩)⟩)⟩)⟩)⟩)⟩)⟩)⟩)⟩)⟩)⟩)⟩)⟩)⟩)⟩)⟩)⟩)⟩)⟩)⟩)⟩)⟩)⟩)⟩)⟩)⟩)⟩)⟩)⟩)⟩)⟩)⟩)⟩)⟩)⟩)⟩)⟩)⟩)⟩)⟩)⟩)⟩)⟩)⟩)⟩)⟩)⟩)⟩)⟩)⟩)⟩)⟩)
def tb : Tb Tryz.prog := ⟨tbl, tb_of PZ⟩
theorem mixed : Tryz.prog.follows .mixedOrders = true := by kernel_rfl
end Go.Proofs.YthlaenafkihjiaaGreat
