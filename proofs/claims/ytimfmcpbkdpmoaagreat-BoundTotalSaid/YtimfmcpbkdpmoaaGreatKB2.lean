/- Parts of the proof, laid together. No condition. -/
import Derived.Test.YtimfmcpbkdpmoaaGreatKB1
import Derived.IntWalk
import Derived.Great.BuildSlice
import Derived.ChangeKeysEq
import Derived.Laws.StructEq
import Derived.Laws.IdiomStrings
import Derived.Laws.MakeOwn
import Derived.ScopeJumps
import Derived.Lib.SliceRun
import Derived.MapKept
set_option linter.unusedVariables false
set_option linter.unusedSimpArgs false
namespace Go.Proofs.YtimfmcpbkdpmoaaGreat
open Go.RowKit
section
variable {E : En} {N : Nat} {P : Program} {T : Tb P} {ops : Array Oper} {o : Oper} {st : St} {d : Nat} {ty : Nat} {pos : String} {af : Array Edge} {gd : Option (Nat × Bool)} {Q : Exit → St → Prop}
theorem K7 {x : Operand} {y : CV} (hx : st.ev x = .c y := by exact rfl) (hc : Zf x = true := by exact rfl) : ZC E N P ops ⟨some d, .move x, ty, pos, af, gd⟩ st ⟨[], []⟩ ⟨.c y, []⟩ := Q5l hc hx
theorem SC {x : Operand} {ts : List TV} {i : Nat} {y : CV} (h1 : st.ev x = .tup ts := by exact rfl) (hi : ts[i]? = some (.c y) := by exact rfl) (hx : Zf x = true := by exact rfl) : ZC E N P ops ⟨some d, .extract x i, ty, pos, af, gd⟩ st ⟨[], []⟩ ⟨.c y, []⟩ := O5 h1 hi (by simp) hx
theorem SD {x : Operand} {ts : List TV} {i : Nat} {y : List CV} (h1 : st.ev x = .tup ts := by exact rfl) (hi : ts[i]? = some (.agg y) := by exact rfl) (hx : Zf x = true := by exact rfl) : ZC E N P ops ⟨some d, .extract x i, ty, pos, af, gd⟩ st ⟨[], []⟩ ⟨.agg y, []⟩ := O5 h1 hi (by simp) hx
theorem Q9x {c x y : Operand} {z : CV} (hv : st.ev c = .c (.p (.v (.bool true)))) (hz : st.ev x = .c z) (hb : Zf c = true) (h1 : Zf x = true) (h2 : Zf y = true) : ZC E N P ops ⟨some d, .pick c x y, ty, pos, af, gd⟩ st ⟨[], []⟩ ⟨.c z, []⟩ := Mq hb h1 h2 hv (by simpa using hz)
theorem Q9y {c x y : Operand} {z : CV} (hv : st.ev c = .c (.p (.v (.bool false)))) (hz : st.ev y = .c z) (hb : Zf c = true) (h1 : Zf x = true) (h2 : Zf y = true) : ZC E N P ops ⟨some d, .pick c x y, ty, pos, af, gd⟩ st ⟨[], []⟩ ⟨.c z, []⟩ := Mq hb h1 h2 hv (by simpa using hz)
theorem Qex {x : Operand} {el : TypeId} {y : CV} (hx : st.ev x = .c y) (hk : TV.known (.c y) = true) (hc : Zf x = true) : ZC E N P ops ⟨some d, .box el x, ty, pos, af, gd⟩ st ⟨[], [(d, 0)]⟩ ⟨.c (.ptr (d, 0) 0 0), [((d, 0), some (.box [y]))]⟩ := Qcp hx hk hc
theorem Qey {x : Operand} {el : TypeId} {cs : List CV} (hx : st.ev x = .agg cs := by exact rfl) (hc : Zf x = true := by exact rfl) : ZC E N P ops ⟨some d, .box el x, ty, pos, af, gd⟩ st ⟨[], [(d, 0)]⟩ ⟨.c (.ptr (d, 0) 0 0), [((d, 0), some (.box cs))]⟩ := Qcp hx rfl hc
theorem On {x y : Operand} {t : TypeId} {te : TE} {b : Qw} {k : Nat} {all all' : List CV} {fm : Option Frm} {v : CV} {dst : Option Nat} (hx : st.ev x = .c (.ptr b 0 k)) (hb : st.h b = some (.box all fm)) (hv : st.ev y = .c v) (hk : TV.known (.c v) = true) (ht : Zn T.ty t = some te) (hsz : 1 = te.size) (hin : k + 1 ≤ all.length)
  (hall : setAt all k [v] = all') (hcx : Zf x = true) (hcy : Zf y = true) : ZC E N P ops ⟨dst, .store t x y, ty, pos, af, gd⟩ st ⟨[b], []⟩ ⟨.c .any, [(b, some (.box all' fm))]⟩ := L8 hx hb hv hk ht hsz hin hall hcx hcy
theorem Oo {x y : Operand} {t : TypeId} {te : TE} {b : Qw} {k : Nat} {all all' cs : List CV} {fm : Option Frm} {dst : Option Nat} (hx : st.ev x = .c (.ptr b 0 k)) (hb : st.h b = some (.box all fm)) (hv : st.ev y = .agg cs) (ht : Zn T.ty t = some te) (hsz : cs.length = te.size) (hin : k + cs.length ≤ all.length)
  (hall : setAt all k cs = all') (hcx : Zf x = true) (hcy : Zf y = true) : ZC E N P ops ⟨dst, .store t x y, ty, pos, af, gd⟩ st ⟨[b], []⟩ ⟨.c .any, [(b, some (.box all' fm))]⟩ := L8 hx hb hv rfl ht hsz hin hall hcx hcy
theorem nb {n : Nat} (h : Nat.beq n 0 = false) : n ≠ 0 := by rintro rfl; cases h
theorem Zj [T : Tb P] {x : Operand} {b : Qw} {i k k' f off ft s : Nat} {ts tf : TE} {fs : List (Nat × Nat)} (h1 : st.ev x = .c (.ptr b i k) := by exact rfl) (hb : (st.h b).isSome = true := by exact rfl) (hs : Zn T.ty s = some ts := by exact rfl) (hk : ts.kd = .struct fs := by exact rfl) (hf : fs[f]? = some (off, ft) := by exact rfl) (hft : Zn T.ty ft = some tf := by exact rfl) (hz : Nat.beq tf.size 0 = false := by exact rfl) (hkk : Nat.add k off = k' := by exact rfl) (hc : Zf x = true := by exact rfl) :
  ZC E N P ops ⟨some d, .fieldAddr s x f, ty, pos, af, gd⟩ st ⟨[b], []⟩ ⟨.c (.ptr b i k'), []⟩ := Sx h1 hb hs hk hf hft (nb hz) hkk hc
theorem Q9z [T : Tb P] {x : Operand} {r : List PV} {k k' f off ft s : Nat} {ts tf : TE} {fs : List (Nat × Nat)} (h1 : st.ev x = .c (.ep r k) := by exact rfl) (hs : Zn T.ty s = some ts := by exact rfl) (hk : ts.kd = .struct fs := by exact rfl) (hf : fs[f]? = some (off, ft) := by exact rfl) (hft : Zn T.ty ft = some tf := by exact rfl) (hz : Nat.beq tf.size 0 = false := by exact rfl) (hkk : Nat.add k off = k' := by exact rfl) (hc : Zf x = true := by exact rfl) :
  ZC E N P ops ⟨some d, .fieldAddr s x f, ty, pos, af, gd⟩ st ⟨[], []⟩ ⟨.c (.ep r k'), []⟩ := Q14 h1 hs hk hf hft (nb hz) hkk hc
variable {r : List Oper} {acc : List (Fp × Ef)} {K : List (Fp × Ef) → St → Prop} {fr : List (Nat × TV)} {H : List (Qw × Option Bk)} {op : Op}
end
section
variable {E : En} {N : Nat} {P : Program} {T : Tb P} {st : St} {Q : Exit → St → Prop} {cx : Cx} {a : Act} {w : World} {fn : Func}
def Nm (st st' : St) : Prop := ∃ ks σ, okS σ = true ∧ st.norm ks σ = st'
theorem Nm.mk (ks : List Nat) (σ : List (Qw × Qw)) {st' : St} (h1 : okS σ = true) (h : st.norm ks σ = st') : Nm st st' := ⟨ks, σ, h1, h⟩
theorem Q19 {x y : Code} (h : ∀ K : St → Prop, (∀ st, AW E N P y Q st → K st) → AW E N P x (O6 Q K) st) : AW E N P (.seq x y) Q st := Q9u (h _ fun _ h => h)
theorem Qj0 {x : List Oper} {id : Nat} {y : Code} (hN : Q9i N x = true) (h : ∀ K : St → Prop, (∀ st, AW E N P y Q st → K st) → Ac E N P x.toArray x [] st fun acc st' => Q0z acc.reverse = true ∧ Ad st acc = true ∧ K st') : AW E N P (.seq (.region id x.toArray false) y) Q st :=
 Q19 fun K hK => P8 hN (h K hK)
theorem Qj1 {x : List Oper} {id : Nat} {y : Code} (hm : P.follows .mixedOrders = true) (hS : Qig N x = true) (h : ∀ K : St → Prop, (∀ st, AW E N P y Q st → K st) → Ac E N P x.toArray x [] st fun acc st' => Q9h x acc.reverse = true ∧ Ad st acc = true ∧ K st') : AW E N P (.seq (.region id x.toArray true) y) Q st :=
 Q19 fun K hK => Qcr hm hS (h K hK)
theorem Gp.ps : ∀ {xs : List PV}, Gp st (xs.map .p) xs []
 | [] => .nil
 | x :: xs => .cons (b := []) (bs := []) (.p x) Gp.ps
section
variable {ops : Array Oper} {d : Nat} {ty : Nat} {pos : String} {af : Array Edge} {gd : Option (Nat × Bool)} {f : FuncId} {xs : Array Operand} {tys : Array TypeId} {dst : Option Nat} {avs : List AV} {bs : List Qw}
theorem gm {α β : Type} {l : List α} {g : α → β} {j : Nat} {x : α} (h : l[j]? = some x) : (l.map g)[j]? = some (g x) := by rw [List.getElem?_map, h]; rfl
end
theorem SE {f : FuncId} {avs : List AV} {x : Value} (he : Lj P f = true) (hx : Jm x = true) (hn : avs.any AV.isRef = false) (h : ∀ A q w vs, AsR w A (fun _ => none) w.heap.size q avs vs.toList → Calls P f vs w fun e w' => e = .returned x ∧ w.grownBy w' none) : Va P f avs [.c (.p (.v x))] [] := by
 refine ⟨he, fun A gs g q w vs hA hinj hgs hg hR => ?_⟩
 obtain ⟨hg1, rfl⟩ := hg hn
 have e : gs = fun _ => none := funext hg1
 subst e
 refine (h A q w vs hR).mono ?_
 rintro _ w' ⟨rfl, hgr⟩
 exact ⟨x, A, fun _ => none, rfl, fun _ h => h, fun _ h => .inl h, hgr.size, fun y hy _ _ => hgr.block y hy (by simp), ⟨hgr.os, .kept fun y hy => hgr.block y hy (by simp)⟩, hgr.tape, hgr.output, fun n m y h => (by cases h), fun n y h => (by cases h), ⟨V3 hx, .v x hx, trivial⟩, fun h => by rw [hn] at h; cases h⟩
theorem Nr {A : Nat → Prop} {gs : Nat → Option Nat} {g q : Nat} : ∀ {xs : List Value} {vs : Array Value}, AsR w A gs g q (xs.map fun x => .c (.v x)) vs.toList → vs = xs.toArray := by
 intro xs vs h
 suffices vs.toList = xs by rw [← this]
 revert h
 generalize vs.toList = l
 intro h
 induction xs generalizing l with
 | nil =>
  cases l with
  | nil => rfl
  | cons v l => exact h.elim
 | cons x xs ih =>
  cases l with
  | nil => exact h.elim
  | cons v l =>
   obtain ⟨h1, h2⟩ := h
   have : v = x := by cases h1 with | v _ _ => rfl
   rw [this, ih l h2]
end
section
variable {E : En} {N : Nat} {P : Program} {T : Tb P} {st : St} {Q : Exit → St → Prop} {cx : Cx} {a : Act} {w w' : World} {fn : Func}
def Qez (T : Tb P) (fn : Func) (r : List RS) (out : List RV) : Exit → St → Prop := fun e st => (e = .normal ∨ e = .ret) ∧ ∃ ts os bs cs os' bs', Mx T st fn.results.toList ts ∧ Nn st ts r os bs ∧ st.h K5 = some (.box cs) ∧ AQ st cs out os' bs' ∧
 Ll (os ++ os') = true ∧ Dh ((os ++ os').filterMap id) (bs ++ bs') = true
theorem Q0b {c : CV} {x : RV} {o : Option Qw} {bs : List Qw} (h : ToC st c x o bs) : (∀ b ∈ bs, st.h b ≠ none) ∧ ∀ b, o = some b → ∃ e rows, st.h b = some (.row e rows true) := by
 cases h with
 | p x => exact ⟨by simp, by simp⟩
 | nil e => exact ⟨by simp, by simp⟩
 | nilo e he => exact ⟨by simp, by simp⟩
 | own hb hn => exact ⟨by simp, fun b hb' => by cases hb'; exact ⟨_, _, hb⟩⟩
 | fr hb hr => exact ⟨fun b hb' => by rw [List.mem_singleton.1 hb', hb]; simp, by simp⟩
theorem Lo {cs : List CV} {xs : List RV} {os : List (Option Qw)} {bs : List Qw} (h : AQ st cs xs os bs) : (∀ b ∈ bs, st.h b ≠ none) ∧ ∀ b, some b ∈ os → ∃ e rows, st.h b = some (.row e rows true) := by
 induction h with
 | nil => exact ⟨by simp, by simp⟩
 | cons h hs ih =>
  obtain ⟨h1, h2⟩ := Q0b h
  refine ⟨fun b hb => ?_, fun b hb => ?_⟩
  ·rcases List.mem_append.1 hb with h | h
   ·exact h1 b h
   ·exact ih.1 b h
  ·rcases List.mem_cons.1 hb with h | h
   ·exact h2 b h.symm
   ·exact ih.2 b h
theorem Lp {ts : List TV} {xs : List RS} {os : List (Option Qw)} {bs : List Qw} (h : Nn st ts xs os bs) : (∀ b ∈ bs, st.h b ≠ none) ∧ ∀ b, some b ∈ os → ∃ e rows, st.h b = some (.row e rows true) := by
 induction h with
 | nil => exact ⟨by simp, by simp⟩
 | @cons t x os os' bs bs' ts xs h hs ih =>
  have hS : (∀ b ∈ bs, st.h b ≠ none) ∧ ∀ b, some b ∈ os → ∃ e rows, st.h b = some (.row e rows true) := by
   cases h with
   | c h =>
    obtain ⟨h1, h2⟩ := Q0b h
    exact ⟨h1, fun b hb => h2 b (List.mem_singleton.1 hb).symm⟩
   | agg h => exact Lo h
  refine ⟨fun b hb => ?_, fun b hb => ?_⟩
  ·rcases List.mem_append.1 hb with h | h
   ·exact hS.1 b h
   ·exact ih.1 b h
  ·rcases List.mem_append.1 hb with h | h
   ·exact hS.2 b h
   ·exact ih.2 b h
theorem Qf0 {f : FuncId} {body : Code} {cs : List RV} {avs : List AV} {r : List RS} {out : List RV} (T : Tb P) (hf : P.funcs[f]? = some fn) (hb : fn.body = some body) (he : Lj P f = true) (hN : fn.ntmps = N) (hN2 : Nat.ble N 65536 = true) (hl : avs.length + 1 ≤ N) (hn : avs.any AV.isRef = false)
  (h : ∀ E, AW E N P body (Qez T fn r out) ⟨(0, .c (.ptr K5 0 0)) :: SB 1 avs, (K5, some (.box (F7 65536 1 cs))) :: AX 65536 1 cs⟩) : Va P f (.ref cs :: avs) r out := by
 refine ⟨he, fun A gs g q w vs hA hinj hgs hg hR => ?_⟩
 -- the arguments
 obtain ⟨v0, vs1, hvs, hR0, hR1⟩ : ∃ v0 vs1, vs.toList = v0 :: vs1 ∧ AVr w A gs g q (.ref cs) v0 ∧ AsR w A gs g q avs vs1 := by
  revert hR
  generalize vs.toList = l
  intro hR
  cases l with
  | nil => exact hR.elim
  | cons v l => exact ⟨v, l, rfl, hR.1, hR.2⟩
 obtain ⟨rfl, c, el, hc, hnA, hsz, hcs⟩ := hR0
 obtain ⟨hul, hua⟩ := DO hcs
 let st0 : St := ⟨(0, .c (.ptr K5 0 0)) :: SB 1 avs, (K5, some (.box (F7 65536 1 cs))) :: AX 65536 1 cs⟩
 let us : List Value := (c.toList.drop q).take cs.length
 let cx0 : Cx := ⟨fun b => if b = K5 then some (g, q) else if b.1 = 65536 ∧ 1 ≤ b.2 then (match cs[b.2 - 1]? with | some (.own _ _) => ιOf (gs (b.2 - 1)) ((us[b.2 - 1]?).getD undef) | _ => none) else none, A⟩
 have hh : ∀ b, st0.h b = if b = K5 then some (.box (F7 65536 1 cs)) else if b.1 = 65536 ∧ 1 ≤ b.2 then (match cs[b.2 - 1]? with | some (.own e rows) => some (.row e rows true) | _ => none) else none := by
  intro b
  show (XZ ((K5, some (Bk.box (F7 65536 1 cs))) :: AX 65536 1 cs) b).getD none = _
  simp only [XZ]
  by_cases e : b = K5
  ·subst e
   rw [Z6.2 rfl, if_pos rfl]; rfl
  ·have : VP K5 b = false := by
    cases hx : VP K5 b with
    | false => rfl
    | true => exact absurd (Z6.1 hx).symm e
   rw [this, if_neg e]
   simp only
   rw [WB]
   by_cases h2 : b.1 = 65536 ∧ 1 ≤ b.2
   ·rw [if_pos h2, if_pos h2]
    cases hx : cs[b.2 - 1]? with
    | none => rfl
    | some x => cases x <;> rfl
   ·rw [if_neg h2, if_neg h2]; rfl
 -- the blocks of one's own
 have hone : ∀ b bk, b ≠ K5 → st0.h b = some bk → ∃ k e rows u, b = (65536, 1 + k) ∧ cs[k]? = some (.own e rows) ∧ bk = .row e rows true ∧ us[k]? = some u ∧ Qri w A (gs k) e rows u ∧ cx0.ι b = ιOf (gs k) u := by
  intro b bk hne hb
  rw [hh, if_neg hne] at hb
  by_cases h2 : b.1 = 65536 ∧ 1 ≤ b.2
  ·rw [if_pos h2] at hb
   cases hx : cs[b.2 - 1]? with
   | none => rw [hx] at hb; cases hb
   | some x =>
    rw [hx] at hb
    cases x with
    | p p => cases hb
    | own e rows =>
     cases hb
     obtain ⟨u, hu, h3, h4⟩ := hua (b.2 - 1) _ hx
     refine ⟨b.2 - 1, e, rows, u, ?_, hx, rfl, hu, by rw [Nat.zero_add] at h4; exact h4, ?_⟩
     ·obtain ⟨b1, b2⟩ := b
      simp only [Prod.mk.injEq] at h2 ⊢
      exact ⟨h2.1, by omega⟩
     ·show (if b = K5 then _ else _) = _
      rw [if_neg hne, if_pos h2, hx]
      simp only
      have hu' : us[b.2 - 1]? = some u := hu
      rw [hu']; rfl
  ·rw [if_neg h2] at hb; cases hb
 have hι0 : cx0.ι K5 = some (g, q) := by simp [cx0]
 have hown2 : ∀ k e rows, cs[k]? = some (.own e rows) → st0.h (65536, 1 + k) = some (.row e rows true) := by
  intro k e rows hk
  have hne : ((65536, 1 + k) : Qw) ≠ K5 := by simp [K5]
  rw [hh, if_neg hne, if_pos ⟨rfl, by simp⟩]
  simp only [Nat.add_sub_cancel_left, hk]
 let E : En := ⟨w, A, fun x => x = g ∨ ∃ n, gs n = some x, cx0.ι⟩
 have hglt : g < w.heap.size := (Array.getElem?_eq_some_iff.1 hc).1
 obtain ⟨hvl, hfr⟩ := Qcu (cx := cx0) (h := st0.h) (j := 1) hn hR1
 have hvsz : vs.size = avs.length + 1 := by
  have := congrArg List.length hvs
  simpa [hvl] using this
 have hr : Xx E N cx0 st0 { tmps := vs ++ Array.replicate (fn.ntmps - vs.size) undef, defers := [] } w := by
  refine ⟨rfl, by simp; omega, fun s => ?_, fun b bk hb => ?_, fun b b' g1 o g2 o' hb hb' hi hi' hne => ?_, fun b g1 o hb hi => ?_, fun x hx => ⟨hA x hx, .inl hx⟩, fun x hx => hx, fun _ _ _ => rfl, Nat.le_refl _, rfl, rfl, rfl, Nat.le_of_ble_eq_true hN2, fun _ _ => rfl, .refl _⟩
  ·have e : st0.g s = (Zn ((0, .c (.ptr K5 0 0)) :: SB 1 avs) s).getD (.c .any) := rfl
   rw [e]
   have hval : ∀ (i : Nat) (v : Value), vs.toList[i]? = some v → (vs ++ Array.replicate (fn.ntmps - vs.size) undef).getD i undef = v := by
    intro i v hv
    have hi := (List.getElem?_eq_some_iff.1 hv).1
    rw [Array.getD_eq_getD_getElem?, Array.getElem?_append_left (by simpa using hi)]
    rw [Array.getElem?_toList] at hv
    rw [hv]; rfl
   simp only [Zn]
   cases hb : Nat.beq 0 s with
   | true =>
    have := Nat.eq_of_beq_eq_true hb
    subst this
    show RT _ w _ _ ((vs ++ Array.replicate (fn.ntmps - vs.size) undef).getD 0 undef)
    rw [hval 0 (.pointer (some ⟨g, q, none⟩)) (by rw [hvs]; rfl)]
    refine ⟨.inr rfl, fun bk hbk => ⟨g, q, hι0, ?_⟩⟩
    simp
   | false =>
    simp only
    cases hl : Zn (SB 1 avs) s with
    | none => exact ⟨.inl rfl, trivial⟩
    | some t =>
     obtain ⟨i, v, h1, h2, h3⟩ := hfr s t hl
     show RT _ w _ _ ((vs ++ Array.replicate (fn.ntmps - vs.size) undef).getD s undef)
     rw [hval s v (by rw [hvs, h1, Nat.add_comm, List.getElem?_cons_succ]; exact h2)]
     exact h3
  ·by_cases e : b = K5
   ·subst e
    rw [hh, if_pos rfl] at hb
    cases hb
    refine ⟨g, q, c, el, hι0, hc, hnA, by rw [PC]; exact hsz, fun k x hx => ?_, trivial⟩
    rw [Q18, Option.map_eq_some_iff] at hx
    obtain ⟨y, hy, rfl⟩ := hx
    obtain ⟨u, hu, h3, h4⟩ := hua k y hy
    rw [Nat.zero_add] at h4
    have hu2 : c[q + k]? = some u := by
     rw [List.getElem?_take] at hu
     split at hu
     ·rw [List.getElem?_drop, Array.getElem?_toList] at hu; exact hu
     ·cases hu
    refine ⟨u, hu2, h3, ?_⟩
    cases y with
    | p p => exact h4
    | own e rows =>
     have hb2 := hown2 k e rows hy
     have hne : ((65536, 1 + k) : Qw) ≠ K5 := by simp [K5]
     obtain ⟨k2, e2, rows2, u2, h5, h6, h7, h8, h9, h10⟩ := hone _ _ hne hb2
     simp only [Prod.mk.injEq, true_and] at h5
     obtain rfl : k = k2 := by omega
     have : u = u2 := by
      have hh8 : us[k]? = some u2 := h8
      rw [show us[k]? = some u from hu] at hh8
      exact Option.some.inj hh8
     subst this
     exact P9 (cx := cx0) h4 hb2 h10
   ·obtain ⟨k, e2, rows, u, rfl, h6, rfl, h8, h9, h10⟩ := hone b bk e hb
    exact Pb (cx := cx0) h9 h10
  ·have hnew : ∀ b g1 o, b ≠ K5 → st0.h b ≠ none → cx0.ι b = some (g1, o) → ∃ k, b = (65536, 1 + k) ∧ gs k = some g1 := by
    intro b g1 o h1 h2 h3
    obtain ⟨bk, hbk⟩ := Option.ne_none_iff_exists'.1 h2
    obtain ⟨k, e2, rows, u, h5, h6, h7, h8, h9, h10⟩ := hone b bk h1 hbk
    rw [h10] at h3
    exact ⟨k, h5, (ιOf_in h3).1⟩
   by_cases e1 : b = K5 <;> by_cases e2 : b' = K5
   ·exact absurd (e1.trans e2.symm) hne
   ·rw [e1, hι0] at hi
    cases hi
    obtain ⟨k, _, h2⟩ := hnew b' g2 o' e2 hb' hi'
    exact fun e => (hgs k g2 h2).2 e.symm
   ·rw [e2, hι0] at hi'
    cases hi'
    obtain ⟨k, _, h2⟩ := hnew b g1 o e1 hb hi
    exact (hgs k g1 h2).2
   ·obtain ⟨k, h1, h2⟩ := hnew b g1 o e1 hb hi
    obtain ⟨k', h3, h4⟩ := hnew b' g2 o' e2 hb' hi'
    rintro rfl
    have := hinj k k' g1 h2 h4
    exact hne (by rw [h1, h3, this])
  ·by_cases e1 : b = K5
   ·rw [e1, hι0] at hi
    cases hi
    exact ⟨hglt, .inr (.inl rfl)⟩
   ·obtain ⟨bk, hbk⟩ := Option.ne_none_iff_exists'.1 hb
    obtain ⟨k, e2, rows, u, h5, h6, h7, h8, h9, h10⟩ := hone b bk e1 hbk
    rw [h10] at hi
    have := (ιOf_in hi).1
    exact ⟨(hgs k g1 this).1, .inr (.inr ⟨k, this⟩)⟩
 refine calls_of_wp hf hb (wp_mono (h E _ _ _ hr) ?_)
 rintro e a' w' ⟨st', cx', ⟨he, ts, os, bs, cs', os', bs', h1, h2, h2b, h2c, h3, h4⟩, hr'⟩
 obtain ⟨vs', h5, h6, h7⟩ := Ix hr' h1
 have hres := EJ (fn := fn) (rs := fn.results.toList) (by simp) h5
 have hnod := DK h3
 have hdis := VL h4
 obtain ⟨hbl1, hol1⟩ := Lp h2
 obtain ⟨hbl2, hol2⟩ := Lo h2c
 have hbl : ∀ b ∈ bs ++ bs', st'.h b ≠ none := fun b hb => by
  rcases List.mem_append.1 hb with h | h
  ·exact hbl1 b h
  ·exact hbl2 b h
 have hol : ∀ b, some b ∈ os ++ os' → ∃ e rows, st'.h b = some (.row e rows true) := fun b hb => by
  rcases List.mem_append.1 hb with h | h
  ·exact hol1 b h
  ·exact hol2 b h
 have hpin : cx'.ι K5 = some (g, q) := (hr'.pin K5 (.inl rfl)).trans hι0
 let A' : Nat → Prop := fun x => cx'.A x ∨ ∃ b ∈ bs ++ bs', st'.h b ≠ none ∧ ∃ q, cx'.ι b = some (x, q)
 have hmut : ∀ b, some b ∈ os ++ os' → ∀ g q, cx'.ι b = some (g, q) → ¬ cx'.A g := by
  intro b hb g q hg
  obtain ⟨e1, rows, hbk⟩ := hol b hb
  obtain ⟨_, _, h8⟩ := hr'.bl b _ hbk
  rw [hg] at h8
  obtain ⟨_, c, el, fz, capR, _, h9, _⟩ := h8
  exact (h9 rfl).2
 have hlive : ∀ b, some b ∈ os ++ os' → st'.h b ≠ none := fun b hb => by obtain ⟨_, _, h⟩ := hol b hb; rw [h]; simp
 have hnA2 : ∀ b, some b ∈ os ++ os' → ∀ g q, cx'.ι b = some (g, q) → ¬ A' g := by
  rintro b hb g q hg (h | ⟨b2, hb2, hb2l, q2, hg2⟩)
  ·exact hmut b hb g q hg h
  ·refine hr'.inj b b2 g q g q2 (hlive b hb) hb2l hg hg2 ?_ rfl
   rintro rfl
   exact hdis b (List.mem_filterMap.2 ⟨some b, hb, rfl⟩) hb2
 have hpl : st'.h K5 ≠ none := by rw [h2b]; simp
 obtain ⟨g', o', c', el', h8, h9, h10, h11, h12, -⟩ := hr'.bl K5 _ h2b
 rw [hpin] at h8
 cases h8
 -- the pointer's variable is no list
 have hbrow : ∀ b ∈ bs ++ bs', ∃ e rows mu, st'.h b = some (.row e rows mu) := by
  have hCs : ∀ {cs xs os bs}, AQ st' cs xs os bs → ∀ b ∈ bs, ∃ e rows mu, st'.h b = some (.row e rows mu) := by
   intro cs xs os bs h
   induction h with
   | nil => simp
   | cons h hs ih =>
    intro b hb
    rcases List.mem_append.1 hb with hb | hb
    ·exact AY h b hb
    ·exact ih b hb
  have hSs : ∀ {ts xs os bs}, Nn st' ts xs os bs → ∀ b ∈ bs, ∃ e rows mu, st'.h b = some (.row e rows mu) := by
   intro ts xs os bs h
   induction h with
   | nil => simp
   | cons h hs ih =>
    intro b hb
    rcases List.mem_append.1 hb with hb | hb
    ·cases h with
     | c h => exact AY h b hb
     | agg h => exact hCs h b hb
    ·exact ih b hb
  intro b hb
  rcases List.mem_append.1 hb with h | h
  ·exact hSs h2 b h
  ·exact hCs h2c b h
 have hgA' : ¬ A' g := by
  rintro (h | ⟨b2, hb2, hb2l, q2, hg2⟩)
  ·exact h10 h
  ·refine hr'.inj K5 b2 g q g q2 hpl hb2l hpin hg2 ?_ rfl
   rintro rfl
   obtain ⟨_, _, _, h⟩ := hbrow _ hb2
   rw [h2b] at h
   cases h
 obtain ⟨hval, holen⟩ := Mz hr' (A' := A') (fun x hx => .inl hx) h2 (n := 0) (gs := fun n => CF cx' (((os ++ os')[n]?).getD none)) (vs := vs') (fun b hb g q hg => .inr ⟨b, List.mem_append_left _ hb, hbl b (List.mem_append_left _ hb), q, hg⟩)
  (fun b hb g q hg => hnA2 b (List.mem_append_left _ hb) g q hg) (fun k o hk => by rw [Nat.zero_add, List.getElem?_append_left (List.getElem?_eq_some_iff.1 hk).1, hk]; rfl) h6 h7
 have hcl : cs'.length = out.length := (My h2c).1
 have hout := DR hr' (A' := A') (fun x hx => .inl hx) (gs := fun n => CF cx' (((os ++ os')[n]?).getD none)) h2c (n := (QP r).length) (vs := (c'.toList.drop q).take cs'.length) (fun b hb g q hg => .inr ⟨b, List.mem_append_right _ hb, hbl b (List.mem_append_right _ hb), q, hg⟩)
  (fun b hb g q hg => hnA2 b (List.mem_append_right _ hb) g q hg) (fun k o hk => by
   rw [List.getElem?_append_right (by omega), show (QP r).length + k - os.length = k by omega, hk]; rfl) (by simp only [List.length_take, List.length_drop, Array.length_toList]; omega) (fun i x hi => by
   obtain ⟨cv, h13, h14, h15⟩ := h12 i x hi
   have hil := (List.getElem?_eq_some_iff.1 hi).1
   exact ⟨cv, by rw [List.getElem?_take, if_pos hil, List.getElem?_drop, Array.getElem?_toList]; exact h13, h14, h15⟩)
 have hgo : ∀ (n x : Nat), CF cx' (((os ++ os')[n]?).getD none) = some x → ∃ b q, (os ++ os')[n]? = some (some b) ∧ cx'.ι b = some (x, q) := by
  intro n x hx
  cases ho : (os ++ os')[n]? with
  | none => rw [ho] at hx; cases hx
  | some o =>
   rw [ho] at hx
   cases o with
   | none => cases hx
   | some b =>
    simp only [CF, Option.getD_some, Option.bind_some, Option.map_eq_some_iff] at hx
    obtain ⟨⟨x', q⟩, h8, rfl⟩ := hx
    exact ⟨b, q, rfl, h8⟩
 have hfin : ∃ v, (results fn a'.tmps).run P w' = .ok v w' ∧ Q5w w' A' (fun n => CF cx' (((os ++ os')[n]?).getD none)) r v := by
  refine ⟨_, hres, ?_⟩
  match r, vs', hval with
  | [], [], _ => exact ⟨#[], rfl, trivial⟩
  | [t], [v], h => exact h.1
  | t :: t2 :: r, v :: v2 :: vs, h => exact ⟨_, rfl, h⟩
  | [t], v :: v2 :: vs, h => exact h.2.elim
  | t :: t2 :: r, [v], h => exact h.2.elim
 obtain ⟨v, hv1, hv2⟩ := hfin
 have hlb : ∀ {n b}, (os ++ os')[n]? = some (some b) → st'.h b ≠ none := fun h => hlive _ (List.mem_of_getElem? h)
 have hR2 : a'.defers = [] ∧ ∃ v, (results fn a'.tmps).run P w' = .ok v w' ∧ ∃ v' A2 gs', Ending.returned v = .returned v' ∧ (∀ x, A x → A2 x) ∧ (∀ x, A2 x → A x ∨ x < w'.heap.size ∧ (w.heap.size ≤ x ∨ ∃ n, gs n = some x)) ∧ w.heap.size ≤ w'.heap.size ∧
   (∀ x, x < w.heap.size → x ≠ g → (∀ n, gs n ≠ some x) → w'.heap[x]? = w.heap[x]?) ∧ (w'.os = w.os ∧ SzK w w') ∧ w'.tape = w.tape ∧ w'.output = w.output ∧ Q9v gs' ∧
   (∀ n x, gs' n = some x → x < w'.heap.size ∧ (((AV.ref cs :: avs).any AV.isRef) = true → x ≠ g) ∧ (w.heap.size ≤ x ∨ ∃ m, gs m = some x)) ∧ Q5w w' A2 gs' r v' ∧
   (((AV.ref cs :: avs).any AV.isRef) = true → ¬ A2 g ∧ ∃ c el, w'.heap[g]? = some (.cells c el (0, 0)) ∧ q + out.length ≤ c.size ∧ Nl w' A2 gs' (QP r).length out ((c.toList.drop q).take out.length)) := by
  refine ⟨hr'.defers, v, hv1, v, A', _, rfl, fun x hx => .inl (hr'.A0 x hx), ?_, hr'.sz, fun x hx h13 h14 => hr'.kept x hx (by rintro (h | ⟨n, h⟩); exact h13 h; exact h14 n h), ⟨hr'.os, hr'.cz⟩, hr'.tape, hr'.output, ?_, ?_, hv2, fun _ => ⟨hgA', c', el', h9, by rw [← hcl]; exact h11, by rw [← hcl]; exact hout⟩⟩
  ·rintro x (h | ⟨b, hb, hbl', q2, hq⟩)
   ·obtain ⟨h13, h14 | h14 | h14⟩ := hr'.A x h
    ·exact .inl h14
    ·exact .inr ⟨h13, .inl h14⟩
    ·rcases h14 with h14 | h14
     ·subst h14; exact absurd h h10
     ·exact .inr ⟨h13, .inr h14⟩
   ·obtain ⟨h13, h14 | h14⟩ := hr'.own b x q2 hbl' hq
    ·exact .inr ⟨h13, .inl h14⟩
    ·rcases h14 with h14 | h14
     ·subst h14
      exact absurd (.inr ⟨b, hb, hbl', q2, hq⟩) hgA'
     ·exact .inr ⟨h13, .inr h14⟩
  ·intro n m x hx hy
   obtain ⟨b, q2, h13, h14⟩ := hgo n x hx
   obtain ⟨b2, q3, h15, h16⟩ := hgo m x hy
   by_cases hbb : b = b2
   ·subst hbb; exact hnod n m b h13 h15
   ·exact absurd rfl (hr'.inj b b2 x q2 x q3 (hlb h13) (hlb h15) h14 h16 hbb)
  ·intro n x hx
   obtain ⟨b, q2, h13, h14⟩ := hgo n x hx
   obtain ⟨h15, h16⟩ := hr'.own b x q2 (hlb h13) h14
   have hxg : x ≠ g := by
    rintro rfl
    refine hr'.inj b K5 x q2 x q (hlb h13) hpl h14 hpin ?_ rfl
    rintro rfl
    obtain ⟨_, _, h⟩ := hol _ (List.mem_of_getElem? h13)
    rw [h2b] at h
    cases h
   refine ⟨h15, fun _ => hxg, ?_⟩
   rcases h16 with h16 | h16 | h16
   ·exact .inl h16
   ·exact absurd h16 hxg
   ·exact .inr h16
 rcases he with rfl | rfl
 ·exact hR2
 ·exact hR2
end
def Q5z (st : St) (d : Nat) (b : Qw) (r : List RS) (out : List RV) (dl fz : List Qw) : List (Qw × Option Bk) :=
 AX d 0 (QP r ++ out) ++ (b, some (.box (F7 d (QP r).length out))) :: (dl.map (fun x => (x, none)) ++ YJ st fz)
theorem Qrl (dl : List Qw) (b : Qw) : XZ (dl.map fun x => (x, (none : Option Bk))) b = if b ∈ dl then some none else none := by
 induction dl with
 | nil => rfl
 | cons c dl ih =>
  simp only [List.map_cons, XZ]
  by_cases h : c = b
  ·subst h
   rw [Z6.2 rfl, if_pos (by simp)]
  ·have : VP c b = false := by
    cases hx : VP c b with
    | false => rfl
    | true => exact absurd (Z6.1 hx) h
   rw [this]
   simp only
   rw [ih]
   by_cases hb : b ∈ dl
   ·rw [if_pos hb, if_pos (List.mem_cons_of_mem _ hb)]
   ·rw [if_neg hb, if_neg (by rw [List.mem_cons, not_or]; exact ⟨fun e => h e.symm, hb⟩)]
section
variable {E : En} {N : Nat} {cx : Cx} {st : St} {a : Act} {w w' : World} {P : Program} {T : Tb P} {ops : Array Oper} {o : Oper} {d : Nat} {ty : Nat} {pos : String} {af : Array Edge} {gd : Option (Nat × Bool)}
theorem Qa0 (hr : Xx E N cx st a w) (hd : ∀ d, o.dst = some d → d < N) (hdN : d < N) {r : List RS} {out : List RV} {us us2 : List Value} {v : Value} {A2 : Nat → Prop} {gs2 : Nat → Option Nat} {b : Qw} {cs : List CV} {g q : Nat} {dl fz : List Qw}
  (hb : st.h b = some (.box cs)) (hι : cx.ι b = some (g, q))
  (hfresh : ∀ (n e : Nat) (rows : List (List PV)), (QP r ++ out)[n]? = some (.own e rows) → WA (d, n) st) (hA2 : ∀ x, cx.A x → A2 x)
  (hA2' : ∀ x, A2 x → cx.A x ∨ (w.heap.size ≤ x ∧ x < w'.heap.size) ∨ ∃ b ∈ fz ++ dl, st.h b ≠ none ∧ ∃ q, cx.ι b = some (x, q))
  (hfz : ∀ b ∈ fz, (∃ e rows mu, st.h b = some (.row e rows mu)) ∧ ∀ g q, cx.ι b = some (g, q) → A2 g) (hfd : ∀ b ∈ dl, b ∉ fz)
  (hdl : ∀ b ∈ dl, ∃ e rows, st.h b = some (.row e rows true))
  (hsz : w.heap.size ≤ w'.heap.size) (hszk : SzK w w') (hkept : ∀ x, x < w.heap.size → x ≠ g → (∀ b ∈ dl, ∀ q, cx.ι b ≠ some (x, q)) → w'.heap[x]? = w.heap[x]?) (hos : w'.os = w.os) (htp : w'.tape = w.tape) (hou : w'.output = w.output)
  (hinj : Q9v gs2) (hgs : ∀ n x, gs2 n = some x → x < w'.heap.size ∧ x ≠ g ∧ (w.heap.size ≤ x ∨ ∃ b ∈ dl, ∃ q, cx.ι b = some (x, q))) (hval : Nl w' A2 gs2 0 (QP r) us)
  (hbox : ¬ A2 g ∧ ∃ c el, w'.heap[g]? = some (.cells c el (0, 0)) ∧ q + out.length ≤ c.size ∧ us2 = (c.toList.drop q).take out.length) (hval2 : Nl w' A2 gs2 (QP r).length out us2)
  (hrt : ∀ (cx : Cx) (h : Qw → Option Bk), (∀ k x u, (QP r)[k]? = some x → us[k]? = some u → RC cx w' h (adC d k x) u) → RT cx w' h (IG d r) v) :
  ∃ cx', Xx E N cx' (Ef.ap ⟨IG d r, Q5z st d b r out dl fz⟩ o st) (a.put o.dst v) w' := by
 have hcs : Nl w' A2 gs2 0 (QP r ++ out) (us ++ us2) := Qcv hval (by rw [Nat.zero_add]; exact hval2)
 obtain ⟨hul, hua⟩ := DO hcs
 obtain ⟨hul1, hua1⟩ := DO hval
 obtain ⟨hnA, cc, cel, hcc, hccs, hus2⟩ := hbox
 obtain ⟨g0, q0, c0, el0, hb1, hb2, hb3, hb4, hb5, -⟩ := hr.bl b _ hb
 rw [hι] at hb1
 cases hb1
 have hbl : st.h b ≠ none := by rw [hb]; simp
 have hdll : ∀ b ∈ dl, st.h b ≠ none := fun b hb => by obtain ⟨_, _, h⟩ := hdl b hb; rw [h]; simp
 have hdlA : ∀ b ∈ dl, ∀ x q, cx.ι b = some (x, q) → ¬ cx.A x := by
  intro b hb x q hx
  obtain ⟨e1, rows, hbk⟩ := hdl b hb
  obtain ⟨_, _, h8⟩ := hr.bl b _ hbk
  rw [hx] at h8
  obtain ⟨_, c, el, fz, capR, _, h9, _⟩ := h8
  exact (h9 rfl).2
 have hkeep : Xg cx.A w w' := ⟨hsz, fun x hA hx => hkept x hx (fun e => hb3 (e ▸ hA)) (fun b hb q hq => hdlA b hb x q hq hA), hszk⟩
 have hbd : b ∉ dl := fun h => by obtain ⟨_, _, h⟩ := hdl b h; rw [hb] at h; cases h
 have hbf : b ∉ fz := fun h => by obtain ⟨⟨_, _, _, h⟩, _⟩ := hfz b h; rw [hb] at h; cases h
 generalize hL : QP r ++ out = L at *
 let st' := Ef.ap ⟨IG d r, Q5z st d b r out dl fz⟩ o st
 -- the blocks behind
 have hh : ∀ x, st'.h x = match (if x.1 = d then L[x.2]? else none) with
   | some (.own e rows) => some (.row e rows true)
   | _ => if x = b then some (.box (F7 d (QP r).length out)) else if x ∈ dl then none else if x ∈ fz then frz (st.h x) else st.h x := by
  intro x
  have key : (XZ ((b, some (Bk.box (F7 d (QP r).length out))) :: (dl.map (fun x => (x, none)) ++ YJ st fz) ++ st.H) x).getD none = if x = b then some (.box (F7 d (QP r).length out)) else if x ∈ dl then none else if x ∈ fz then frz (st.h x) else st.h x := by
   simp only [List.cons_append, XZ]
   by_cases hx : x = b
   ·subst hx
    rw [Z6.2 rfl, if_pos rfl]; rfl
   ·have : VP b x = false := by
     cases h : VP b x with
     | false => rfl
     | true => exact absurd (Z6.1 h).symm hx
    rw [this, if_neg hx]
    simp only
    rw [List.append_assoc, VQ, VQ, Qrl, Q9w]
    by_cases h1 : x ∈ dl
    ·rw [if_pos h1, if_pos h1]; rfl
    ·rw [if_neg h1, if_neg h1]
     by_cases h2 : x ∈ fz
     ·rw [if_pos h2, if_pos h2]; rfl
     ·rw [if_neg h2, if_neg h2]; rfl
  show (XZ ((AX d 0 (QP r ++ out) ++ (b, some (Bk.box (F7 d (QP r).length out))) :: (dl.map (fun x => (x, none)) ++ YJ st fz)) ++ st.H) x).getD none = _
  rw [hL, List.append_assoc, VQ, WB]
  by_cases hx : x.1 = d
  ·rw [if_pos ⟨hx, Nat.zero_le _⟩, if_pos hx, Nat.sub_zero]
   cases hy : L[x.2]? with
   | none => simp only [Option.none_or]; exact key
   | some y =>
    cases y with
    | p p => simp only [Option.none_or]; exact key
    | own e rows => rfl
  ·rw [if_neg (fun h => hx h.1), if_neg hx]
   simp only [Option.none_or]
   exact key
 -- which are new
 let nw : Qw → Bool := fun b => match (if b.1 = d then L[b.2]? else none) with
  | some (.own _ _) => true
  | _ => false
 have hnw : ∀ b, nw b = true → ∃ n e rows, b = (d, n) ∧ L[n]? = some (.own e rows) := by
  intro b hb
  simp only [nw] at hb
  by_cases h1 : b.1 = d
  ·rw [if_pos h1] at hb
   cases hx : L[b.2]? with
   | none => rw [hx] at hb; cases hb
   | some x =>
    rw [hx] at hb
    cases x with
    | p p => cases hb
    | own e rows => exact ⟨b.2, e, rows, by rw [← h1], hx⟩
  ·rw [if_neg h1] at hb; cases hb
 have hnw2 : ∀ n e rows, L[n]? = some (.own e rows) → nw (d, n) = true := by
  intro n e rows h
  simp only [nw, if_true, h]
 have hnwn : ∀ x, nw x = true → st.h x = none := fun x hx => by
  obtain ⟨n, e, rows, rfl, h⟩ := hnw x hx
  exact (hfresh n e rows h).1
 have hold' : ∀ x, st.h x ≠ none → nw x = false := fun x hx => by
  cases h : nw x with
  | false => rfl
  | true => exact absurd (hnwn x h) hx
 have hh1 : ∀ x, nw x = false → st'.h x = if x = b then some (.box (F7 d (QP r).length out)) else if x ∈ dl then none else if x ∈ fz then frz (st.h x) else st.h x := by
  intro x hx
  rw [hh]
  simp only [nw] at hx
  revert hx
  generalize (if x.1 = d then L[x.2]? else none) = y
  intro hx
  match y, hx with
  | none, _ => rfl
  | some (.p _), _ => rfl
  | some (.own _ _), hx => cases hx
 have hh2 : ∀ n e rows, L[n]? = some (.own e rows) → st'.h (d, n) = some (.row e rows true) := by
  intro n e rows h
  rw [hh]
  simp only [if_true, h]
 have hhb : st'.h b = some (.box (F7 d (QP r).length out)) := by rw [hh1 b (hold' b hbl), if_pos rfl]
 -- what was live
 have hold : ∀ x, nw x = false → st'.h x ≠ none → st.h x ≠ none ∧ x ∉ dl := by
  intro x hx h
  rw [hh1 x hx] at h
  by_cases h1 : x = b
  ·subst h1; exact ⟨hbl, hbd⟩
  ·rw [if_neg h1] at h
   by_cases h2 : x ∈ dl
   ·rw [if_pos h2] at h; exact absurd rfl h
   ·rw [if_neg h2] at h
    refine ⟨?_, h2⟩
    split at h
    ·intro e; rw [e] at h; exact h rfl
    ·exact h
 let cx2 : Cx := ⟨fun b => if nw b = true then ιOf (gs2 b.2) (((us ++ us2)[b.2]?).getD undef) else cx.ι b, A2⟩
 have hι1 : ∀ b, nw b = true → cx2.ι b = ιOf (gs2 b.2) (((us ++ us2)[b.2]?).getD undef) := fun b h => by show (if nw b = true then _ else _) = _; rw [if_pos h]
 have hι2 : ∀ b, nw b = false → cx2.ι b = cx.ι b := fun b h => by show (if nw b = true then _ else _) = _; rw [if_neg (by rw [h]; simp)]
 have hnew : ∀ b g q, nw b = true → cx2.ι b = some (g, q) → gs2 b.2 = some g := by
  intro b g q h1 h2
  rw [hι1 b h1] at h2
  exact (ιOf_in h2).1
 -- an old block that stays is not touched
 have hstay : ∀ x gx qx, st.h x ≠ none → x ≠ b → x ∉ dl → cx.ι x = some (gx, qx) → w'.heap[gx]? = w.heap[gx]? := by
  intro x gx qx h1 h2 h3 h4
  refine hkept gx (hr.own x gx qx h1 h4).1 (hr.inj x b gx qx g q h1 hbl h4 hι h2) (fun y hy q' hq => ?_)
  exact hr.inj x y gx qx gx q' h1 (hdll y hy) h4 hq (fun e => h3 (e ▸ hy)) rfl
 have hown2 : ∀ k x u, L[k]? = some x → (us ++ us2)[k]? = some u → RC cx2 w' st'.h (adC d k x) u := by
  intro k x u hk hu
  obtain ⟨u', hu', h1, h2⟩ := hua k x hk
  rw [hu] at hu'
  cases hu'
  rw [Nat.zero_add] at h2
  cases x with
  | p p => exact h2
  | own e rows =>
   have hn := hnw2 k e rows hk
   exact P9 (cx := cx2) h2 (hh2 k e rows hk) (by rw [hι1 _ hn]; simp [hu])
 refine ⟨cx2, hr.step (ef := ⟨IG d r, Q5z st d b r out dl fz⟩) hd ((AX d 0 L).map (·.1)) (fun x hx => ?_) hA2 (fun x hx => ?_) hkeep (fun x hx hM => ?_) hos htp hou (fun x hx => ?_) (fun x bk hx => ?_) (fun x x' gx qx gx' qx' hx hx' hi hi' hne => ?_) (fun x gx qx hx hi => ?_) ?_ ?_⟩
 ·obtain ⟨y, hy⟩ := HE hx
  rw [WB] at hy
  split at hy
  ·rename_i h1
   rw [Nat.sub_zero] at hy
   cases hz : L[x.2]? with
   | none => rw [hz] at hy; cases hy
   | some z =>
    rw [hz] at hy
    cases z with
    | p p => cases hy
    | own e rows =>
     have := hfresh x.2 e rows hz
     obtain ⟨b1, b2⟩ := x
     simp only at h1
     rw [← h1.1] at this
     exact this
  ·cases hy
 ·rcases hA2' x hx with h | h | ⟨y, hy, hyl, q, hq⟩
  ·exact .inl h
  ·exact .inr ⟨h.2, .inl (Nat.le_trans hr.sz h.1)⟩
  ·obtain ⟨h1, h2⟩ := hr.own y x q hyl hq
   exact .inr ⟨Nat.lt_of_lt_of_le h1 hsz, h2⟩
 ·refine hkept x (Nat.lt_of_lt_of_le hx hr.sz) (fun e => ?_) (fun y hy q' hq => ?_)
  ·subst e
   rcases (hr.own b x q hbl hι).2 with h | h
   ·omega
   ·exact hM h
  ·rcases (hr.own y x q' (hdll y hy) hq).2 with h | h
   ·omega
   ·exact hM h
 ·have hb' : nw x = false := by
   cases h : nw x with
   | false => rfl
   | true =>
    obtain ⟨n, e, rows, rfl, h1⟩ := hnw x h
    exfalso
    refine hx ?_
    have := WB d L 0 (d, n)
    rw [if_pos ⟨rfl, Nat.zero_le _⟩, Nat.sub_zero, h1] at this
    exact List.mem_map.2 ⟨_, YH this, rfl⟩
  intro bk' hbk
  by_cases h1 : x = b
  ·subst h1
   rw [hhb] at hbk
   cases hbk
   refine ⟨_, hb, rfl, Nat.le_refl _, hι2 x hb', fun gx qx c el fz' h4 h5 => ?_⟩
   rw [hι] at h4
   cases h4
   exact ⟨_, _, _, hcc, fun h => by simp [Bk.e] at h⟩
  ·obtain ⟨hl1, hl2⟩ := hold x hb' (by rw [show (Ef.ap ⟨IG d r, Q5z st d b r out dl fz⟩ o st).h x = some bk' from hbk]; simp)
   have hbk2 : st'.h x = some bk' := hbk
   rw [hh1 x hb', if_neg h1, if_neg hl2] at hbk2
   have hex : ∃ bk, st.h x = some bk ∧ bk.e = bk'.e ∧ bk.len ≤ bk'.len := by
    split at hbk2
    ·rename_i hf
     obtain ⟨⟨e, rows, mu, h1⟩, _⟩ := hfz x hf
     rw [h1] at hbk2 ⊢
     cases hbk2
     exact ⟨_, rfl, rfl, Nat.le_refl _⟩
    ·exact ⟨bk', hbk2, rfl, Nat.le_refl _⟩
   obtain ⟨bk, h3, h4, h5⟩ := hex
   refine ⟨bk, h3, h4, h5, hι2 x hb', fun gx qx c el fz' h6 h7 => ⟨c, el, fz', ?_, fun _ => rfl⟩⟩
   rw [hstay x gx qx hl1 h1 hl2 h6]; exact h7
 ·have hx0 : st'.h x = some bk := hx
  cases hb' : nw x with
  | true =>
   obtain ⟨n, e, rows, rfl, h1⟩ := hnw x hb'
   rw [hh2 n e rows h1] at hx0
   cases hx0
   obtain ⟨u, hu, h2, h3⟩ := hua n _ h1
   refine .inr (Pb (cx := cx2) (go := gs2 n) (u := u) ?_ ?_)
   ·rw [Nat.zero_add] at h3; exact h3
   ·rw [hι1 _ hb']; simp [hu]
  | false =>
   by_cases h1 : x = b
   ·subst h1
    rw [hhb] at hx0
    cases hx0
    refine .inr ⟨g, q, cc, cel, by rw [hι2 x hb', hι], hcc, hnA, by rw [PC]; exact hccs, fun k y hk => ?_, trivial⟩
    rw [Q18, Option.map_eq_some_iff] at hk
    obtain ⟨z, hz, rfl⟩ := hk
    have hLk : L[(QP r).length + k]? = some z := by
     rw [← hL, List.getElem?_append_right (by omega)]
     rw [show (QP r).length + k - (QP r).length = k by omega]; exact hz
    obtain ⟨u, hu, h2, h3⟩ := hua _ z hLk
    have hu2 : cc[q + k]? = some u := by
     have hu3 := hu
     rw [List.getElem?_append_right (by omega), hul1, show (QP r).length + k - (QP r).length = k by omega, hus2, List.getElem?_take] at hu3
     split at hu3
     ·rw [List.getElem?_drop, Array.getElem?_toList] at hu3; exact hu3
     ·cases hu3
    exact ⟨u, hu2, h2, hown2 _ z u hLk hu⟩
   ·obtain ⟨hl1, hl2⟩ := hold x hb' (by rw [hx0]; simp)
    have hx1 := hx0
    rw [hh1 x hb', if_neg h1, if_neg hl2] at hx1
    split at hx1
    ·rename_i hf
     obtain ⟨⟨e, rows, mu, h3⟩, h4⟩ := hfz x hf
     rw [h3] at hx1
     cases hx1
     right
     obtain ⟨h5, h6, h7⟩ := hr.bl x _ h3
     refine ⟨h5, h6, ?_⟩
     rw [hι2 x hb']
     revert h7
     cases hi : cx.ι x with
     | none => exact id
     | some y =>
      obtain ⟨gx, qx⟩ := y
      rintro ⟨rfl, c, el, fz', capR, h8, h9, h10, h11, h12, h13, h14⟩
      exact ⟨rfl, c, el, fz', capR, by rw [hstay x gx 0 hl1 h1 hl2 hi]; exact h8, (fun h => by cases h), fun _ => h4 gx 0 hi, h11, h12, h13, fun i r k p hi hk => let ⟨cv, hcv, hp⟩ := h14 i r k p hi hk; ⟨cv, hcv, hp.keeps hA2 hkeep⟩⟩
    ·rename_i hf
     refine .inl ⟨?_, hx1, hι2 x hb', fun gx qx hi => ?_⟩
     ·intro hm
      obtain ⟨y, hy⟩ := HE hm
      rw [WB] at hy
      split at hy
      ·rename_i h1
       rw [Nat.sub_zero] at hy
       simp only [nw] at hb'
       rw [if_pos h1.1] at hb'
       revert hb' hy
       generalize L[x.2]? = z
       intro hb' hy
       match z, hb', hy with
       | none, _, hy => cases hy
       | some (.p _), _, hy => cases hy
       | some (.own _ _), hb', _ => cases hb'
      ·cases hy
     ·refine ⟨hstay x gx qx hl1 h1 hl2 hi, fun hnA hA => ?_⟩
      rcases hA2' gx hA with h | h | ⟨y, hy, hyl, q2, hq2⟩
      ·exact hnA h
      ·have := (hr.own x gx qx hl1 hi).1
       omega
      ·refine hr.inj x y gx qx gx q2 hl1 hyl hi hq2 ?_ rfl
       rintro rfl
       rcases List.mem_append.1 hy with hy | hy
       ·exact hf hy
       ·exact hl2 hy
 ·have hmix : ∀ x x' gx qx gx' qx', nw x = true → nw x' = false → st'.h x' ≠ none → cx2.ι x = some (gx, qx) → cx2.ι x' = some (gx', qx') → gx ≠ gx' := by
   intro x x' gx qx gx' qx' h1 h2 h3 h4 h5 e
   subst e
   obtain ⟨h6, h7, h8⟩ := hgs _ _ (hnew x gx qx h1 h4)
   obtain ⟨hl1, hl2⟩ := hold x' h2 h3
   rw [hι2 x' h2] at h5
   rcases h8 with h8 | ⟨y, hy, q', hq⟩
   ·have := (hr.own x' gx qx' hl1 h5).1
    omega
   ·refine hr.inj x' y gx qx' gx q' hl1 (hdll y hy) h5 hq ?_ rfl
    rintro rfl
    exact hl2 hy
  cases h1 : nw x <;> cases h2 : nw x'
  ·rw [hι2 x h1] at hi
   rw [hι2 x' h2] at hi'
   exact hr.inj x x' gx qx gx' qx' (hold x h1 hx).1 (hold x' h2 hx').1 hi hi' hne
  ·exact fun e => hmix x' x gx' qx' gx qx h2 h1 hx hi' hi e.symm
  ·exact hmix x x' gx qx gx' qx' h1 h2 hx' hi hi'
  ·have e1 := hnew x gx qx h1 hi
   have e2 := hnew x' gx' qx' h2 hi'
   obtain ⟨n, e, rows, rfl, _⟩ := hnw x h1
   obtain ⟨n', e', rows', rfl, _⟩ := hnw x' h2
   rintro rfl
   have := hinj n n' gx e1 e2
   exact hne (by rw [this])
 ·cases h1 : nw x with
  | true =>
   obtain ⟨h5, h6, h7⟩ := hgs _ _ (hnew x gx qx h1 hi)
   refine ⟨h5, ?_⟩
   rcases h7 with h7 | ⟨y, hy, q', hq⟩
   ·exact .inl (Nat.le_trans hr.sz h7)
   ·exact (hr.own y gx q' (hdll y hy) hq).2
  | false =>
   rw [hι2 x h1] at hi
   obtain ⟨h3, h4⟩ := hr.own x gx qx (hold x h1 hx).1 hi
   exact ⟨Nat.lt_of_lt_of_le h3 hsz, h4⟩
 ·refine hrt cx2 _ (fun k x u hk hu => ?_)
  have hkl := (List.getElem?_eq_some_iff.1 hk).1
  exact hown2 k x u (by rw [← hL, List.getElem?_append_left hkl]; exact hk) (by rw [List.getElem?_append_left (by omega)]; exact hu)
 ·intro b hb
  refine hι2 b ?_
  cases h : nw b with
  | false => rfl
  | true =>
   obtain ⟨n, e, rows, h1, _⟩ := hnw b h
   have := hr.hN
   rcases hb with hb | hb
   ·rw [hb] at h1
    simp only [K5, Prod.mk.injEq] at h1
    omega
   ·rw [h1] at hb
    simp only at hb
    omega
theorem Qa1 {st' : St} {cs : List CV} {xs : List RV} {os : List (Option Qw)} {bs : List Qw} (h : AQ st cs xs os bs) (hb : ∀ b ∈ os.filterMap id ++ bs, st'.h b = st.h b) : AQ st' cs xs os bs := by
 induction h with
 | nil => exact .nil
 | @cons c x o b cs xs os bs h hs ih =>
  refine .cons ?_ (ih fun x hx => hb x ?_)
  ·cases h with
   | p x => exact .p x
   | nil e => exact .nil e
   | nilo e he => exact .nilo e he
   | own h1 h2 => exact .own (by rw [hb _ (by simp)]; exact h1) h2
   | fr h1 h2 => exact .fr (by rw [hb _ (by simp)]; exact h1) h2
  ·cases o with
   | none => simp only [List.mem_append] at hx ⊢; rcases hx with hx | hx; exact .inl hx; exact .inr (.inr hx)
   | some o => simp only [List.filterMap_cons, id, List.mem_append, List.mem_cons] at hx ⊢; rcases hx with hx | hx; exact .inl (.inr hx); exact .inr (.inr hx)
theorem Qzi {os : List (Option Qw)} {b : Qw} (h : b ∈ os.filterMap id) : some b ∈ os := by
 obtain ⟨y, h1, h2⟩ := List.mem_filterMap.1 h
 rw [show y = some b from h2] at h1
 exact h1
theorem Qf1 {f : FuncId} {xs : Array Operand} {x0 : Operand} {xr : List Operand} {tys : Array TypeId} {avs : List AV} {r : List RS} {out rvs : List RV} {b : Qw} {cs : List CV} {os : List (Option Qw)} {bs1 bs2 ids : List Qw} {bl : List (Qw × Option Bk)} {t : TV}
  (hcon : Va P f (.ref rvs :: avs) r out) (hn : avs.any AV.isRef = false := by exact rfl) (hxs : xs.toList = x0 :: xr := by exact rfl) (hok : xs.toList.all Zf = true := by exact rfl) (h0 : st.ev x0 = .c (.ptr b 0 0) := by exact rfl) (hb : st.h b = some (.box cs) := by exact rfl) (hcs : AQ st cs rvs os bs1) (hargs : MA st (xr.map st.ev) avs bs2)
  (hnod : Ll os = true := by exact rfl) (hdis : Dh (os.filterMap id) (bs1 ++ bs2) = true := by exact rfl) (hids : (AX d 0 (QP r ++ out)).map (·.1) = ids := by exact rfl) (hbl : Q5z st d b r out (os.filterMap id) (bs1 ++ bs2) = bl := by exact rfl) (ht : IG d r = t := by exact rfl) :
  ZC E N P ops ⟨some d, .call { callee := .value (.func f), args := xs, argTypes := tys }, ty, pos, af, gd⟩ st ⟨b :: (os.filterMap id ++ (bs1 ++ bs2)), ids⟩ ⟨t, bl⟩ := by
 subst hids
 subst hbl
 subst ht
 intro st' ha hf hd cx a w Q hr
 have hbe : ∀ x ∈ os.filterMap id ++ (bs1 ++ bs2), st'.h x = st.h x := fun x hx => ha.2 x (List.mem_cons_of_mem _ hx)
 have hb' : st'.h b = some (.box cs) := by rw [ha.2 b List.mem_cons_self]; exact hb
 have hcs' : AQ st' cs rvs os bs1 := Qa1 hcs fun x hx => hbe x (by
  rcases List.mem_append.1 hx with h | h
  ·exact List.mem_append_left _ h
  ·exact List.mem_append_right _ (List.mem_append_left _ h))
 have hargs' := Ln hargs (st' := st') fun x hx => hbe x (List.mem_append_right _ (List.mem_append_right _ hx))
 have hCs : ∀ {cs xs os bs}, AQ st' cs xs os bs → ∀ b ∈ bs, ∃ e rows mu, st'.h b = some (.row e rows mu) := by
  intro cs xs os bs h
  induction h with
  | nil => simp
  | cons h hs ih =>
   intro b hb
   rcases List.mem_append.1 hb with hb | hb
   ·exact AY h b hb
   ·exact ih b hb
 have hlive : ∀ x ∈ bs1 ++ bs2, ∃ e rows mu, st'.h x = some (.row e rows mu) := fun x hx => by
  rcases List.mem_append.1 hx with h | h
  ·exact hCs hcs' x h
  ·exact Nq hargs' x h
 have hdl : ∀ x ∈ os.filterMap id, ∃ e rows, st'.h x = some (.row e rows true) := fun x hx => (Lo hcs').2 x (Qzi hx)
 have hdis' := VL hdis
 have hnod' := DK hnod
 have hbn : ∀ x ∈ bs1 ++ bs2, st'.h x ≠ none := fun x hx => by obtain ⟨_, _, _, h⟩ := hlive x hx; rw [h]; simp
 have hdn : ∀ x ∈ os.filterMap id, st'.h x ≠ none := fun x hx => by obtain ⟨_, _, h⟩ := hdl x hx; rw [h]; simp
 have hbne : st'.h b ≠ none := by rw [hb']; simp
 obtain ⟨g, q, c, el, hι, hgc, hgA, hgl, hgat, -⟩ := hr.bl b _ hb'
 let A2 : Nat → Prop := fun x => cx.A x ∨ ∃ y ∈ bs1 ++ bs2, st'.h y ≠ none ∧ ∃ q, cx.ι y = some (x, q)
 let gs : Nat → Option Nat := fun n => CF cx ((os[n]?).getD none)
 have hgs : ∀ n x, gs n = some x → ∃ y q, os[n]? = some (some y) ∧ cx.ι y = some (x, q) := by
  intro n x hx
  simp only [gs] at hx
  cases ho : os[n]? with
  | none => rw [ho] at hx; cases hx
  | some o =>
   rw [ho] at hx
   cases o with
   | none => cases hx
   | some y =>
    simp only [CF, Option.getD_some, Option.bind_some, Option.map_eq_some_iff] at hx
    obtain ⟨⟨x', q⟩, h8, rfl⟩ := hx
    exact ⟨y, q, rfl, h8⟩
 have hod : ∀ {n : Nat} {y : Qw}, os[n]? = some (some y) → y ∈ os.filterMap id := fun h => List.mem_filterMap.2 ⟨some _, List.mem_of_getElem? h, rfl⟩
 have hmut : ∀ y, y ∈ os.filterMap id → ∀ g q, cx.ι y = some (g, q) → ¬ A2 g := by
  intro y hy g q hg
  obtain ⟨e1, rows, hbk⟩ := hdl y hy
  obtain ⟨_, _, h8⟩ := hr.bl y _ hbk
  rw [hg] at h8
  obtain ⟨_, c, el, fz, capR, _, h9, _⟩ := h8
  rintro (h | ⟨z, hz, hzl, q2, hq2⟩)
  ·exact (h9 rfl).2 h
  ·refine hr.inj y z g q g q2 (hdn y hy) hzl hg hq2 ?_ rfl
   rintro rfl
   exact hdis' y hy hz
 have hnbx : ∀ y e rows mu, st'.h y = some (.row e rows mu) → y ≠ b := fun y e rows mu h e' => by subst e'; rw [hb'] at h; cases h
 have hgA2 : ¬ A2 g := by
  rintro (h | ⟨z, hz, hzl, q2, hq2⟩)
  ·exact hgA h
  ·obtain ⟨_, _, _, h⟩ := hlive z hz
   exact hr.inj z b g q2 g q hzl hbne hq2 hι (hnbx z _ _ _ h) rfl
 have hcl := My hcs'
 have hAsz : ∀ x, A2 x → x < w.heap.size := by
  rintro x (h | ⟨y, hy, hyl, q, hq⟩)
  ·exact (hr.A x h).1
  ·exact (hr.own y x q hyl hq).1
 have hev : ∀ x ∈ xs.toList, RT cx w st'.h (st.ev x) (a.eval x) := by
  intro x hx
  rw [← JK ha (x := x) (by simp only [Op.operands, Call.operands]; simp at hx ⊢; exact .inr hx)]
  exact hr.ev (List.all_eq_true.1 hok x hx)
 have hAs : AsR w A2 gs g q (.ref rvs :: avs) (xs.map a.eval).toList := by
  rw [Array.toList_map, hxs, List.map_cons]
  refine ⟨⟨?_, c, el, hgc, hgA2, by rw [← hcl.1]; exact hgl, ?_⟩, ?_⟩
  ·have h1 := hev x0 (by rw [hxs]; exact List.mem_cons_self)
   rw [h0] at h1
   obtain ⟨g', o', h2, h3⟩ := h1.2 _ hb'
   rw [hι] at h2
   cases h2
   rw [h3]
   simp
  ·refine DR hr (fun x hx => .inl hx) hcs' (n := 0) (fun y hy g q hg => .inr ⟨y, List.mem_append_left _ hy, hbn y (List.mem_append_left _ hy), q, hg⟩) (fun y hy g q hg => hmut y (List.mem_filterMap.2 ⟨_, hy, rfl⟩) g q hg) (fun k o hk => by simp only [gs, Nat.zero_add, hk]; rfl) ?_ (fun i x hi => ?_)
   ·simp only [List.length_take, List.length_drop, Array.length_toList]; omega
   ·obtain ⟨cv, h13, h14, h15⟩ := hgat i x hi
    have hil := (List.getElem?_eq_some_iff.1 hi).1
    exact ⟨cv, by rw [List.getElem?_take, if_pos (by omega), List.getElem?_drop, Array.getElem?_toList]; exact h13, h14, h15⟩
  ·refine PE hr (fun x hx => .inl hx) hargs' (fun y hy g q hg => .inr ⟨y, List.mem_append_right _ hy, hbn y (List.mem_append_right _ hy), q, hg⟩) (by simp) (fun i t hi => ?_)
   rw [List.getElem?_map, Option.map_eq_some_iff] at hi
   obtain ⟨x, hx, rfl⟩ := hi
   exact ⟨a.eval x, by rw [List.getElem?_map, hx]; rfl, hev x (by rw [hxs]; exact List.mem_cons_of_mem _ (List.mem_of_getElem? hx))⟩
 unfold Oper.wp
 rw [HK hcon.ent, Oper.upon_enter]
 have hrf : (AV.ref rvs :: avs).any AV.isRef = true := rfl
 refine (hcon.run A2 gs g q w (xs.map a.eval) hAsz ?_ ?_ (fun h => by rw [hrf] at h; cases h) hAs).mono ?_
 ·intro n m x hx hy
  obtain ⟨b1, q1, h1, h2⟩ := hgs n x hx
  obtain ⟨b2, q2, h3, h4⟩ := hgs m x hy
  by_cases hbb : b1 = b2
  ·subst hbb; exact hnod' n m b1 h1 h3
  ·exact absurd rfl (hr.inj b1 b2 x q1 x q2 (hdn _ (hod h1)) (hdn _ (hod h3)) h2 h4 hbb)
 ·intro n x hx
  obtain ⟨y, q1, h1, h2⟩ := hgs n x hx
  obtain ⟨_, _, h3⟩ := hdl y (hod h1)
  exact ⟨(hr.own y x q1 (hdn _ (hod h1)) h2).1, hr.inj y b x q1 g q (hdn _ (hod h1)) hbne h2 hι (hnbx y _ _ _ h3)⟩
 rintro e w' ⟨v, A', gs', rfl, h1, h2, h3, h4, h5, h6, h7, h8, h9, h10, h11⟩
 obtain ⟨h12, c', el', h13, h14, h15⟩ := h11 hrf
 obtain ⟨us, hus, hrt⟩ := HJ (d := d) h10
 show ∃ cx', _
 have hfl : Q5z st d b r out (os.filterMap id) (bs1 ++ bs2) = Q5z st' d b r out (os.filterMap id) (bs1 ++ bs2) := by
  unfold Q5z
  rw [show YJ st (bs1 ++ bs2) = YJ st' (bs1 ++ bs2) from List.map_congr_left fun x hx => by rw [hbe x (List.mem_append_right _ hx)]]
 rw [hfl]
 refine Qa0 hr hd (hd d rfl) (fz := bs1 ++ bs2) (dl := os.filterMap id) (gs2 := gs') (us := us) (A2 := A') hb' hι (fun n e rows hx => hf (d, n) ?_) (fun x hx => h1 x (.inl hx)) (fun x hx => ?_) (fun y hy => ⟨hlive y hy, fun g q hg => h1 g (.inr ⟨y, hy, hbn y hy, q, hg⟩)⟩) hdis' hdl h3 h5.2
  (fun x hx hxg hxd => h4 x hx hxg (fun n h => ?_)) h5.1 h6 h7 h8 (fun n x hx => ?_) hus ⟨h12, c', el', h13, h14, rfl⟩ h15 hrt
 ·have := WB d (QP r ++ out) 0 (d, n)
  rw [if_pos ⟨rfl, Nat.zero_le _⟩, Nat.sub_zero, hx] at this
  exact List.mem_map.2 ⟨_, YH this, rfl⟩
 ·rcases h2 x hx with (h | ⟨y, hy, hyl, q, hq⟩) | ⟨h, h' | ⟨n, h'⟩⟩
  ·exact .inl h
  ·exact .inr (.inr ⟨y, List.mem_append_left _ hy, hyl, q, hq⟩)
  ·exact .inr (.inl ⟨h', h⟩)
  ·obtain ⟨y, q', h16, h17⟩ := hgs n x h'
   exact .inr (.inr ⟨y, List.mem_append_right _ (hod h16), hdn _ (hod h16), q', h17⟩)
 ·obtain ⟨y, q', h16, h17⟩ := hgs n x h
  exact hxd y (hod h16) q' h17
 ·obtain ⟨h16, h17, h18 | ⟨m, h18⟩⟩ := h9 n x hx
  ·exact ⟨h16, h17 hrf, .inl h18⟩
  ·obtain ⟨y, q', h19, h20⟩ := hgs m x h18
   exact ⟨h16, h17 hrf, .inr ⟨y, hod h19, q', h20⟩⟩
end
section
variable {E : En} {N : Nat} {P : Program} {st : St} {ops : Array Oper} {d : Nat} {ty : Nat} {pos : String} {af : Array Edge} {gd : Option (Nat × Bool)}
end
section
variable {w w' : World} {P : Program} {A : Nat → Prop} {gs : Nat → Option Nat} {g q : Nat}
end
section
variable {E : En} {N : Nat} {P : Program} {T : Tb P} {st : St} {ops : Array Oper} {d : Nat} {ty : Nat} {pos : String} {af : Array Edge} {gd : Option (Nat × Bool)}
theorem Qj2 [T : Tb P] {x y : Operand} {t : TypeId} {te : TE} {b : Qw} {k : Nat} {all all' : List CV} {fm : Option Frm} {v : CV} {dst : Option Nat} (hx : st.ev x = .c (.ptr b 0 k) := by exact rfl) (hb : st.h b = some (.box all fm) := by exact rfl) (hv : st.ev y = .c v := by exact rfl) (hk : TV.known (.c v) = true := by exact rfl) (ht : Zn T.ty t = some te := by exact rfl) (hsz : 1 = te.size := by exact rfl) (hin : Nat.ble (k + 1) all.length = true := by exact rfl)
  (hall : setAt all k [v] = all' := by exact rfl) (hcx : Zf x = true := by exact rfl) (hcy : Zf y = true := by exact rfl) : ZC E N P ops ⟨dst, .store t x y, ty, pos, af, gd⟩ st ⟨[b], []⟩ ⟨.c .any, [(b, some (.box all' fm))]⟩ := On hx hb hv hk ht hsz (Nat.le_of_ble_eq_true hin) hall hcx hcy
theorem Q60 [T : Tb P] {x y : Operand} {t : TypeId} {te : TE} {b : Qw} {k : Nat} {all all' cs : List CV} {fm : Option Frm} {dst : Option Nat} (hx : st.ev x = .c (.ptr b 0 k) := by exact rfl) (hb : st.h b = some (.box all fm) := by exact rfl) (hv : st.ev y = .agg cs := by exact rfl) (ht : Zn T.ty t = some te := by exact rfl) (hsz : cs.length = te.size := by exact rfl) (hin : Nat.ble (k + cs.length) all.length = true := by exact rfl)
  (hall : setAt all k cs = all' := by exact rfl) (hcx : Zf x = true := by exact rfl) (hcy : Zf y = true := by exact rfl) : ZC E N P ops ⟨dst, .store t x y, ty, pos, af, gd⟩ st ⟨[b], []⟩ ⟨.c .any, [(b, some (.box all' fm))]⟩ := Oo hx hb hv ht hsz (Nat.le_of_ble_eq_true hin) hall hcx hcy
end
def La (pl : Nat → Option (Nat × Nat)) : List CV → List (Nat × TV) → Option (List CV)
 | cs, [] => some cs
 | cs, (i, t) :: r => match pl i with
  | none => none
  | some (off, size) => match Nat.beq t.cells.length size && Nat.ble (off + t.cells.length) cs.length && t.known with
   | true => La pl (setAt cs off t.cells) r
   | false => none
def Qa2 (tb : List (Nat × TE)) : List (Nat × Nat) → Option (List (Nat × Nat))
 | [] => some []
 | (o, t) :: r => match Zn tb t with
  | none => none
  | some te => match Qa2 tb r with
   | none => none
   | some l => some ((o, te.size) :: l)
section
variable {E : En} {N : Nat} {P : Program} {T : Tb P} {ops : Array Oper} {o : Oper} {st : St} {d : Nat} {ty : Nat} {pos : String} {af : Array Edge} {gd : Option (Nat × Bool)} {cx : Cx} {a : Act} {w w' : World}
theorem Qcx : ∀ {fs : List (Nat × Nat)} {pl : List (Nat × Nat)} (F : List Field), Qa2 T.ty fs = some pl → F.map (fun f => (f.offset, f.type)) = fs → F.mapM (fun f => (P.info? f.type).map fun i => (f.offset, i.size)) = some pl
 | [], pl, F, h, hF => by
  have : F = [] := by simpa using hF
  subst this
  simp only [Qa2, Option.some.injEq] at h
  subst h; rfl
 | (o, t) :: fs, pl, F, h, hF => by
  cases F with
  | nil => simp at hF
  | cons f F =>
   simp only [List.map_cons, List.cons.injEq, Prod.mk.injEq] at hF
   obtain ⟨⟨rfl, rfl⟩, hF⟩ := hF
   simp only [Qa2] at h
   cases ht : Zn T.ty f.type with
   | none => rw [ht] at h; cases h
   | some te =>
    rw [ht] at h
    simp only at h
    cases hp : Qa2 T.ty fs with
    | none => rw [hp] at h; cases h
    | some l =>
     rw [hp] at h
     cases h
     have ih := Qcx F hp hF
     obtain ⟨dd, i, h1, h2, h3, h4, h5, h6⟩ := YI (T.ok _ _ ht)
     simp only [List.mapM_cons, ih, h2, Option.map_some, h4]
     rfl
theorem MB {h : Qw → Option Bk} {pl : Nat → Option (Nat × Nat)} : ∀ {ps : List (Nat × TV)} {vs : List (Nat × Value)} {cs cs' : List CV} {cells : Array Value}, La pl cs ps = some cs' → RL cx w h cs cells → vs.length = ps.length →
  (∀ (k i : Nat) (t : TV), ps[k]? = some (i, t) → ∃ v, vs[k]? = some (i, v) ∧ RT cx w h t v) → ∃ cells', Instr.fill pl cells vs = some cells' ∧ RL cx w h cs' cells' := by
 intro ps
 induction ps with
 | nil =>
  intro vs cs cs' cells h1 h2 h3 h4
  have : vs = [] := List.eq_nil_of_length_eq_zero (by simpa using h3)
  subst this
  cases h1
  exact ⟨cells, rfl, h2⟩
 | cons p ps ih =>
  intro vs cs cs' cells h1 h2 h3 h4
  obtain ⟨i, t⟩ := p
  obtain ⟨v, hv, hrt⟩ := h4 0 i t rfl
  cases vs with
  | nil => simp at h3
  | cons v0 vs =>
   rw [List.getElem?_cons_zero] at hv
   cases hv
   simp only [La] at h1
   cases hp : pl i with
   | none => rw [hp] at h1; cases h1
   | some y =>
    obtain ⟨off, size⟩ := y
    rw [hp] at h1
    simp only at h1
    split at h1
    case h_2 => cases h1
    rename_i hc
    simp only [Bool.and_eq_true] at hc
    obtain ⟨⟨hc1, hc2⟩, hc3⟩ := hc
    have hc1 := Nat.eq_of_beq_eq_true hc1
    have hc2 := Nat.le_of_ble_eq_true hc2
    have hrl := FW hc3 hrt
    have hsz : v.cells.size = t.cells.length := hrl.1
    obtain ⟨g1, g2⟩ := Great.foldl_set off v.cells.toList 0 cells
    have hstep : RL cx w h (setAt cs off t.cells) ((v.cells.toList.zipIdx 0).foldl (fun cs (x : Value × Nat) => cs.setIfInBounds (off + x.2) x.1) cells) := by
     refine ⟨by rw [g1, FX _ _ _ hc2]; exact h2.1, fun k c hk => ?_⟩
     rw [CE _ _ _ hc2] at hk
     rw [g2 k, Nat.add_zero, Array.length_toList, hsz]
     have hcsz := h2.1
     by_cases hkk : k < off ∨ off + t.cells.length ≤ k
     ·rw [if_pos hkk] at hk
      rw [if_neg (by omega)]
      exact h2.2 k c hk
     ·rw [if_neg hkk] at hk
      rw [if_pos (by omega), Array.getElem?_toList]
      exact hrl.2 _ c hk
    obtain ⟨cells', h5, h6⟩ := ih h1 hstep (by simpa using h3) (fun k i t hk => h4 (k + 1) i t (by simpa using hk))
    refine ⟨cells', ?_, h6⟩
    unfold Instr.fill
    simp only [hp]
    rw [if_neg (by simp [hsz, hc1]; have := h2.1; omega)]
    rw [← h5]
    congr 1
    rw [← Array.foldl_toList, Array.toList_zipIdx]
theorem IA {rb : List Qw} {parts : Array (Nat × Operand)} {st' : St} (hr : Xx E N cx st' a w) (ha : Agree ops o ⟨rb, []⟩ st st') (hm : ∀ x ∈ parts.toList, x.2 ∈ o.op.operands.toList) (hok : parts.toList.all (fun x => Zf x.2) = true) :
  ∀ (k i : Nat) (t : TV), (parts.toList.map fun x => (x.1, st.ev x.2))[k]? = some (i, t) → ∃ v, (parts.map fun (i, x) => (i, a.eval x)).toList[k]? = some (i, v) ∧ RT cx w st'.h t v := by
 intro k i t hk
 rw [List.getElem?_map, Option.map_eq_some_iff] at hk
 obtain ⟨⟨j, x⟩, hx, hxe⟩ := hk
 simp only [Prod.mk.injEq] at hxe
 obtain ⟨rfl, rfl⟩ := hxe
 have hmem := List.mem_of_getElem? hx
 refine ⟨a.eval x, by rw [Array.toList_map, List.getElem?_map, hx]; rfl, ?_⟩
 have h1 := hr.ev (x := x) (List.all_eq_true.1 hok _ hmem)
 rw [JK ha (hm _ hmem)] at h1
 exact h1
theorem PF {h : Qw → Option Bk} {zs : List Value} {z : Value} (hz : z.cells.toList = zs) (hat : zs.all Jm = true) : RL cx w h (zs.map fun v => .p (.v v)) z.cells := by
 subst hz
 refine ⟨by simp, fun i c hi => ?_⟩
 rw [List.getElem?_map, Option.map_eq_some_iff] at hi
 obtain ⟨v, hv, rfl⟩ := hi
 have hat' := List.all_eq_true.1 hat v (List.mem_of_getElem? hv)
 exact ⟨v, by simpa using hv, V3 hat', .v v hat'⟩
theorem HM [T : Tb P] {parts : Array (Nat × Operand)} {t : Nat} {tt : TE} {fs pl : List (Nat × Nat)} {zs : List Value} {cs : List CV} (ht : Zn T.ty t = some tt := by exact rfl) (hk : tt.kd = .struct fs := by exact rfl) (hpl : Qa2 T.ty fs = some pl := by exact rfl) (hz : tt.zero.cells.toList = zs := by exact rfl) (hat : zs.all Jm = true := by exact rfl)
  (hf : La (fun i => pl[i]?) (zs.map fun v => .p (.v v)) (parts.toList.map fun x => (x.1, st.ev x.2)) = some cs := by exact rfl) (hok : parts.toList.all (fun x => Zf x.2) = true := by exact rfl) :
  ZC E N P ops ⟨some d, .build t parts, ty, pos, af, gd⟩ st ⟨[], []⟩ ⟨.agg cs, []⟩ :=
 Z8 fun st' cx a w ha hr => by
  obtain ⟨F, hu, hF⟩ := Q07 ht hk
  obtain ⟨dd, i, h1, h2, h3, h4, h5, h6⟩ := YI (T.ok _ _ ht)
  have hm : ∀ x ∈ parts.toList, x.2 ∈ (Op.build t parts).operands.toList := fun x hx => by
   simp only [Op.operands, Array.toList_map, List.mem_map]; exact ⟨x, hx, rfl⟩
  obtain ⟨cells', h7, h8⟩ := MB (cx := cx) (w := w) (h := st'.h) hf (PF hz hat) (vs := (parts.map fun (i, x) => (i, a.eval x)).toList) (by simp) (IA hr ha (fun x hx => hm x hx) hok)
  refine ⟨.agg cells', ?_, cells', rfl, h8⟩
  simp only [execOp, Sem.run_bind]
  rw [run_build w t _ cells' (by
   unfold Program.built
   rw [h2, hu]
   simp only [h6, Qcx F.toList hpl hF]
   simpa using h7)]
  rfl
theorem O9 [T : Tb P] {parts : Array (Nat × Operand)} {t n e : Nat} {tt te : TE} {zs : List Value} {cs : List CV} (ht : Zn T.ty t = some tt := by exact rfl) (hk : tt.kd = .array n e := by exact rfl) (hel : Zn T.ty e = some te := by exact rfl) (hz : tt.zero.cells.toList = zs := by exact rfl) (hat : zs.all Jm = true := by exact rfl)
  (hf : La (fun i => some (i * te.size, te.size)) (zs.map fun v => .p (.v v)) (parts.toList.map fun x => (x.1, st.ev x.2)) = some cs := by exact rfl) (hok : parts.toList.all (fun x => Zf x.2) = true := by exact rfl) :
  ZC E N P ops ⟨some d, .build t parts, ty, pos, af, gd⟩ st ⟨[], []⟩ ⟨.agg cs, []⟩ :=
 Z8 fun st' cx a w ha hr => by
  have hu := Q5n ht hk
  obtain ⟨dd, i, h1, h2, h3, h4, h5, h6⟩ := YI (T.ok _ _ ht)
  obtain ⟨dd', i', h1', h2', h3', h4', h5', h6'⟩ := YI (T.ok _ _ hel)
  have hm : ∀ x ∈ parts.toList, x.2 ∈ (Op.build t parts).operands.toList := fun x hx => by
   simp only [Op.operands, Array.toList_map, List.mem_map]; exact ⟨x, hx, rfl⟩
  obtain ⟨cells', h7, h8⟩ := MB (cx := cx) (w := w) (h := st'.h) hf (PF hz hat) (vs := (parts.map fun (i, x) => (i, a.eval x)).toList) (by simp) (IA hr ha (fun x hx => hm x hx) hok)
  refine ⟨.agg cells', ?_, cells', rfl, h8⟩
  simp only [execOp, Sem.run_bind]
  rw [run_build w t _ cells' (by
   unfold Program.built
   rw [h2, hu]
   simp only [h6, h2', h4']
   exact h7)]
  rfl
def pvs : List CV → Option (List PV)
 | [] => some []
 | .p x :: r => match pvs r with
  | some l => some (x :: l)
  | none => none
 | _ => none
def FY (e : Nat) : Nat → List PV → List (List PV)
 | 0, _ => []
 | n + 1, l => l.take e :: FY e n (l.drop e)
theorem Qa3 : ∀ {cs : List CV} {ps : List PV}, pvs cs = some ps → cs = ps.map .p
 | [], ps, h => by simp only [pvs, Option.some.injEq] at h; subst h; rfl
 | .p x :: r, ps, h => by
  simp only [pvs] at h
  split at h
  ·rename_i l hl
   cases h
   rw [Qa3 hl]; rfl
  ·cases h
 | .any :: r, ps, h => by cases h
 | .ptr _ _ _ :: r, ps, h => by cases h
 | .sl _ _ _ :: r, ps, h => by cases h
 | .ep _ _ :: r, ps, h => by cases h
theorem Lq (e : Nat) : ∀ (n : Nat) (l : List PV), l.length = n * e → (FY e n l).length = n ∧ (∀ r ∈ FY e n l, r.length = e) ∧ ∀ (i : Nat) (r : List PV) (k : Nat) (p : PV), (FY e n l)[i]? = some r → r[k]? = some p → l[i * e + k]? = some p
 | 0, l, _ => ⟨rfl, by simp [FY], by simp [FY]⟩
 | n + 1, l, hl => by
  rw [Nat.succ_mul] at hl
  obtain ⟨h1, h2, h3⟩ := Lq e n (l.drop e) (by rw [List.length_drop]; omega)
  refine ⟨by simp [FY, h1], fun r hr => ?_, fun i r k p hi hk => ?_⟩
  ·rcases List.mem_cons.1 hr with rfl | hr
   ·rw [List.length_take]; omega
   ·exact h2 r hr
  ·cases i with
   | zero =>
    simp only [FY, List.getElem?_cons_zero, Option.some.injEq] at hi
    subst hi
    rw [List.getElem?_take] at hk
    split at hk
    ·rw [Nat.zero_mul, Nat.zero_add]; exact hk
    ·cases hk
   | succ i =>
    simp only [FY, List.getElem?_cons_succ] at hi
    have := h3 i r k p hi hk
    rw [List.getElem?_drop] at this
    rw [Nat.succ_mul, show i * e + e + k = e + (i * e + k) by omega]; exact this
theorem Ns {pl : Nat → Option (Nat × Nat)} : ∀ {vs : List (Nat × Value)} {cells cells' : Array Value}, Instr.fill pl cells vs = some cells' → cells'.size = cells.size
 | [], cells, cells', h => by cases h; rfl
 | (i, v) :: vs, cells, cells', h => by
  unfold Instr.fill at h
  split at h
  ·cases h
  ·split at h
   ·cases h
   ·rw [Ns h, ← Array.foldl_toList, Array.toList_zipIdx]
    exact (Great.foldl_set _ _ _ _).1
theorem Ki [T : Tb P] {parts : Array (Nat × Operand)} {t e n sz : Nat} {tt te : TE} {zs : List Value} {cs : List CV} {ps : List PV} {rows : List (List PV)} (ht : Zn T.ty t = some tt := by exact rfl) (hk : tt.kd = .slice e := by exact rfl) (hel : Zn T.ty e = some te := by exact rfl) (hsz : te.size = sz := by exact rfl) (hpos : Nat.blt 0 (n * sz) = true := by exact rfl) (hsm : Nat.ble (n * sz) 16777216 = true := by exact rfl)
  (hz : te.zero.cells.toList = zs := by exact rfl) (hat : zs.all Jm = true := by exact rfl) (hf : La (fun i => some (i * sz, sz)) ((List.range (n * sz)).map fun i => .p (.v (zs.getD (i % zs.length) undef))) (parts.toList.map fun x => (x.1, st.ev x.2)) = some cs := by exact rfl) (hps : pvs cs = some ps := by exact rfl) (hrows : FY sz n ps = rows := by exact rfl)
  (hzl : zs.length = sz := by exact rfl) (hok : parts.toList.all (fun x => Zf x.2) = true := by exact rfl) :
  ZC E N P ops ⟨some d, .buildSlice t n parts, ty, pos, af, gd⟩ st ⟨[], [(d, 0)]⟩ ⟨.c (.sl (d, 0) 0 n), [((d, 0), some (.row sz rows true))]⟩ := by
 intro st' ha hfr hd cx a w Q hr
 have hpos := Nat.le_of_ble_eq_true hpos
 have hsm := Nat.le_of_ble_eq_true hsm
 have hn0 : 0 < n := Nat.pos_of_ne_zero (fun h => by rw [h] at hpos; omega)
 have hsz0 : 0 < sz := Nat.pos_of_ne_zero (fun h => by rw [h] at hpos; omega)
 have hu := KN ht hk
 obtain ⟨dd', i', h1', h2', h3', h4', h5', h6'⟩ := YI (T.ok _ _ hel)
 have hm : ∀ x ∈ parts.toList, x.2 ∈ (Op.buildSlice t n parts).operands.toList := fun x hx => by
  simp only [Op.operands, Array.toList_map, List.mem_map]; exact ⟨x, hx, rfl⟩
 have hz0 : RL cx w st'.h ((List.range (n * sz)).map fun i => .p (.v (zs.getD (i % zs.length) undef))) ((Array.range (n * te.size)).map (te.zero.cells[· % te.zero.cells.size]!)) := by
  have hzs : te.zero.cells.size = sz := by rw [← hzl, ← hz]; simp
  refine ⟨by simp [hsz], fun i c hi => ?_⟩
  rw [List.getElem?_map, Option.map_eq_some_iff] at hi
  obtain ⟨j, hj, rfl⟩ := hi
  have hil : i < n * sz := by simpa using (List.getElem?_eq_some_iff.1 hj).1
  rw [List.getElem?_range hil] at hj
  cases hj
  have hmod : i % sz < sz := Nat.mod_lt _ hsz0
  have hat' : Jm (zs.getD (i % zs.length) undef) = true := by
   rw [hzl, List.getD_eq_getElem?_getD, List.getElem?_eq_getElem (by omega)]
   exact List.all_eq_true.1 hat _ (List.getElem_mem _)
  refine ⟨zs.getD (i % zs.length) undef, ?_, V3 hat', .v _ hat'⟩
  rw [Array.getElem?_map, Array.getElem?_range, hsz, if_pos hil, Option.map_some, hzs, hzl]
  congr 1
  have hbd : i % sz < te.zero.cells.size := by rw [hzs]; exact hmod
  have hg : zs[i % sz]? = some (te.zero.cells[i % sz]'hbd) := by rw [← hz, Array.getElem?_toList, Array.getElem?_eq_getElem]
  rw [getElem!_pos te.zero.cells _ hbd, List.getD_eq_getElem?_getD, hg]
  rfl
 obtain ⟨cells', h7, h8⟩ := MB (cx := cx) (w := w) (h := st'.h) hf hz0 (vs := (parts.map fun (i, x) => (i, a.eval x)).toList) (by simp) (IA hr ha (fun x hx => hm x hx) hok)
 have hcs := Qa3 hps
 have hlen : cells'.size = n * sz := by
  rw [Ns h7]; simp [hsz]
 have hpl : ps.length = n * sz := by
  have := h8.1; rw [hcs, List.length_map] at this; omega
 obtain ⟨c1, c2, c3⟩ := Lq sz n ps hpl
 rw [hrows] at c1 c2 c3
 have hrun := run_buildSlice (P := P) w t e n (parts.map fun (i, x) => (i, a.eval x)) cells' i' te.zero hu h2' h6' (by rw [h4', hsz]; omega) (by rw [h4', hsz]; omega) (by rw [h4', hsz]; rw [hsz] at h7; exact h7)
 refine Ut (v := .slice (some ⟨w.heap.size, 0, none⟩) n n) (w' := w.alloc (.cells cells' e)) (by simp only [execOp, Sem.run_bind, hrun]; rfl) ⟨_, BP (w' := w.alloc (.cells cells' e)) (bk := .row sz rows true) (t := .c (.sl (d, 0) 0 n)) hr hd (b := (d, 0)) (hd d rfl) (hfr (d, 0) (by simp)) (ob := .cells cells' e) rfl rfl rfl rfl ?_ ?_⟩
 ·refine ⟨hsz0, c2, ?_⟩
  simp only [Cx.upd, if_true]
  refine ⟨trivial, cells', e, (0, 0), n, Y6 rfl, fun _ => ⟨rfl, fun h => ?_⟩, (fun h => by cases h), hlen, by omega, by unfold maxLen; have := Nat.le_mul_of_pos_right n hsz0; omega, fun i r k p hi hk => ?_⟩
  ·have := (hr.A _ h).1; omega
  ·have hp := c3 i r k p hi hk
   obtain ⟨u, hu, h9, h10⟩ := h8.2 (i * sz + k) (.p p) (by rw [hcs, List.getElem?_map, hp]; rfl)
   exact ⟨u, by simpa using hu, RP.keeps h10 (fun _ h => h) (Xy rfl)⟩
 ·refine ⟨.inr rfl, fun bk hbk => ?_⟩
  rw [Y5, if_pos rfl] at hbk
  cases hbk
  refine ⟨_, n, rfl, Nat.le_refl _, by unfold maxLen; have := Nat.le_mul_of_pos_right n hsz0; omega, by simp [Bk.len, c1], .inr ⟨w.heap.size, cells', e, (0, 0), by simp [Cx.upd], by simp [Bk.e], Y6 rfl, fun _ => by simp [Bk.e, hlen]⟩⟩
end
def gt : Bool → TV → TV
 | true, t => t
 | false, _ => .tup []
theorem QT {g : Bool} {t : TV} (h : g = true) : gt g t = t := by subst h; rfl
theorem V5 {b : Bool} : (b == true) = b := by cases b <;> rfl
theorem QQ {b : Bool} : (b == false) = !b := by cases b <;> rfl
section
variable {E : En} {N : Nat} {P : Program} {T : Tb P} {ops : Array Oper} {o : Oper} {st : St} {r : List Oper} {acc : List (Fp × Ef)} {K : List (Fp × Ef) → St → Prop} {d : Nat} {ty : Nat} {pos : String} {af : Array Edge} {gd : Option (Nat × Bool)} {op : Op} {f : Fp} {t : TV} {fr : List (Nat × TV)} {H : List (Qw × Option Bk)}
theorem QV {j dj : Nat} {want b g g0 : Bool} (hj : (ops[j]?).bind (·.dst) = some dj) (hb : (⟨fr, H⟩ : St).g dj = gt g0 (.c (.p (.v (.bool b))))) (hg : (g0 && (b == want)) = g) (hop : g = true → ZC E N P ops ⟨some d, op, ty, pos, af, some (j, want)⟩ ⟨fr, H⟩ f ⟨t, []⟩)
  (h : Ac E N P ops r ((f, ⟨gt g t, []⟩) :: acc) ⟨(d, gt g t) :: fr, H⟩ K) : Ac E N P ops (⟨some d, op, ty, pos, af, some (j, want)⟩ :: r) acc ⟨fr, H⟩ K := by
 refine ⟨f, ⟨gt g t, []⟩, ?_, h⟩
 have hw : wn ops ⟨some d, op, ty, pos, af, some (j, want)⟩ ⟨fr, H⟩ = some g := by
  unfold wn
  simp only [hj, hb]
  subst hg
  cases g0
  ·rfl
  ·simp [gt]
 cases g with
 | true => exact .inl ⟨hw, hop rfl⟩
 | false => exact .inr ⟨hw, trivial, rfl⟩
theorem QL {j dj : Nat} {want b g : Bool} (hj : (ops[j]?).bind (·.dst) = some dj) (hb : (⟨fr, H⟩ : St).g dj = .c (.p (.v (.bool b)))) (hg : (b == want) = g) (hop : g = true → ZC E N P ops ⟨some d, op, ty, pos, af, some (j, want)⟩ ⟨fr, H⟩ f ⟨t, []⟩)
  (h : Ac E N P ops r ((f, ⟨gt g t, []⟩) :: acc) ⟨(d, gt g t) :: fr, H⟩ K) : Ac E N P ops (⟨some d, op, ty, pos, af, some (j, want)⟩ :: r) acc ⟨fr, H⟩ K := QV (g0 := true) hj hb (by simpa using hg) hop h
theorem QU {c x y : Operand} {b g : Bool} {v w : Value} {u : Value} (hv : st.ev c = .c (.p (.v (.bool b))) := by exact rfl) (hx : st.ev x = gt g (.c (.p (.v v))) := by exact rfl) (hg : (b == true) = g := by exact rfl) (hy : st.ev y = .c (.p (.v w)) := by exact rfl) (hu : (bif b then v else w) = u := by exact rfl) (hb : Zf c = true := by exact rfl) (h1 : Zf x = true := by exact rfl) (h2 : Zf y = true := by exact rfl) :
  ZC E N P ops ⟨some d, .pick c x y, ty, pos, af, gd⟩ st ⟨[], []⟩ ⟨.c (.p (.v u)), []⟩ := by
 refine Mq hb h1 h2 hv ?_
 subst hg hu
 cases b
 ·rw [if_neg (by simp)]; exact hy
 ·rw [if_pos rfl]; exact hx
theorem Z4 {c x y : Operand} {b g : Bool} {v w : Value} {u : Value} (hv : st.ev c = .c (.p (.v (.bool b))) := by exact rfl) (hx : st.ev x = .c (.p (.v v)) := by exact rfl) (hg : (b == false) = g := by exact rfl) (hy : st.ev y = gt g (.c (.p (.v w))) := by exact rfl) (hu : (bif b then v else w) = u := by exact rfl) (hb : Zf c = true := by exact rfl) (h1 : Zf x = true := by exact rfl) (h2 : Zf y = true := by exact rfl) :
  ZC E N P ops ⟨some d, .pick c x y, ty, pos, af, gd⟩ st ⟨[], []⟩ ⟨.c (.p (.v u)), []⟩ := by
 refine Mq hb h1 h2 hv ?_
 subst hg hu
 cases b
 ·rw [if_neg (by simp)]; exact hy
 ·rw [if_pos rfl]; exact hx
theorem KG {b x y : Bool} : (bif b then Value.bool x else Value.bool y) = .bool (bif b then x else y) := by cases b <;> rfl
end
def Ae (st st' : St) : Prop := ∀ (E : En) (N : Nat) (cx : Cx) (a : Act) (w : World), Xx E N cx st a w → ∃ cx', Xx E N cx' st' a w
def jn {α : Type} (k : α → Prop) (m : (α → Prop) → Prop) : Prop := m k
def lp {σ : Type} (step : (σ → Prop) → σ → Prop) (s : σ) : Prop := ∀ X : σ → Prop, (∀ s, step X s → X s) → X s
def ix {α : Type} (l : List α) (n : Int) (x : α) : Prop := 0 ≤ n ∧ l[n.toNat]? = some x
def Q1a (P : Program) (c : Code) (Q : Exit → Act → World → Prop) (a : Act) (w : World) : Prop :=
 ∀ (b : Frame) (kk : List Item) (cs : List Frame), ∃ e a' w', Q e a' w' ∧ Arrives P (lone (b.at a (.code c :: .inLoop c :: kk)) cs w) b kk cs e a' w'
theorem Qa4 {P : Program} {c : Code} {Q : Exit → Act → World → Prop} {a : Act} {w : World} (h : Q1a P c Q a w) : (Code.loop c).wp P Q a w := by
 intro b kk cs
 obtain ⟨e, a', w', hq, harr⟩ := h b kk cs
 exact ⟨e, a', w', hq, .of_steps (.one step_loop) harr⟩
theorem Qj3 {P : Program} {c : Code} {Q : Exit → Act → World → Prop} {a : Act} {w : World} (h : c.wp P (Exit.then (Q1a P c Q) Q) a w) : Q1a P c Q a w := by
 intro b kk cs
 obtain ⟨e, a₁, w₁, hq, harr⟩ := h b (.inLoop c :: kk) cs
 cases e with
 | normal =>
  obtain ⟨e₂, a₂, w₂, hq₂, harr₂⟩ := hq b kk cs
  exact ⟨e₂, a₂, w₂, hq₂, .of_steps (Steps.trans harr (.one step_inLoop)) harr₂⟩
 | exit id => exact ⟨_, a₁, w₁, hq, .pass (x := .inLoop c) rfl (fun _ _ => .inl (by simp)) harr⟩
 | goto l => exact ⟨_, a₁, w₁, hq, .pass (x := .inLoop c) rfl (fun _ _ => .inl (by simp)) harr⟩
 | ret => exact ⟨_, a₁, w₁, hq, .pass (x := .inLoop c) rfl (fun _ _ => .inl (by simp)) harr⟩
 | panic ch => exact ⟨_, a₁, w₁, hq, .pass (x := .inLoop c) rfl (fun _ _ => .inl (by simp)) harr⟩
 | outgrown => exact ⟨_, a₁, w₁, hq, .pass (x := .inLoop c) rfl (fun _ _ => .inl (by simp)) harr⟩
section
variable {E : En} {N : Nat} {P : Program} {T : Tb P} {Q : Exit → St → Prop} {st st' st2 : St}
theorem Ae.refl (st : St) : Ae st st := fun _ _ cx _ _ h => ⟨cx, h⟩
theorem Ae.trans (h : Ae st st') (h2 : Ae st' st2) : Ae st st2 := fun E N cx a w hr => let ⟨cx', hr'⟩ := h E N cx a w hr; h2 E N cx' a w hr'
theorem Ae.nm (ks : List Nat) (σ : List (Qw × Qw)) (h1 : okS σ = true := by exact rfl) (h : st.norm ks σ = st' := by exact rfl) : Ae st st' := fun E N cx a w hr => by subst h; exact hr.norm h1
theorem F8 {c : Code} (h : Ae st st') (h2 : AW E N P c Q st') : AW E N P c Q st := fun cx a w hr => let ⟨cx', hr'⟩ := h E N cx a w hr; h2 cx' a w hr'
def AL (E : En) (N : Nat) (P : Program) (c : Code) (Q : Exit → St → Prop) (st : St) : Prop :=
 ∀ cx a w, Xx E N cx st a w → Q1a P c (fun e a' w' => ∃ st' cx', Q e st' ∧ Xx E N cx' st' a' w') a w
theorem Qj4 {c : Code} (h : AL E N P c Q st) : AW E N P (.loop c) Q st := fun cx a w hr => Qa4 (h cx a w hr)
theorem Qj5 {c : Code} (h : AW E N P c (O6 Q (AL E N P c Q)) st) : AL E N P c Q st := by
 intro cx a w hr
 refine Qj3 (wp_mono (h cx a w hr) ?_)
 rintro e a' w' ⟨st', cx', h1, h2⟩
 cases e with
 | normal => exact h1 cx' a' w' h2
 | _ => exact ⟨st', cx', h1, h2⟩
theorem Qzj {c : Code} (h : Ae st st') (h2 : AL E N P c Q st') : AL E N P c Q st := fun cx a w hr => let ⟨cx', hr'⟩ := h E N cx a w hr; h2 cx' a w hr'
theorem aw_lp {σ : Type} {c : Code} {step : (σ → Prop) → σ → Prop} {s0 : σ} (S : σ → St) (h : lp step s0) (hs : Ae st (S s0))
  (hb : ∀ (X : σ → Prop) (L : St → Prop), (∀ p st, X p → Ae st (S p) → L st) → ∀ s, step X s → AW E N P c (O6 Q L) (S s)) : AW E N P (.loop c) Q st :=
 Qj4 (h (fun s => ∀ st, Ae st (S s) → AL E N P c Q st) (fun s hstep st hst => Qzj hst (Qj5 (hb _ _ (fun p st hp hst => hp st hst) s hstep))) st hs)
theorem Qj6 {α : Type} {x y : Code} {k : α → Prop} {m : (α → Prop) → Prop} (S : α → St) (h : jn k m) (hk : ∀ p, k p → AW E N P y Q (S p))
  (hm : ∀ (J : α → Prop) (L : St → Prop), (∀ p st, J p → Ae st (S p) → L st) → m J → AW E N P x (O6 Q L) st) : AW E N P (.seq x y) Q st :=
 Q9u (hm k _ (fun p st hp hst => F8 hst (hk p hp)) h)
theorem aw_Q {c : Code} {Q0 : Exit → St → Prop} (h : ∀ Q : Exit → St → Prop, (∀ e st, Q0 e st → Q e st) → AW E N P c Q st) : AW E N P c Q0 st := h _ fun _ _ h => h
end
theorem PG (b b' : Qw) (x : Option Bk) (fr : List (Nat × TV)) (H : List (Qw × Option Bk)) : (⟨fr, (b, x) :: H⟩ : St).h b' = if b' = b then x else (⟨fr, H⟩ : St).h b' := by
 show (XZ ((b, x) :: H) b').getD none = _
 simp only [XZ]
 by_cases h : b' = b
 ·subst h; rw [Z6.2 rfl, if_pos rfl]; rfl
 ·have : VP b b' = false := by
   cases hb : VP b b' with
   | false => rfl
   | true => exact absurd (Z6.1 hb).symm h
  rw [this, if_neg h]; rfl
theorem Qzk (s s' : Nat) (t : TV) (fr : List (Nat × TV)) (H : List (Qw × Option Bk)) : (⟨(s, t) :: fr, H⟩ : St).g s' = if s' = s then t else (⟨fr, H⟩ : St).g s' := by
 show (Zn ((s, t) :: fr) s').getD (.c .any) = _
 simp only [Zn]
 by_cases h : s' = s
 ·subst h; simp
 ·have : Nat.beq s s' = false := by
   cases hb : Nat.beq s s' with
   | false => rfl
   | true => exact absurd (Nat.eq_of_beq_eq_true hb).symm h
  rw [this, if_neg h]; rfl
section
variable {E : En} {N : Nat} {P : Program} {T : Tb P} {Q : Exit → St → Prop} {st st' st2 : St} {cx : Cx} {a : Act} {w : World} {fr : List (Nat × TV)} {H : List (Qw × Option Bk)}
theorem Ae.blk (b : Qw) (e : Nat) (he : Nat.blt 0 e = true := by exact rfl) (hb0 : Nat.blt b.1 65536 = true := by exact rfl) (hf : Py b ⟨fr, H⟩ = true := by exact rfl) : Ae ⟨fr, H⟩ ⟨fr, (b, some (.row e [] true)) :: H⟩ := by
 intro E N cx a w hr
 have hf := O7 hf
 have hh := PG b (x := some (.row e [] true)) (fr := fr) (H := H)
 have hcmp : ∀ b', b' ≠ b → Cmp cx w (⟨fr, H⟩ : St).h (cx.upd b none) w (⟨fr, (b, some (.row e [] true)) :: H⟩ : St).h b' := by
  intro b' hne bk' hb
  rw [hh, if_neg hne] at hb
  exact ⟨bk', hb, rfl, Nat.le_refl _, by simp [Cx.upd, hne], fun g o c el fz _ h => ⟨c, el, fz, h, fun _ => rfl⟩⟩
 have hk : Xg cx.A w w := Xg.refl _ _
 refine ⟨cx.upd b none, hr.defers, hr.size, fun s' => ?_, fun b' bk hb => ?_, fun b1 b2 g o g' o' h1 h2 h3 h4 hne => ?_, fun b1 g o h1 h2 => ?_, hr.A, hr.A0, hr.kept, hr.sz, hr.os, hr.tape, hr.output, hr.hN, fun c hc => (Mu (Nat.le_of_ble_eq_true hb0) c hc).trans (hr.pin c hc), hr.cz⟩
 ·refine RT.tr (cx := cx) (fun _ h => h) hk (fun b' hb' => hcmp b' ?_) (hr.fr s')
  rintro rfl
  exact hf.2.1 s' hb'
 ·rw [hh] at hb
  by_cases h : b' = b
  ·rw [if_pos h] at hb
   cases hb
   subst h
   exact ⟨Nat.le_of_ble_eq_true he, by simp, by simp [Cx.upd]⟩
  ·rw [if_neg h] at hb
   refine RB.tr (cx := cx) (fun _ h => h) hk (fun b2 hb2 => hcmp b2 ?_) (by simp [Cx.upd, h]) (fun g o _ => ⟨rfl, fun h => h⟩) (hr.bl b' bk hb)
   rintro rfl
   exact hf.2.2 b' bk hb hb2
 ·rw [hh] at h1 h2
  simp only [Cx.upd] at h3 h4
  by_cases e1 : b1 = b
  ·rw [if_pos e1] at h3; cases h3
  ·by_cases e2 : b2 = b
   ·rw [if_pos e2] at h4; cases h4
   ·rw [if_neg e1] at h1 h3; rw [if_neg e2] at h2 h4
    exact hr.inj b1 b2 g o g' o' h1 h2 h3 h4 hne
 ·rw [hh] at h1
  simp only [Cx.upd] at h2
  by_cases e1 : b1 = b
  ·rw [if_pos e1] at h2; cases h2
  ·rw [if_neg e1] at h1 h2
   exact hr.own b1 g o h1 h2
theorem Xx.frz {b : Qw} {e : Nat} {rows : List (List PV)} {mu : Bool} (hb : st.h b = some (.row e rows mu)) (hr : Xx E N cx st a w) : ∃ cx', (∀ x, cx.A x → cx'.A x) ∧ cx'.ι = cx.ι ∧ Xx E N cx' ⟨st.fr, (b, some (.row e rows false)) :: st.H⟩ a w := by
 have hh := PG b (x := some (.row e rows false)) (fr := st.fr) (H := st.H)
 let cx' : Cx := ⟨cx.ι, fun x => cx.A x ∨ ∃ q, cx.ι b = some (x, q)⟩
 have hA : ∀ x, cx.A x → cx'.A x := fun x h => .inl h
 have hk : Xg cx.A w w := Xg.refl _ _
 have hcmp : ∀ b', Cmp cx w st.h cx' w (⟨st.fr, (b, some (.row e rows false)) :: st.H⟩ : St).h b' := by
  intro b' bk' hb'
  rw [hh] at hb'
  by_cases h : b' = b
  ·rw [if_pos h] at hb'
   cases hb'
   subst h
   exact ⟨_, hb, rfl, Nat.le_refl _, rfl, fun g o c el fz _ h => ⟨c, el, fz, h, fun _ => rfl⟩⟩
  ·rw [if_neg h] at hb'
   exact ⟨bk', hb', rfl, Nat.le_refl _, rfl, fun g o c el fz _ h => ⟨c, el, fz, h, fun _ => rfl⟩⟩
 have hlive : ∀ b', (⟨st.fr, (b, some (.row e rows false)) :: st.H⟩ : St).h b' ≠ none → st.h b' ≠ none := by
  intro b' h1
  rw [hh] at h1
  by_cases h : b' = b
  ·rw [h, hb]; simp
  ·rwa [if_neg h] at h1
 refine ⟨cx', hA, rfl, hr.defers, hr.size, fun s' => ?_, fun b' bk hb' => ?_, fun b1 b2 g o g' o' h1 h2 h3 h4 hne => ?_, fun b1 g o h1 h2 => ?_, fun g hg => ?_, fun g hg => hA g (hr.A0 g hg), hr.kept, hr.sz, hr.os, hr.tape, hr.output, hr.hN, hr.pin, hr.cz⟩
 ·exact RT.tr (cx := cx) hA hk (fun b' _ => hcmp b') (hr.fr s')
 ·rw [hh] at hb'
  by_cases h : b' = b
  ·rw [if_pos h] at hb'
   cases hb'
   subst h
   obtain ⟨h1, h2, h3⟩ := hr.bl b' _ hb
   refine ⟨h1, h2, ?_⟩
   revert h3
   show (match cx.ι b' with | none => _ | some (g, o) => _) → (match cx.ι b' with | none => _ | some (g, o) => _)
   cases hι : cx.ι b' with
   | none => exact fun h => h
   | some x =>
    obtain ⟨g, o⟩ := x
    rintro ⟨h3, c, el, fz, capR, h4, h5, h6, h7, h8, h9, h10⟩
    exact ⟨h3, c, el, fz, capR, h4, (fun h => by cases h), fun _ => .inr ⟨o, hι⟩, h7, h8, h9, fun i r k p hi hk' => let ⟨cv, hc, hp⟩ := h10 i r k p hi hk'; ⟨cv, hc, hp.mono hA (Nat.le_refl _) (fun _ _ _ => rfl)⟩⟩
  ·rw [if_neg h] at hb'
   refine RB.tr (cx := cx) hA hk (fun b2 _ => hcmp b2) rfl (fun g o hg => ⟨rfl, fun hn hA' => ?_⟩) (hr.bl b' bk hb')
   rcases hA' with hA' | ⟨q, hq⟩
   ·exact hn hA'
   ·exact hr.inj b' b g o g q (by rw [hb']; simp) (by rw [hb]; simp) hg hq h rfl
 ·exact hr.inj b1 b2 g o g' o' (hlive b1 h1) (hlive b2 h2) h3 h4 hne
 ·exact hr.own b1 g o (hlive b1 h1) h2
 ·rcases hg with hg | ⟨q, hq⟩
  ·exact hr.A g hg
  ·obtain ⟨h1, h2⟩ := hr.own b g q (by rw [hb]; simp) hq
   exact ⟨h1, h2.elim (fun h => .inr (.inl h)) (fun h => .inr (.inr h))⟩
theorem Ae.frz (b : Qw) {e : Nat} {rows : List (List PV)} {mu : Bool} (hb : (⟨fr, H⟩ : St).h b = some (.row e rows mu) := by exact rfl) : Ae ⟨fr, H⟩ ⟨fr, (b, some (.row e rows false)) :: H⟩ := fun E N cx a w hr =>
 let ⟨cx', _, _, h⟩ := hr.frz hb; ⟨cx', h⟩
inductive Ct (st : St) : CV → CV → Prop
 | k (c : CV) : Ct st c c
 | any (c : CV) : Ct st c .any
 | nil (e : Nat) : Ct st (.p (.v (.slice none 0 0))) (.p (.l e []))
 | nilo {b : Qw} {bk : Bk} (hb : st.h b = some bk) : Ct st (.p (.v (.slice none 0 0))) (.sl b 0 0)
 | n {b : Qw} {off n n' : Nat} (h : n = n') : Ct st (.sl b off n) (.sl b off n')
 | fr {b : Qw} {e off n : Nat} {rows rows' : List (List PV)} (hb : st.h b = some (.row e rows false)) (hr : (rows.drop off).take n = rows') : Ct st (.sl b off n) (.p (.l e rows'))
theorem Qj7 {c c' : CV} {v : Value} (hr : Xx E N cx st a w) (h : Ct st c c') (hc : RC cx w st.h c v) : RC cx w st.h c' v := by
 cases h with
 | k => exact hc
 | any => trivial
 | nil e => cases hc with | v _ _ => exact Qix e
 | n h => subst h; exact hc
 | nilo hb =>
  cases hc with
  | v _ _ =>
   intro bk hbk
   exact ⟨none, 0, rfl, Nat.le_refl _, Nat.zero_le _, Nat.zero_le _, .inl rfl⟩
 | @fr b e off n rows rows' hb hr' =>
  have hA : ∀ b' ∈ [b], ∀ g q, cx.ι b' = some (g, q) → cx.A g := by
   intro b' hb' g q hg
   rw [List.mem_singleton.1 hb'] at hg
   obtain ⟨_, _, h3⟩ := hr.bl b _ hb
   rw [hg] at h3
   obtain ⟨_, c, el, fz, capR, _, _, h6, _⟩ := h3
   exact h6 rfl
  exact Mw (x := .p (.l e rows')) (o := none) hr (.fr hb hr') hc (fun _ h => h) hA (fun b h => by cases h)
inductive Cts (st : St) : List CV → List CV → Prop
 | nil : Cts st [] []
 | cons {c c' : CV} {cs cs' : List CV} (h : Ct st c c') (hs : Cts st cs cs') : Cts st (c :: cs) (c' :: cs')
theorem Cts.k (cs : List CV) : Cts st cs cs := by
 induction cs with
 | nil => exact .nil
 | cons c cs ih => exact .cons (.k c) ih
theorem Cts.at {cs cs' : List CV} (h : Cts st cs cs') : cs'.length = cs.length ∧ ∀ (k : Nat) (c' : CV), cs'[k]? = some c' → ∃ c, cs[k]? = some c ∧ Ct st c c' := by
 induction h with
 | nil => exact ⟨rfl, fun k c' h => by simp at h⟩
 | cons h hs ih =>
  refine ⟨by simp [ih.1], fun k c' hk => ?_⟩
  cases k with
  | zero => rw [List.getElem?_cons_zero] at hk; cases hk; exact ⟨_, rfl, h⟩
  | succ k => rw [List.getElem?_cons_succ] at hk; obtain ⟨c, h1, h2⟩ := ih.2 k c' hk; exact ⟨c, by rw [List.getElem?_cons_succ]; exact h1, h2⟩
theorem Qj8 {cs cs' : List CV} {vs : Array Value} (hr : Xx E N cx st a w) (h : Cts st cs cs') (hc : RL cx w st.h cs vs) : RL cx w st.h cs' vs := by
 obtain ⟨h1, h2⟩ := h.at
 refine ⟨by rw [h1]; exact hc.1, fun i c hi => ?_⟩
 obtain ⟨c0, h3, h4⟩ := h2 i c hi
 obtain ⟨u, hu, h5, h6⟩ := hc.2 i c0 h3
 exact ⟨u, hu, h5, Qj7 hr h4 h6⟩
theorem Xx.re (hr : Xx E N cx st a w) {s : Nat} {t : TV} (ht : RT cx w st.h t (a.tmps.getD s undef)) : Xx E N cx ⟨(s, t) :: st.fr, st.H⟩ a w := by
 refine ⟨hr.defers, hr.size, fun s' => ?_, hr.bl, hr.inj, hr.own, hr.A, hr.A0, hr.kept, hr.sz, hr.os, hr.tape, hr.output, hr.hN, hr.pin, hr.cz⟩
 rw [Qzk]
 by_cases h : s' = s
 ·rw [if_pos h, h]; exact ht
 ·rw [if_neg h]; exact hr.fr s'
theorem Ae.slot (s : Nat) {c c' : CV} (hs : (⟨fr, H⟩ : St).g s = .c c := by exact rfl) (hc : Ct ⟨fr, H⟩ c c') : Ae ⟨fr, H⟩ ⟨(s, .c c') :: fr, H⟩ := by
 intro E N cx a w hr
 refine ⟨cx, hr.re ?_⟩
 have := hr.fr s
 rw [hs] at this
 refine ⟨?_, Qj7 hr hc this.2⟩
 rcases this.1 with h | h
 ·subst h; cases hc <;> exact .inl rfl
 ·exact .inr h
theorem Ae.slots (s : Nat) {cs cs' : List CV} (hs : (⟨fr, H⟩ : St).g s = .agg cs) (hc : Cts ⟨fr, H⟩ cs cs') : Ae ⟨fr, H⟩ ⟨(s, .agg cs') :: fr, H⟩ := by
 intro E N cx a w hr
 refine ⟨cx, hr.re ?_⟩
 have := hr.fr s
 rw [hs] at this
 obtain ⟨vs, h1, h2⟩ := this
 exact ⟨vs, h1, Qj8 hr hc h2⟩
theorem Ae.cells (b : Qw) {cs cs' : List CV} {fm : Option Frm} (hb : (⟨fr, H⟩ : St).h b = some (.box cs fm) := by exact rfl) (hc : Cts ⟨fr, H⟩ cs cs') : Ae ⟨fr, H⟩ ⟨fr, (b, some (.box cs' fm)) :: H⟩ := by
 intro E N cx a w hr
 have hh := PG b (x := some (.box cs' fm)) (fr := fr) (H := H)
 obtain ⟨hl, hat⟩ := hc.at
 have hcmp : ∀ b', Cmp cx w (⟨fr, H⟩ : St).h cx w (⟨fr, (b, some (.box cs' fm)) :: H⟩ : St).h b' := by
  intro b' bk' hb'
  rw [hh] at hb'
  by_cases h : b' = b
  ·rw [if_pos h] at hb'
   cases hb'
   subst h
   exact ⟨_, hb, rfl, Nat.le_refl _, rfl, fun g o c el fz _ h => ⟨c, el, fz, h, fun _ => rfl⟩⟩
  ·rw [if_neg h] at hb'
   exact ⟨bk', hb', rfl, Nat.le_refl _, rfl, fun g o c el fz _ h => ⟨c, el, fz, h, fun _ => rfl⟩⟩
 have hk : Xg cx.A w w := Xg.refl _ _
 have hlive : ∀ b', (⟨fr, (b, some (.box cs' fm)) :: H⟩ : St).h b' ≠ none → (⟨fr, H⟩ : St).h b' ≠ none := by
  intro b' h1
  rw [hh] at h1
  by_cases h : b' = b
  ·rw [h, hb]; simp
  ·rwa [if_neg h] at h1
 refine ⟨cx, hr.defers, hr.size, fun s' => ?_, fun b' bk hb' => ?_, fun b1 b2 g o g' o' h1 h2 h3 h4 hne => ?_, fun b1 g o h1 h2 => ?_, hr.A, hr.A0, hr.kept, hr.sz, hr.os, hr.tape, hr.output, hr.hN, hr.pin, hr.cz⟩
 ·exact RT.tr (cx := cx) (fun _ h => h) hk (fun b' _ => hcmp b') (hr.fr s')
 ·rw [hh] at hb'
  by_cases h : b' = b
  ·rw [if_pos h] at hb'
   cases hb'
   subst h
   obtain ⟨g, o, c, el, h1, h2, h3, h4, h5, hfm⟩ := hr.bl b' _ hb
   refine ⟨g, o, c, el, h1, h2, h3, by rw [hl]; exact h4, fun k x hx => ?_, by rw [hl]; exact hfm⟩
   obtain ⟨x0, h6, h7⟩ := hat k x hx
   obtain ⟨cv, h8, h9, h10⟩ := h5 k x0 h6
   exact ⟨cv, h8, h9, RC.tr (cx := cx) (fun _ h => h) hk (fun b' _ => hcmp b') (Qj7 hr h7 h10)⟩
  ·rw [if_neg h] at hb'
   exact RB.tr (cx := cx) (fun _ h => h) hk (fun b2 _ => hcmp b2) rfl (fun g o _ => ⟨rfl, fun h => h⟩) (hr.bl b' bk hb')
 ·exact hr.inj b1 b2 g o g' o' (hlive b1 h1) (hlive b2 h2) h3 h4 hne
 ·exact hr.own b1 g o (hlive b1 h1) h2
theorem Qrm {ops : Array Oper} {o : Oper} {rb al : List Qw} {t : TV} {bl : List (Qw × Option Bk)} {b : Qw} {e : Nat} {rows : List (List PV)} {mu : Bool} (hb : (⟨fr, H⟩ : St).h b = some (.row e rows mu) := by exact rfl) (hal : Dh al [b] = true := by exact rfl)
  (h : ZC E N P ops o ⟨fr, (b, some (.row e rows false)) :: H⟩ ⟨rb, al⟩ ⟨t, bl⟩) : ZC E N P ops o ⟨fr, H⟩ ⟨b :: rb, al⟩ ⟨t, bl ++ [(b, some (.row e rows false))]⟩ := by
 intro st' ha hf hd cx a w Q hr
 have hb' : st'.h b = some (.row e rows mu) := by rw [ha.2 b (by simp)]; exact hb
 obtain ⟨cx', hA, hι, hr'⟩ := hr.frz hb'
 have hh := PG b (x := some (.row e rows false)) (fr := st'.fr) (H := st'.H)
 refine Oper.wp_mono (fun a' w' ⟨cx2, h2⟩ => ⟨cx2, ?_⟩) (h ⟨st'.fr, (b, some (.row e rows false)) :: st'.H⟩ ⟨ha.1, fun b' hb2 => ?_⟩ (fun b' hb2 => ?_) hd cx' a w Q hr')
 ·rw [hh, PG]
  by_cases hbb : b' = b
  ·rw [if_pos hbb, if_pos hbb]
  ·rw [if_neg hbb, if_neg hbb]; exact ha.2 b' (List.mem_cons_of_mem _ hb2)
 ·obtain ⟨h1, h2, h3⟩ := hf b' hb2
  have hne : b' ≠ b := by have := VL hal b' hb2; simpa using this
  refine ⟨by rw [hh, if_neg hne]; exact h1, h2, fun b2 bk hbk => ?_⟩
  rw [hh] at hbk
  by_cases h4 : b2 = b
  ·rw [if_pos h4] at hbk; cases hbk; simp [Bk.ment]
  ·rw [if_neg h4] at hbk; exact h3 b2 bk hbk
 ·have e1 : (Ef.ap ⟨t, bl ++ [(b, some (.row e rows false))]⟩ o st') = Ef.ap ⟨t, bl⟩ o ⟨st'.fr, (b, some (.row e rows false)) :: st'.H⟩ := by
   unfold Ef.ap; simp
  rw [e1]; exact h2
end
def eI (k : IntKind) (n : Int) : List PV := [.v (.int k n)]
def eS (s : ByteArray) : List PV := [.v (.string s)]
def eB (b : Bool) : List PV := [.v (.bool b)]
def bx (s : ByteArray) (n v : Int) : Prop := 0 ≤ n ∧ ∃ b : UInt8, s[n.toNat]? = some b ∧ v = (b.toNat : Int)
def bOr (k : IntKind) (a b : Int) : Int := k.wrap (BitVec.ofInt k.bits a ||| BitVec.ofInt k.bits b).toNat
def QG (k : IntKind) (a b : Int) : Int := k.wrap (BitVec.ofInt k.bits a &&& BitVec.ofInt k.bits b).toNat
def Oq (k : IntKind) (a b : Int) : Int := k.wrap (BitVec.ofInt k.bits a ^^^ BitVec.ofInt k.bits b).toNat
def Qrn (k : IntKind) (a b : Int) : Int := k.wrap (BitVec.ofInt k.bits a &&& ~~~ BitVec.ofInt k.bits b).toNat
def Y7 (k : IntKind) (a b : Int) : Int := k.wrap (a * 2 ^ (min b.toNat k.bits))
def QD (k : IntKind) (a b : Int) : Int := a.fdiv (2 ^ (min b.toNat k.bits))
def JD (a b : Int) : Int := if b < a then b else a
def KF (a b : Int) : Int := if b > a then b else a
def eqV : Value → Value → Bool
 | .int _ a, .int _ b => a == b
 | .bool a, .bool b => a == b
 | .string a, .string b => a.toList == b.toList
 | _, _ => false
def Q1b : List Value → List Value → Bool
 | [], [] => true
 | a :: l, b :: m => eqV a b && Q1b l m
 | _, _ => false
section
variable {α : Type} {f : α → List PV} {L L' : List α} {E : En} {N : Nat} {P : Program} {T : Tb P} {ops : Array Oper} {o : Oper} {st : St} {d : Nat} {ty : Nat} {pos : String} {af : Array Edge} {gd : Option (Nat × Bool)} {cx : Cx} {a : Act} {w w' : World}
theorem tn {n : Int} (h : 0 ≤ n) : n = (n.toNat : Int) := (Int.toNat_of_nonneg h).symm
theorem Q1c [T : Tb P] {x y : Operand} {t el e : Nat} {k : IntKind} {n : Int} {v : α} {tt te : TE} (hv : ix L n v) (h1 : st.ev x = .c (.p (.l e (L.map f))) := by exact rfl) (h2 : st.ev y = .c (.p (.v (.int k n))) := by exact rfl) (ht : Zn T.ty t = some tt := by exact rfl) (hk : tt.kd = .slice el := by exact rfl) (hel : Zn T.ty el = some te := by exact rfl) (he : te.size = e := by exact rfl) (hx : Zf x = true := by exact rfl) (hy : Zf y = true := by exact rfl) :
  ZC E N P ops ⟨some d, .indexAddr t x y, ty, pos, af, gd⟩ st ⟨[], []⟩ ⟨.c (.ep (f v) 0), []⟩ := Q5o h1 h2 (tn hv.1) (gm hv.2) ht hk hel he hx hy
theorem FZ [T : Tb P] {x y : Operand} {t el e m : Nat} {b : Qw} {mu : Bool} {k : IntKind} {n : Int} {v : α} {tt te : TE} (hv : ix L n v) (h1 : st.ev x = .c (.sl b 0 m) := by exact rfl) (hb : st.h b = some (.row e (L.map f) mu) := by exact rfl) (hm : (L.map f).length = m := by exact rfl) (h2 : st.ev y = .c (.p (.v (.int k n))) := by exact rfl) (ht : Zn T.ty t = some tt := by exact rfl) (hk : tt.kd = .slice el := by exact rfl) (hel : Zn T.ty el = some te := by exact rfl) (he : te.size = e := by exact rfl) (hx : Zf x = true := by exact rfl) (hy : Zf y = true := by exact rfl) :
  ZC E N P ops ⟨some d, .indexAddr t x y, ty, pos, af, gd⟩ st ⟨[b], []⟩ ⟨.c (.ptr b n.toNat 0), []⟩ :=
 Mt h1 hb h2 (tn hv.1) (by rw [← hm, List.length_map]; exact (List.getElem?_eq_some_iff.1 hv.2).1) ht hk hel he (Nat.zero_add _) hx hy
theorem Qzl {off m : Nat} {n : Int} {v : α} (hv : ix ((L.drop off).take m) n v) : n.toNat < m ∧ L[off + n.toNat]? = some v := by
 have h := hv.2
 rw [List.getElem?_take] at h
 split at h
 ·rename_i h2
  rw [List.getElem?_drop] at h
  exact ⟨h2, h⟩
 ·cases h
theorem Nt {x y : Operand} {t el e off m : Nat} {b : Qw} {mu : Bool} {k : IntKind} {n : Int} {v : α} {tt te : TE} (hv : ix ((L.drop off).take m) n v) (h1 : st.ev x = .c (.sl b off m)) (hb : st.h b = some (.row e (L.map f) mu)) (h2 : st.ev y = .c (.p (.v (.int k n)))) (ht : Zn T.ty t = some tt) (hk : tt.kd = .slice el) (hel : Zn T.ty el = some te) (he : te.size = e) (hx : Zf x = true) (hy : Zf y = true) :
  ZC E N P ops ⟨some d, .indexAddr t x y, ty, pos, af, gd⟩ st ⟨[b], []⟩ ⟨.c (.ptr b (off + n.toNat) 0), []⟩ :=
 Mt h1 hb h2 (tn hv.1) (Qzl hv).1 ht hk hel he rfl hx hy
theorem HN [T : Tb P] {x y : Operand} {t : Nat} {s : ByteArray} {k : IntKind} {n v : Int} {tt : TE} (hv : bx s n v) (h1 : st.ev x = .c (.p (.v (.string s))) := by exact rfl) (h2 : st.ev y = .c (.p (.v (.int k n))) := by exact rfl) (ht : Zn T.ty t = some tt := by exact rfl) (hk : tt.kd = .string := by exact rfl) (hx : Zf x = true := by exact rfl) (hy : Zf y = true := by exact rfl) :
  ZC E N P ops ⟨some d, .index t x y, ty, pos, af, gd⟩ st ⟨[], []⟩ ⟨.c (.p (.v (.int .u8 v))), []⟩ := by
 obtain ⟨h0, b, hb, rfl⟩ := hv
 exact Sy h1 h2 (tn h0) hb ht hk hx hy
theorem Di [T : Tb P] {x : Operand} {t e : TypeId} {tt : TE} {k : Nat} (h1 : st.ev x = .c (.p (.l k (L.map f))) := by exact rfl) (ht : Zn T.ty t = some tt := by exact rfl) (hk : tt.kd = .slice e := by exact rfl) (hx : Zf x = true := by exact rfl) :
  ZC E N P ops ⟨some d, .call { callee := .builtin .len, args := #[x], argTypes := #[t] }, ty, pos, af, gd⟩ st ⟨[], []⟩ ⟨.c (.p (.v (.int .i64 (L.length : Int)))), []⟩ := by
 have := Qes (E := E) (N := N) (ops := ops) (d := d) (ty := ty) (pos := pos) (af := af) (gd := gd) h1 ht hk hx
 rwa [List.length_map] at this
theorem MC [T : Tb P] {x : Operand} {t e e' : TypeId} {tt : TE} {b : Qw} {m : Nat} {mu : Bool} (h1 : st.ev x = .c (.sl b 0 m) := by exact rfl) (hb : st.h b = some (.row e' (L.map f) mu) := by exact rfl) (hm : (L.map f).length = m := by exact rfl) (ht : Zn T.ty t = some tt := by exact rfl) (hk : tt.kd = .slice e := by exact rfl) (hx : Zf x = true := by exact rfl) :
  ZC E N P ops ⟨some d, .call { callee := .builtin .len, args := #[x], argTypes := #[t] }, ty, pos, af, gd⟩ st ⟨[b], []⟩ ⟨.c (.p (.v (.int .i64 (L.length : Int)))), []⟩ := by
 have := Gj (E := E) (N := N) (ops := ops) (d := d) (ty := ty) (pos := pos) (af := af) (gd := gd) h1 (by rw [hb]; rfl) ht hk hx
 rwa [← hm, List.length_map] at this
theorem Qcy {xt yt : TypeId} {x y : Operand} {k k' : IntKind} {a b : Int} (hb : 0 ≤ b) (h1 : st.ev x = .c (.p (.v (.int k a))) := by exact rfl) (h2 : st.ev y = .c (.p (.v (.int k' b))) := by exact rfl) (hx : Zf x = true := by exact rfl) (hy : Zf y = true := by exact rfl) :
  ZC E N P ops ⟨some d, .binOp .shl xt x y yt, ty, pos, af, gd⟩ st ⟨[], []⟩ ⟨.c (.p (.v (.int k (Y7 k a b)))), []⟩ := Qra h1 h2 hb rfl hx hy
theorem Qcz {xt yt : TypeId} {x y : Operand} {k k' : IntKind} {a b : Int} (hb : 0 ≤ b) (h1 : st.ev x = .c (.p (.v (.int k a))) := by exact rfl) (h2 : st.ev y = .c (.p (.v (.int k' b))) := by exact rfl) (hx : Zf x = true := by exact rfl) (hy : Zf y = true := by exact rfl) :
  ZC E N P ops ⟨some d, .binOp .shr xt x y yt, ty, pos, af, gd⟩ st ⟨[], []⟩ ⟨.c (.p (.v (.int k (QD k a b)))), []⟩ := Qrb h1 h2 hb rfl hx hy
theorem Qja {xt yt : TypeId} {x y : Operand} {k : IntKind} {a b : Int} (hb : b ≠ 0) (h1 : st.ev x = .c (.p (.v (.int k a))) := by exact rfl) (h2 : st.ev y = .c (.p (.v (.int k b))) := by exact rfl) (hx : Zf x = true := by exact rfl) (hy : Zf y = true := by exact rfl) :
  ZC E N P ops ⟨some d, .binOp .quo xt x y yt, ty, pos, af, gd⟩ st ⟨[], []⟩ ⟨.c (.p (.v (.int k (k.wrap (a.tdiv b))))), []⟩ := P7 h1 h2 (by simp [Mr, hb]) hx hy
theorem Qjb {xt yt : TypeId} {x y : Operand} {k : IntKind} {a b : Int} (hb : b ≠ 0) (h1 : st.ev x = .c (.p (.v (.int k a))) := by exact rfl) (h2 : st.ev y = .c (.p (.v (.int k b))) := by exact rfl) (hx : Zf x = true := by exact rfl) (hy : Zf y = true := by exact rfl) :
  ZC E N P ops ⟨some d, .binOp .rem xt x y yt, ty, pos, af, gd⟩ st ⟨[], []⟩ ⟨.c (.p (.v (.int k (a.tmod b)))), []⟩ := P7 h1 h2 (by simp [Mr, hb]) hx hy
theorem Qro {lo hi : Nat} : ((L.map f).take hi).drop lo = ((L.take hi).drop lo).map f := by simp
theorem Nu {x : Operand} {y z : Option Operand} {t el e lo hi : Nat} {tt te : TE} (h1 : st.ev x = .c (.p (.l e (L.map f)))) (hlo : Bd st y 0 lo) (hhi : Bd st z L.length hi) (hlh : lo ≤ hi) (hhl : hi ≤ L.length) (ht : Zn T.ty t = some tt) (hk : tt.kd = .slice el) (hel : Zn T.ty el = some te) (he : te.size = e) (hx : Zf x = true) :
  ZC E N P ops ⟨some d, .slice t x y z none, ty, pos, af, gd⟩ st ⟨[], []⟩ ⟨.c (.p (.l e (((L.take hi).drop lo).map f))), []⟩ := by
 have := Q5q (E := E) (N := N) (ops := ops) (d := d) (ty := ty) (pos := pos) (af := af) (gd := gd) (T := T) (lo := lo) (hi := hi) h1 hlo (by rw [List.length_map]; exact hhi) hlh (by rw [List.length_map]; exact hhl) ht hk hel he hx
 rwa [Qro] at this
theorem IB {n : Nat} : Bd st none n n := rfl
theorem A4 {x : Operand} {k : IntKind} {z : Int} {m : Nat} (h0 : 0 ≤ z) (h : st.ev x = .c (.p (.v (.int k z)))) (hc : Zf x = true) : Bd st (some x) m z.toNat := ⟨hc, k, z, h, tn h0⟩
theorem Lr [T : Tb P] {x y : Operand} {t el e : Nat} {k : IntKind} {p : Int} {tt te : TE} (hp : 0 ≤ p ∧ p ≤ L.length) (h1 : st.ev x = .c (.p (.l e (L.map f))) := by exact rfl) (h2 : st.ev y = .c (.p (.v (.int k p))) := by exact rfl) (ht : Zn T.ty t = some tt := by exact rfl) (hk : tt.kd = .slice el := by exact rfl) (hel : Zn T.ty el = some te := by exact rfl) (he : te.size = e := by exact rfl) (hx : Zf x = true := by exact rfl) (hy : Zf y = true := by exact rfl) :
  ZC E N P ops ⟨some d, .slice t x (some y) none none, ty, pos, af, gd⟩ st ⟨[], []⟩ ⟨.c (.p (.l e ((L.drop p.toNat).map f))), []⟩ := by
 have := Nu (E := E) (N := N) (ops := ops) (d := d) (ty := ty) (pos := pos) (af := af) (gd := gd) (T := T) h1 (A4 hp.1 h2 hy) IB (by have := hp.2; omega) (Nat.le_refl _) ht hk hel he hx
 rwa [List.take_length] at this
theorem Ls [T : Tb P] {x z : Operand} {t el e : Nat} {k : IntKind} {q : Int} {tt te : TE} (hp : 0 ≤ q ∧ q ≤ L.length) (h1 : st.ev x = .c (.p (.l e (L.map f))) := by exact rfl) (h2 : st.ev z = .c (.p (.v (.int k q))) := by exact rfl) (ht : Zn T.ty t = some tt := by exact rfl) (hk : tt.kd = .slice el := by exact rfl) (hel : Zn T.ty el = some te := by exact rfl) (he : te.size = e := by exact rfl) (hx : Zf x = true := by exact rfl) (hy : Zf z = true := by exact rfl) :
  ZC E N P ops ⟨some d, .slice t x none (some z) none, ty, pos, af, gd⟩ st ⟨[], []⟩ ⟨.c (.p (.l e ((L.take q.toNat).map f))), []⟩ := by
 have := Nu (E := E) (N := N) (ops := ops) (d := d) (ty := ty) (pos := pos) (af := af) (gd := gd) (T := T) h1 IB (A4 hp.1 h2 hy) (Nat.zero_le _) (by have := hp.2; omega) ht hk hel he hx
 simpa using this
theorem Gq [T : Tb P] {x y z : Operand} {t el e : Nat} {k k' : IntKind} {p q : Int} {tt te : TE} (hp : 0 ≤ p ∧ p ≤ q ∧ q ≤ L.length) (h1 : st.ev x = .c (.p (.l e (L.map f))) := by exact rfl) (h2 : st.ev y = .c (.p (.v (.int k p))) := by exact rfl) (h3 : st.ev z = .c (.p (.v (.int k' q))) := by exact rfl) (ht : Zn T.ty t = some tt := by exact rfl) (hk : tt.kd = .slice el := by exact rfl) (hel : Zn T.ty el = some te := by exact rfl) (he : te.size = e := by exact rfl) (hx : Zf x = true := by exact rfl) (hy : Zf y = true := by exact rfl) (hz : Zf z = true := by exact rfl) :
  ZC E N P ops ⟨some d, .slice t x (some y) (some z) none, ty, pos, af, gd⟩ st ⟨[], []⟩ ⟨.c (.p (.l e (((L.take q.toNat).drop p.toNat).map f))), []⟩ :=
 Nu h1 (A4 hp.1 h2 hy) (A4 (by omega) h3 hz) (by omega) (by omega) ht hk hel he hx
theorem PH {x y : Operand} {t : Nat} {k : IntKind} {p : Int} {s : ByteArray} {tt : TE} (hp : 0 ≤ p ∧ p ≤ s.size) (h1 : st.ev x = .c (.p (.v (.string s)))) (h2 : st.ev y = .c (.p (.v (.int k p)))) (ht : Zn T.ty t = some tt) (hk : tt.kd = .string) (hx : Zf x = true) (hy : Zf y = true) :
  ZC E N P ops ⟨some d, .slice t x (some y) none none, ty, pos, af, gd⟩ st ⟨[], []⟩ ⟨.c (.p (.v (.string (s.extract p.toNat s.size)))), []⟩ := F6 h1 (A4 hp.1 h2 hy) IB (by have := hp.2; omega) (Nat.le_refl _) ht hk hx
theorem PI {x z : Operand} {t : Nat} {k : IntKind} {q : Int} {s : ByteArray} {tt : TE} (hp : 0 ≤ q ∧ q ≤ s.size) (h1 : st.ev x = .c (.p (.v (.string s)))) (h2 : st.ev z = .c (.p (.v (.int k q)))) (ht : Zn T.ty t = some tt) (hk : tt.kd = .string) (hx : Zf x = true) (hy : Zf z = true) :
  ZC E N P ops ⟨some d, .slice t x none (some z) none, ty, pos, af, gd⟩ st ⟨[], []⟩ ⟨.c (.p (.v (.string (s.extract 0 q.toNat)))), []⟩ := F6 h1 IB (A4 hp.1 h2 hy) (Nat.zero_le _) (by have := hp.2; omega) ht hk hx
theorem Lt {x y z : Operand} {t : Nat} {k k' : IntKind} {p q : Int} {s : ByteArray} {tt : TE} (hp : 0 ≤ p ∧ p ≤ q ∧ q ≤ s.size) (h1 : st.ev x = .c (.p (.v (.string s)))) (h2 : st.ev y = .c (.p (.v (.int k p)))) (h3 : st.ev z = .c (.p (.v (.int k' q)))) (ht : Zn T.ty t = some tt) (hk : tt.kd = .string) (hx : Zf x = true) (hy : Zf y = true) (hz : Zf z = true) :
  ZC E N P ops ⟨some d, .slice t x (some y) (some z) none, ty, pos, af, gd⟩ st ⟨[], []⟩ ⟨.c (.p (.v (.string (s.extract p.toNat q.toNat)))), []⟩ := F6 h1 (A4 hp.1 h2 hy) (A4 (by omega) h3 hz) (by omega) (by omega) ht hk hx
theorem Q1d [T : Tb P] {x y : Operand} {t el e off m : Nat} {b : Qw} {mu : Bool} {rows : List (List PV)} {k : IntKind} {p : Int} {tt te : TE} (hp : 0 ≤ p ∧ p ≤ m) (h1 : st.ev x = .c (.sl b off m) := by exact rfl) (hb : st.h b = some (.row e rows mu) := by exact rfl) (h2 : st.ev y = .c (.p (.v (.int k p))) := by exact rfl) (ht : Zn T.ty t = some tt := by exact rfl) (hk : tt.kd = .slice el := by exact rfl) (hel : Zn T.ty el = some te := by exact rfl) (he : te.size = e := by exact rfl) (hx : Zf x = true := by exact rfl) (hy : Zf y = true := by exact rfl) :
  ZC E N P ops ⟨some d, .slice t x (some y) none none, ty, pos, af, gd⟩ st ⟨[b], []⟩ ⟨.c (.sl b (off + p.toNat) (m - p.toNat)), []⟩ := Gk h1 hb (A4 hp.1 h2 hy) IB (by have := hp.2; omega) (Nat.le_refl _) ht hk hel he rfl rfl hx
theorem Q1e [T : Tb P] {x z : Operand} {t el e off m : Nat} {b : Qw} {mu : Bool} {rows : List (List PV)} {k : IntKind} {q : Int} {tt te : TE} (hp : 0 ≤ q ∧ q ≤ m) (h1 : st.ev x = .c (.sl b off m) := by exact rfl) (hb : st.h b = some (.row e rows mu) := by exact rfl) (h2 : st.ev z = .c (.p (.v (.int k q))) := by exact rfl) (ht : Zn T.ty t = some tt := by exact rfl) (hk : tt.kd = .slice el := by exact rfl) (hel : Zn T.ty el = some te := by exact rfl) (he : te.size = e := by exact rfl) (hx : Zf x = true := by exact rfl) (hy : Zf z = true := by exact rfl) :
  ZC E N P ops ⟨some d, .slice t x none (some z) none, ty, pos, af, gd⟩ st ⟨[b], []⟩ ⟨.c (.sl b off q.toNat), []⟩ := Gk h1 hb IB (A4 hp.1 h2 hy) (Nat.zero_le _) (by have := hp.2; omega) ht hk hel he (Nat.add_zero _) (Nat.sub_zero _) hx
theorem Nv {x y z : Operand} {t el e off m : Nat} {b : Qw} {mu : Bool} {rows : List (List PV)} {k k' : IntKind} {p q : Int} {tt te : TE} (hp : 0 ≤ p ∧ p ≤ q ∧ q ≤ m) (h1 : st.ev x = .c (.sl b off m)) (hb : st.h b = some (.row e rows mu)) (h2 : st.ev y = .c (.p (.v (.int k p)))) (h3 : st.ev z = .c (.p (.v (.int k' q)))) (ht : Zn T.ty t = some tt) (hk : tt.kd = .slice el) (hel : Zn T.ty el = some te) (he : te.size = e) (hx : Zf x = true) (hy : Zf y = true) (hz : Zf z = true) :
  ZC E N P ops ⟨some d, .slice t x (some y) (some z) none, ty, pos, af, gd⟩ st ⟨[b], []⟩ ⟨.c (.sl b (off + p.toNat) (q.toNat - p.toNat)), []⟩ := Gk h1 hb (A4 hp.1 h2 hy) (A4 (by omega) h3 hz) (by omega) (by omega) ht hk hel he rfl rfl hx
def Q61 (E : En) (N : Nat) (P : Program) (ops : Array Oper) (o : Oper) (st : St) (rb : List Qw) (tx : TypeId) (e : Nat) (y : Operand) (f : α → List PV) (L : List α) : Prop := Q5t E N P ops o st rb tx e y (L.map f)
theorem Af [T : Tb P] {y : Operand} {tx e' : TypeId} {e : Nat} {tt : TE} (hm : y ∈ o.op.operands.toList) (hy : Zf y = true := by exact rfl) (h1 : st.ev y = .c (.p (.l e (L.map f))) := by exact rfl) (he : Nat.blt 0 e = true := by exact rfl) (ht : Zn T.ty tx = some tt := by exact rfl) (hk : tt.kd = .slice e' := by exact rfl) : Q61 E N P ops o st [] tx e y f L := Qze hm hy h1 (Nat.le_of_ble_eq_true he) ht hk
theorem K4 [T : Tb P] {y : Operand} {tx e' : TypeId} {e m : Nat} {b : Qw} {tt : TE} {mu : Bool} (hm : y ∈ o.op.operands.toList) (hy : Zf y = true := by exact rfl) (h1 : st.ev y = .c (.sl b 0 m) := by exact rfl) (hb : st.h b = some (.row e (L.map f) mu) := by exact rfl) (hl : (L.map f).length = m := by exact rfl) (ht : Zn T.ty tx = some tt := by exact rfl) (hk : tt.kd = .slice e' := by exact rfl) : Q61 E N P ops o st [b] tx e y f L := by
 have := Qcq (E := E) (N := N) (P := P) (ops := ops) hm hy h1 hb ht hk
 rw [List.drop_zero, ← hl, List.take_length] at this
 exact this
theorem Xz {y : Operand} {tx e' : TypeId} {e off m : Nat} {b : Qw} {tt : TE} {mu : Bool} (hm : y ∈ o.op.operands.toList) (hy : Zf y = true) (h1 : st.ev y = .c (.sl b off m)) (hb : st.h b = some (.row e (L.map f) mu)) (ht : Zn T.ty tx = some tt) (hk : tt.kd = .slice e') : Q61 E N P ops o st [b] tx e y f ((L.drop off).take m) := by
 have := Qcq (E := E) (N := N) (P := P) (ops := ops) hm hy h1 hb ht hk
 rw [← List.map_drop, ← List.map_take] at this
 exact this
theorem XA [T : Tb P] {y : Operand} {tx : TypeId} {tt : TE} {s : ByteArray} (hm : y ∈ o.op.operands.toList) (hy : Zf y = true := by exact rfl) (h1 : st.ev y = .c (.p (.v (.string s))) := by exact rfl) (ht : Zn T.ty tx = some tt := by exact rfl) (hk : tt.kd = .string := by exact rfl) : Q61 E N P ops o st [] tx 1 y (eI .u8) (sI s) := Qit hm hy h1 ht hk
theorem XB {y : Operand} {tx e' : TypeId} {e : Nat} {tt : TE} (hm : y ∈ o.op.operands.toList) (hy : Zf y = true) (h1 : st.ev y = .c (.p (.v (.slice none 0 0)))) (ht : Zn T.ty tx = some tt) (hk : tt.kd = .slice e') : Q61 E N P ops o st [] tx e y f [] := Qis hm hy h1 ht hk
theorem DL [T : Tb P] {x y : Operand} {t tx el : TypeId} {te tt : TE} {e by' : Nat} {rb : List Qw} (hb : L.length * by' ≤ 140737488355328) (hx : st.ev x = .c (.p (.v (.slice none 0 0))) := by exact rfl) (hcx : Zf x = true := by exact rfl) (ht : Zn T.ty t = some tt := by exact rfl) (hk : tt.kd = .slice el := by exact rfl) (hel : Zn T.ty el = some te := by exact rfl) (hes : te.size = e := by exact rfl) (hbt : te.bytes = by' := by exact rfl) (hpos : Nat.blt 0 by' = true := by exact rfl) (he : Nat.blt 0 e = true := by exact rfl) (hz : te.zero.cells.size = e := by exact rfl)
  (hsrc : Q61 E N P ops ⟨some d, .call { callee := .builtin .append, args := #[x, y], argTypes := #[t, tx] }, ty, pos, af, gd⟩ st rb tx e y f L) :
  ZC E N P ops ⟨some d, .call { callee := .builtin .append, args := #[x, y], argTypes := #[t, tx] }, ty, pos, af, gd⟩ st ⟨rb, [(d, 0)]⟩ ⟨.c (.sl (d, 0) 0 (L.map f).length), [((d, 0), some (.row e (L.map f) true))]⟩ :=
 Q5u hx hcx ht hk hel hes (Nat.le_of_ble_eq_true he) hz hsrc (by rw [List.length_map]; exact Nat.le_trans (Nat.le_mul_of_pos_right _ (Nat.le_of_ble_eq_true hpos)) hb) (by rw [List.length_map, hbt]; exact hb)
theorem G0 [T : Tb P] {x y : Operand} {t tx el : TypeId} {te tt : TE} {e m by' : Nat} {b : Qw} {rb : List Qw} (hby : (L.length + L'.length) * by' ≤ 140737488355328) (hx : st.ev x = .c (.sl b 0 m) := by exact rfl) (hcx : Zf x = true := by exact rfl) (hb : st.h b = some (.row e (L.map f) true) := by exact rfl) (hm : (L.map f).length = m := by exact rfl) (ht : Zn T.ty t = some tt := by exact rfl) (hk : tt.kd = .slice el := by exact rfl) (hel : Zn T.ty el = some te := by exact rfl) (hes : te.size = e := by exact rfl) (hbt : te.bytes = by' := by exact rfl) (hpos : Nat.blt 0 by' = true := by exact rfl) (hz : te.zero.cells.size = e := by exact rfl)
  (hsrc : Q61 E N P ops ⟨some d, .call { callee := .builtin .append, args := #[x, y], argTypes := #[t, tx] }, ty, pos, af, gd⟩ st rb tx e y f L') :
  ZC E N P ops ⟨some d, .call { callee := .builtin .append, args := #[x, y], argTypes := #[t, tx] }, ty, pos, af, gd⟩ st ⟨b :: rb, [(d, 0)]⟩ ⟨.c (.sl (d, 0) 0 ((L ++ L').map f).length), [((d, 0), some (.row e ((L ++ L').map f) true)), (b, none)]⟩ := by
 have hb2 : L.length + L'.length ≤ 140737488355328 := Nat.le_trans (Nat.le_mul_of_pos_right _ (Nat.le_of_ble_eq_true hpos)) hby
 exact Q9t hx hcx hb hm ht hk hel hes hz hsrc (List.map_append).symm (by rw [← hm]; simp) (by simpa using hb2) (by rw [hbt]; simpa using hby)
theorem Lu [T : Tb P] {x : Operand} {s t e : TypeId} {ts te tt : TE} {l : List Int} (h1 : st.ev x = .c (.p (.l 1 (l.map (eI .u8)))) := by exact rfl) (hs : Zn T.ty s = some ts := by exact rfl) (hsk : ts.kd = .slice e := by exact rfl) (he : Zn T.ty e = some te := by exact rfl) (hek : te.kd = .int .u8 := by exact rfl) (ht : Zn T.ty t = some tt := by exact rfl) (htk : tt.kd = .string := by exact rfl) (hx : Zf x = true := by exact rfl) :
  ZC E N P ops ⟨some d, .convert s t x, ty, pos, af, gd⟩ st ⟨[], []⟩ ⟨.c (.p (.v (.string (strOfNums l)))), []⟩ := Q15 h1 rfl hs hsk he hek ht htk hx
theorem HO [T : Tb P] {x : Operand} {s t e : TypeId} {ts te tt : TE} {b : Qw} {m : Nat} {mu : Bool} {l : List Int} (h1 : st.ev x = .c (.sl b 0 m) := by exact rfl) (hb : st.h b = some (.row 1 (l.map (eI .u8)) mu) := by exact rfl) (hm : (l.map (eI .u8)).length = m := by exact rfl) (hs : Zn T.ty s = some ts := by exact rfl) (hsk : ts.kd = .slice e := by exact rfl) (he : Zn T.ty e = some te := by exact rfl) (hek : te.kd = .int .u8 := by exact rfl) (ht : Zn T.ty t = some tt := by exact rfl) (htk : tt.kd = .string := by exact rfl) (hx : Zf x = true := by exact rfl) :
  ZC E N P ops ⟨some d, .convert s t x, ty, pos, af, gd⟩ st ⟨[b], []⟩ ⟨.c (.p (.v (.string (strOfNums l)))), []⟩ := by
 have := Sz (E := E) (N := N) (ops := ops) (d := d) (ty := ty) (pos := pos) (af := af) (gd := gd) (T := T) h1 hb rfl hs hsk he hek ht htk hx
 rw [List.length_map] at hm
 rwa [List.drop_zero, ← hm, List.take_length] at this
theorem Qd0 {n : Nat} {x : α} : (L.map f).set n (f x) = (L.set n x).map f := by rw [List.map_set]
theorem Cb {n : Nat} {x y : α} (h : L[n]? = some y) : (L.set n x)[n]? = some x := by
 rw [List.getElem?_set, if_pos rfl, if_pos (List.getElem?_eq_some_iff.1 h).1]
theorem Q62 [T : Tb P] {x y : Operand} {t : TypeId} {te : TE} {b : Qw} {i k e : Nat} {x0 x1 : α} {ps : List PV} {v : TV} {dst : Option Nat} (hi : L[i]? = some x0 := by exact rfl) (hx : st.ev x = .c (.ptr b i k) := by exact rfl) (hb : st.h b = some (.row e (L.map f) true) := by exact rfl) (hv : st.ev y = v := by exact rfl) (hk : v.known = true := by exact rfl) (hps : pvs v.cells = some ps := by exact rfl)
  (ht : Zn T.ty t = some te := by exact rfl) (hsz : ps.length = te.size := by exact rfl) (hin : Nat.ble (k + ps.length) e = true := by exact rfl) (hr' : setAt (f x0) k ps = f x1 := by exact rfl) (hcx : Zf x = true := by exact rfl) (hcy : Zf y = true := by exact rfl) :
  ZC E N P ops ⟨dst, .store t x y, ty, pos, af, gd⟩ st ⟨[b], []⟩ ⟨.c .any, [(b, some (.row e ((L.set i x1).map f) true))]⟩ :=
 SA hx hb (gm hi) hv hk (Qa3 hps) ht hsz (Nat.le_of_ble_eq_true hin) hr' Qd0 hcx hcy
end
theorem YZ {α : Type} {l : List α} {n : Nat} (h : l.length = n) : (l.drop 0).take n = l := by subst h; simp
theorem Qzm {α β : Type} {f : α → β} {l : List α} {i n : Nat} : ((l.map f).drop i).take n = ((l.drop i).take n).map f := by simp
theorem Qrp {α β : Type} {f : α → β} {l : List α} {n : Nat} : ((l.map f).drop 0).take n = (l.take n).map f := by simp
theorem Oa {st : St} {g : Bool} {t : TV} {x : AV} {bs : List Qw} (hg : g = true) (h : ToA st t x bs) : ToA st (gt g t) x bs := by rw [QT hg]; exact h
theorem Oc {a b : Bool} (h : (a && b) = true) : a = true := by simp at h; exact h.1
theorem Z2 {a b : Bool} : (a && (b == true)) = (a && b) := by cases b <;> simp
theorem DT {a b : Bool} : (a && (b == false)) = (a && !b) := by cases b <;> simp
theorem XY {a b : Bool} (h : a = true) : (b == true) = (a && b) := by subst h; cases b <;> rfl
theorem HP {a b : Bool} (h : a = true) : (b == false) = (a && !b) := by subst h; cases b <;> rfl
theorem Q0c {b : Bool} {x y : ByteArray} : (bif b then Value.string x else Value.string y) = .string (bif b then x else y) := by cases b <;> rfl
theorem Q0d {b : Bool} {k : IntKind} {x y : Int} : (bif b then Value.int k x else Value.int k y) = .int k (bif b then x else y) := by cases b <;> rfl
theorem Qy {x y : Operand} {ats : Array TypeId} : y ∈ (Op.call { callee := .builtin .append, args := #[x, y], argTypes := ats }).operands.toList := by simp [Op.operands, Call.operands]
def eL {α : Type} (e : Nat) (f : α → List PV) (l : List α) : List PV := [.l e (l.map f)]
theorem Qrq {α : Type} {f : α → List PV} (h : ∀ x, (f x).all noL = true) {L : List α} : ∀ r ∈ L.map f, ∀ p ∈ r, noL p = true := by
 intro r hr p hp
 obtain ⟨x, _, rfl⟩ := List.mem_map.1 hr
 exact List.all_eq_true.1 (h x) p hp
inductive Qzn : RV → Prop
 | p {x : PV} (h : noL x = true) : Qzn (.p x)
 | o {e : Nat} {rows : List (List PV)} (h : ∀ r ∈ rows, ∀ p ∈ r, noL p = true) : Qzn (.own e rows)
inductive UD : List RV → Prop
 | nil : UD []
 | cons {x : RV} {l : List RV} (h : Qzn x) (hs : UD l) : UD (x :: l)
theorem MD {cs : List RV} (h : UD cs) : NoLs cs := by
 induction h with
 | nil => exact fun x hx => by cases hx
 | cons h hs ih =>
  intro x hx
  rcases List.mem_cons.1 hx with rfl | hx
  ·cases h with
   | p h => exact h
   | o h => exact h
  ·exact ih x hx
section
variable {P : Program} {T : Tb P} {st : St} {k0 : Nat}
theorem Pz.p {x : PV} (h : st.g k0 = .c (.p x)) : Pz T st (.tmp k0) (.c (.p x)) := .tmpc h (by simp)
theorem Pz.s {b : Qw} {off n : Nat} (h : st.g k0 = .c (.sl b off n)) : Pz T st (.tmp k0) (.c (.sl b off n)) := .tmpc h (by simp)
end
section
variable {α : Type} {f : α → List PV} {L L' : List α} {E : En} {N : Nat} {P : Program} {T : Tb P} {ops : Array Oper} {o : Oper} {st : St} {d : Nat} {ty : Nat} {pos : String} {af : Array Edge} {gd : Option (Nat × Bool)} {cx : Cx} {a : Act} {w w' : World} {fr : List (Nat × TV)} {H : List (Qw × Option Bk)}
theorem Uw {f : FuncId} {xs : Array Operand} {tys : Array TypeId} {avs : List AV} {r : List RS} {t : TV} (hcon : Va P f avs r []) (hn : avs.any AV.isRef = false := by exact rfl) (hok : xs.toList.all Zf = true := by exact rfl) (hargs : MA st (xs.toList.map st.ev) avs []) (hids : (AX d 0 (QP r)).map (·.1) = [] := by exact rfl) (hbl : AX d 0 (QP r) ++ YJ st [] = [] := by exact rfl) (ht : IG d r = t := by exact rfl) :
  ZC E N P ops ⟨some d, .call { callee := .value (.func f), args := xs, argTypes := tys }, ty, pos, af, gd⟩ st ⟨[], []⟩ ⟨t, []⟩ := HL hcon hn hok hargs hids hbl ht
theorem Qzo [T : Tb P] {xt yt : TypeId} {x y : Operand} {b c : Bool} {te : TE} (h1 : st.ev x = .c (.p (.v (.bool b))) := by exact rfl) (h2 : st.ev y = .c (.p (.v (.bool c))) := by exact rfl) (ht : Zn T.ty xt = some te := by exact rfl) (hk : te.kd = .bool := by exact rfl) (hx : Zf x = true := by exact rfl) (hy : Zf y = true := by exact rfl) :
  ZC E N P ops ⟨some d, .binOp .eql xt x y yt, ty, pos, af, gd⟩ st ⟨[], []⟩ ⟨.c (.p (.v (.bool (b == c)))), []⟩ :=
 Z8 fun st' cx a' w ha hr => by
  obtain ⟨e1, w1⟩ := Gh h1 hx ha (by simp [Op.operands]) hr
  obtain ⟨e2, w2⟩ := Gh h2 hy ha (by simp [Op.operands]) hr
  obtain ⟨dd, i, g1, g2, g3, g4, g5, g6⟩ := YI (T.ok _ _ ht)
  have hu : P.underlying xt = some .bool := by rw [g1]; rw [hk] at g3; cases dd <;> simp_all [Oj]
  refine ⟨.bool (b == c), ?_, .inr rfl, .v _ rfl⟩
  simp only [execOp, e1, e2, Sem.run_bind, HH, Result.andThen_ok, binOp, Op.equal, Op.maxDepth, run_equalIn_bool' w _ _ _ _ hu, Sem.run_pure]
theorem Qzp [T : Tb P] {xt yt : TypeId} {x y : Operand} {b c : Bool} {te : TE} (h1 : st.ev x = .c (.p (.v (.bool b))) := by exact rfl) (h2 : st.ev y = .c (.p (.v (.bool c))) := by exact rfl) (ht : Zn T.ty xt = some te := by exact rfl) (hk : te.kd = .bool := by exact rfl) (hx : Zf x = true := by exact rfl) (hy : Zf y = true := by exact rfl) :
  ZC E N P ops ⟨some d, .binOp .neq xt x y yt, ty, pos, af, gd⟩ st ⟨[], []⟩ ⟨.c (.p (.v (.bool (!(b == c))))), []⟩ :=
 Z8 fun st' cx a' w ha hr => by
  obtain ⟨e1, w1⟩ := Gh h1 hx ha (by simp [Op.operands]) hr
  obtain ⟨e2, w2⟩ := Gh h2 hy ha (by simp [Op.operands]) hr
  obtain ⟨dd, i, g1, g2, g3, g4, g5, g6⟩ := YI (T.ok _ _ ht)
  have hu : P.underlying xt = some .bool := by rw [g1]; rw [hk] at g3; cases dd <;> simp_all [Oj]
  refine ⟨.bool (!(b == c)), ?_, .inr rfl, .v _ rfl⟩
  simp only [execOp, e1, e2, Sem.run_bind, HH, Result.andThen_ok, binOp, Op.equal, Op.maxDepth, run_equalIn_bool' w _ _ _ _ hu, Sem.run_pure]
def Lv (P : Program) : Nat → List Field → List Value → List Value → Bool
 | _, [], [], [] => true
 | i, f :: fs, x :: xs, y :: ys => f.name != "_" && Nat.beq f.offset i && (match P.underlying f.type, x, y with
  | some (.int _), .int k _, .int k' _ => decide (k = k')
  | some .bool, .bool _, .bool _ => true
  | some .string, .string _, .string _ => true
  | _, _, _ => false) && Lv P (i + 1) fs xs ys
 | _, _, _, _ => false
def Q0e (P : Program) (t : TypeId) (xs ys : List Value) : Bool := match P.underlying t with
 | some (.struct fs) => Lv P 0 fs.toList xs ys && !P.stoodInHeld t && !P.eqGuardType P.depth t
 | _ => false
def Qa6 : TypeDesc → Bool
 | .int _ | .bool | .string => true
 | _ => false
theorem Q0f {e : TypeId} {dsc : TypeDesc} (hu : P.underlying e = some dsc) (ha : Qa6 dsc = true) {xs : Array Value} {i : Nat} {v : Value} (hx : xs[i]? = some v) : (part e xs i).run P w = .ok v w := by
 cases dsc <;> simp [Qa6] at ha <;> simp [part, isAgg, run_underlying hu, hx]
theorem Q1f {xs ys : Array Value} : ∀ (fs : List Field) (i : Nat) (us vs : List Value), Lv P i fs us vs = true → xs.toList.drop i = us → ys.toList.drop i = vs → (Op.eqFields 9999 xs ys fs).run P w = .ok (Q1b us vs) w := by
 intro fs
 induction fs with
 | nil =>
  intro i us vs h h1 h2
  cases us <;> cases vs <;> simp [Lv] at h
  simp [Op.eqFields, Q1b, Sem.run_pure]
 | cons f fs ih =>
  intro i us vs h h1 h2
  cases us with
  | nil => simp [Lv] at h
  | cons u us =>
   cases vs with
   | nil => simp [Lv] at h
   | cons v vs =>
    simp only [Lv, Bool.and_eq_true] at h
    obtain ⟨⟨⟨hn, hi⟩, hk⟩, hr⟩ := h
    have hi := Nat.eq_of_beq_eq_true hi
    have hu : xs[i]? = some u := by have := congrArg (·[0]?) h1; simpa [List.getElem?_drop] using this
    have hv : ys[i]? = some v := by have := congrArg (·[0]?) h2; simpa [List.getElem?_drop] using this
    have h1' : xs.toList.drop (i + 1) = us := by rw [← List.drop_drop, h1]; rfl
    have h2' : ys.toList.drop (i + 1) = vs := by rw [← List.drop_drop, h2]; rfl
    have hih := ih (i + 1) us vs hr h1' h2'
    have hne : f.name ≠ "_" := by simpa using hn
    have key : ∃ dsc, P.underlying f.type = some dsc ∧ Qa6 dsc = true ∧ (Op.equalIn 9999 f.type u v).run P w = .ok (eqV u v) w := by
     split at hk
     ·rename_i k0 k a k' b hd
      have := of_decide_eq_true hk; subst this
      exact ⟨_, hd, rfl, run_equalIn_int w 9998 _ _ _ _ _ hd⟩
     ·rename_i a b hd
      exact ⟨_, hd, rfl, run_equalIn_bool' w 9998 _ _ _ hd⟩
     ·rename_i a b hd
      exact ⟨_, hd, rfl, run_equalIn_string w 9998 _ _ _ hd⟩
     ·cases hk
    obtain ⟨dsc, hd, ha, he⟩ := key
    simp only [Op.eqFields, if_pos hne, Sem.run_bind, hi, Q0f hd ha hu, Q0f hd ha hv, Result.andThen_ok, he, Q1b]
    cases heq : eqV u v
    ·simp [Sem.run_pure]
    ·simp [hih]
theorem Qd1 {t : TypeId} {us vs : List Value} (h : Q0e P t us vs = true) : (Op.equalIn 10000 t (.agg us.toArray) (.agg vs.toArray)).run P w = .ok (Q1b us vs) w ∧ P.eqGuardType P.depth t = false := by
 unfold Q0e at h
 split at h
 ·rename_i fs hu
  simp only [Bool.and_eq_true, Bool.not_eq_true'] at h
  obtain ⟨⟨h1, h2⟩, h3⟩ := h
  have hfo : P.fieldsOf t = fs := by unfold Program.fieldsOf; rw [hu]
  refine ⟨?_, h3⟩
  rw [run_equalIn_struct w 9999 t _ _ (by rw [hfo]; exact hu) h2, hfo]
  exact Q1f fs.toList 0 us vs h1 rfl rfl
 ·cases h
theorem ME {st' : St} {x : Operand} {us : List Value} {f : Fp} (hx : st.ev x = .agg (us.map fun v => .p (.v v))) (hc : Zf x = true) (ha : Agree ops o f st st') (hm : x ∈ o.op.operands.toList) (hr : Xx E N cx st' a w) : a.eval x = .agg us.toArray := by
 have := hr.ev hc
 rw [JK ha hm, hx] at this
 obtain ⟨vs, h1, h2, h3⟩ := this
 rw [h1]
 have key : vs = us.toArray := by
  apply Array.ext_getElem?
  intro i
  cases hu : us[i]? with
  | none =>
   have h4 : us.length ≤ i := by simpa using hu
   rw [Array.getElem?_eq_none (by rw [h2]; simpa using h4), List.getElem?_toArray, hu]
  | some u =>
   obtain ⟨v, h5, h6, h7⟩ := h3 i (.p (.v u)) (by rw [List.getElem?_map, hu]; rfl)
   rw [h5, List.getElem?_toArray, hu]
   cases h7 with | v _ _ => rfl
 rw [key]
theorem Qzq {xt yt : TypeId} {x y : Operand} {us vs : List Value} {c : Bool} {cx1 cy1 : List CV} (h1 : st.ev x = .agg cx1 := by exact rfl) (h2 : st.ev y = .agg cy1 := by exact rfl) (hf : Q0e P xt us vs = true := by exact rfl) (he : Q1b us vs = c := by exact rfl) (hcx : cx1 = us.map fun v => .p (.v v) := by exact rfl) (hcy : cy1 = vs.map fun v => .p (.v v) := by exact rfl) (hx : Zf x = true := by exact rfl) (hy : Zf y = true := by exact rfl) (htr : true = true := by exact rfl) :
  ZC E N P ops ⟨some d, .binOp .eql xt x y yt, ty, pos, af, gd⟩ st ⟨[], []⟩ ⟨.c (.p (.v (.bool c))), []⟩ :=
 Z8 fun st' cx a' w ha hr => by
  subst hcx hcy he
  have e1 := ME h1 hx ha (by simp [Op.operands]) hr
  have e2 := ME h2 hy ha (by simp [Op.operands]) hr
  obtain ⟨h3, h4⟩ := Qd1 (w := w) hf
  refine ⟨_, ?_, .inr rfl, .v _ rfl⟩
  simp only [execOp, e1, e2, Sem.run_bind, run_eqGuard_agg w _ _ _ _ _ _ h4, Result.andThen_ok, run_eql_struct, h3, Sem.run_pure]
theorem Qa7 {xt yt : TypeId} {x y : Operand} {us vs : List Value} {c : Bool} {cx1 cy1 : List CV} (h1 : st.ev x = .agg cx1 := by exact rfl) (h2 : st.ev y = .agg cy1 := by exact rfl) (hf : Q0e P xt us vs = true := by exact rfl) (he : (!Q1b us vs) = c := by exact rfl) (hcx : cx1 = us.map fun v => .p (.v v) := by exact rfl) (hcy : cy1 = vs.map fun v => .p (.v v) := by exact rfl) (hx : Zf x = true := by exact rfl) (hy : Zf y = true := by exact rfl) (htr : true = true := by exact rfl) :
  ZC E N P ops ⟨some d, .binOp .neq xt x y yt, ty, pos, af, gd⟩ st ⟨[], []⟩ ⟨.c (.p (.v (.bool c))), []⟩ :=
 Z8 fun st' cx a' w ha hr => by
  subst hcx hcy he
  have e1 := ME h1 hx ha (by simp [Op.operands]) hr
  have e2 := ME h2 hy ha (by simp [Op.operands]) hr
  obtain ⟨h3, h4⟩ := Qd1 (w := w) hf
  refine ⟨_, ?_, .inr rfl, .v _ rfl⟩
  simp only [execOp, e1, e2, Sem.run_bind, run_eqGuard_agg w _ _ _ _ _ _ h4, Result.andThen_ok, run_neq_struct, h3, Sem.run_pure]
end
inductive Cr (st : St) : CV → PV → Prop
 | k (x : PV) : Cr st (.p x) x
 | nil (e : Nat) : Cr st (.p (.v (.slice none 0 0))) (.l e [])
 | fr {b : Qw} {e off n : Nat} {rows rows' : List (List PV)} (hb : st.h b = some (.row e rows false)) (hr : (rows.drop off).take n = rows') : Cr st (.sl b off n) (.l e rows')
inductive Crs (st : St) : List CV → List PV → Prop
 | nil : Crs st [] []
 | cons {c : CV} {x : PV} {cs : List CV} {xs : List PV} (h : Cr st c x) (hs : Crs st cs xs) : Crs st (c :: cs) (x :: xs)
theorem Crs.agree {st st' : St} {cs : List CV} {xs : List PV} (h : Crs st cs xs) (ha : ∀ b ∈ AJ cs, st'.h b = st.h b) : Crs st' cs xs := by
 induction h with
 | nil => exact .nil
 | @cons c x cs xs h hs ih =>
  have h1 : ∀ b ∈ c.ment, st'.h b = st.h b := fun b hb => ha b (by unfold AJ; rw [List.flatMap_cons]; exact List.mem_append_left _ hb)
  refine .cons ?_ (ih fun b hb => ha b (by unfold AJ at hb ⊢; rw [List.flatMap_cons]; exact List.mem_append_right _ hb))
  cases h with
  | k => exact .k _
  | nil e => exact .nil e
  | @fr b e off n rows rows' hb hr => exact .fr (by rw [h1 b (by simp [CV.ment])]; exact hb) hr
theorem Crs.cts {st : St} {cs : List CV} {xs : List PV} (h : Crs st cs xs) : Cts st cs (xs.map .p) := by
 induction h with
 | nil => exact .nil
 | cons h hs ih =>
  refine .cons ?_ ih
  cases h with
  | k => exact .k _
  | nil e => exact .nil e
  | fr hb hr => exact .fr hb hr
section
variable {E : En} {N : Nat} {P : Program} {T : Tb P} {ops : Array Oper} {o : Oper} {st : St} {d : Nat} {ty : Nat} {pos : String} {af : Array Edge} {gd : Option (Nat × Bool)} {cx : Cx} {a : Act} {w w' : World}
theorem Qa8 {cs : List CV} {xs : List PV} {vs : Array Value} (hr : Xx E N cx st a w) (h : Crs st cs xs) (hc : RL cx w st.h cs vs) : RL cx w st.h (xs.map .p) vs := Qj8 hr h.cts hc
theorem Q63 [T : Tb P] {parts : Array (Nat × Operand)} {t e n sz : Nat} {tt te : TE} {zs : List Value} {cs : List CV} {ps : List PV} {rows : List (List PV)} (ht : Zn T.ty t = some tt := by exact rfl) (hk : tt.kd = .slice e := by exact rfl) (hel : Zn T.ty e = some te := by exact rfl) (hsz : te.size = sz := by exact rfl) (hpos : Nat.blt 0 (n * sz) = true := by exact rfl) (hsm : Nat.ble (n * sz) 16777216 = true := by exact rfl)
  (hz : te.zero.cells.toList = zs := by exact rfl) (hat : zs.all Jm = true := by exact rfl) (hf : La (fun i => some (i * sz, sz)) ((List.range (n * sz)).map fun i => .p (.v (zs.getD (i % zs.length) undef))) (parts.toList.map fun x => (x.1, st.ev x.2)) = some cs := by exact rfl) (hct : Crs st cs ps) (hrows : FY sz n ps = rows := by exact rfl)
  (hzl : zs.length = sz := by exact rfl) (hok : parts.toList.all (fun x => Zf x.2) = true := by exact rfl) :
  ZC E N P ops ⟨some d, .buildSlice t n parts, ty, pos, af, gd⟩ st ⟨AJ cs, [(d, 0)]⟩ ⟨.c (.sl (d, 0) 0 n), [((d, 0), some (.row sz rows true))]⟩ := by
 intro st' ha hfr hd cx a w Q hr
 have hpos := Nat.le_of_ble_eq_true hpos
 have hsm := Nat.le_of_ble_eq_true hsm
 have hn0 : 0 < n := Nat.pos_of_ne_zero (fun h => by rw [h] at hpos; omega)
 have hsz0 : 0 < sz := Nat.pos_of_ne_zero (fun h => by rw [h] at hpos; omega)
 have hu := KN ht hk
 obtain ⟨dd', i', h1', h2', h3', h4', h5', h6'⟩ := YI (T.ok _ _ hel)
 have hm : ∀ x ∈ parts.toList, x.2 ∈ (Op.buildSlice t n parts).operands.toList := fun x hx => by
  simp only [Op.operands, Array.toList_map, List.mem_map]; exact ⟨x, hx, rfl⟩
 have hz0 : RL cx w st'.h ((List.range (n * sz)).map fun i => .p (.v (zs.getD (i % zs.length) undef))) ((Array.range (n * te.size)).map (te.zero.cells[· % te.zero.cells.size]!)) := by
  have hzs : te.zero.cells.size = sz := by rw [← hzl, ← hz]; simp
  refine ⟨by simp [hsz], fun i c hi => ?_⟩
  rw [List.getElem?_map, Option.map_eq_some_iff] at hi
  obtain ⟨j, hj, rfl⟩ := hi
  have hil : i < n * sz := by simpa using (List.getElem?_eq_some_iff.1 hj).1
  rw [List.getElem?_range hil] at hj
  cases hj
  have hmod : i % sz < sz := Nat.mod_lt _ hsz0
  have hat' : Jm (zs.getD (i % zs.length) undef) = true := by
   rw [hzl, List.getD_eq_getElem?_getD, List.getElem?_eq_getElem (by omega)]
   exact List.all_eq_true.1 hat _ (List.getElem_mem _)
  refine ⟨zs.getD (i % zs.length) undef, ?_, V3 hat', .v _ hat'⟩
  rw [Array.getElem?_map, Array.getElem?_range, hsz, if_pos hil, Option.map_some, hzs, hzl]
  congr 1
  have hbd : i % sz < te.zero.cells.size := by rw [hzs]; exact hmod
  have hg : zs[i % sz]? = some (te.zero.cells[i % sz]'hbd) := by rw [← hz, Array.getElem?_toList, Array.getElem?_eq_getElem]
  rw [getElem!_pos te.zero.cells _ hbd, List.getD_eq_getElem?_getD, hg]
  rfl
 obtain ⟨cells', h7, h8⟩ := MB (cx := cx) (w := w) (h := st'.h) hf hz0 (vs := (parts.map fun (i, x) => (i, a.eval x)).toList) (by simp) (IA hr ha (fun x hx => hm x hx) hok)
 replace h8 := Qa8 hr (hct.agree ha.2) h8
 have hlen : cells'.size = n * sz := by
  rw [Ns h7]; simp [hsz]
 have hpl : ps.length = n * sz := by
  have := h8.1; rw [List.length_map] at this; omega
 obtain ⟨c1, c2, c3⟩ := Lq sz n ps hpl
 rw [hrows] at c1 c2 c3
 have hrun := run_buildSlice (P := P) w t e n (parts.map fun (i, x) => (i, a.eval x)) cells' i' te.zero hu h2' h6' (by rw [h4', hsz]; omega) (by rw [h4', hsz]; omega) (by rw [h4', hsz]; rw [hsz] at h7; exact h7)
 refine Ut (v := .slice (some ⟨w.heap.size, 0, none⟩) n n) (w' := w.alloc (.cells cells' e)) (by simp only [execOp, Sem.run_bind, hrun]; rfl) ⟨_, BP (w' := w.alloc (.cells cells' e)) (bk := .row sz rows true) (t := .c (.sl (d, 0) 0 n)) hr hd (b := (d, 0)) (hd d rfl) (hfr (d, 0) (by simp)) (ob := .cells cells' e) rfl rfl rfl rfl ?_ ?_⟩
 ·refine ⟨hsz0, c2, ?_⟩
  simp only [Cx.upd, if_true]
  refine ⟨trivial, cells', e, (0, 0), n, Y6 rfl, fun _ => ⟨rfl, fun h => ?_⟩, (fun h => by cases h), hlen, by omega, by unfold maxLen; have := Nat.le_mul_of_pos_right n hsz0; omega, fun i r k p hi hk => ?_⟩
  ·have := (hr.A _ h).1; omega
  ·have hp := c3 i r k p hi hk
   obtain ⟨u, hu, h9, h10⟩ := h8.2 (i * sz + k) (.p p) (by rw [List.getElem?_map, hp]; rfl)
   exact ⟨u, by simpa using hu, RP.keeps h10 (fun _ h => h) (Xy rfl)⟩
 ·refine ⟨.inr rfl, fun bk hbk => ?_⟩
  rw [Y5, if_pos rfl] at hbk
  cases hbk
  refine ⟨_, n, rfl, Nat.le_refl _, by unfold maxLen; have := Nat.le_mul_of_pos_right n hsz0; omega, by simp [Bk.len, c1], .inr ⟨w.heap.size, cells', e, (0, 0), by simp [Cx.upd], by simp [Bk.e], Y6 rfl, fun _ => by simp [Bk.e, hlen]⟩⟩
theorem PK {x y : Operand} {t : TypeId} {te : TE} {b : Qw} {i k e : Nat} {rows rows' : List (List PV)} {r r' ps : List PV} {v : TV} {dst : Option Nat} (hx : st.ev x = .c (.ptr b i k)) (hb : st.h b = some (.row e rows true)) (hi : rows[i]? = some r) (hv : st.ev y = v) (hk : v.known = true) (hct : Crs st v.cells ps)
  (ht : Zn T.ty t = some te) (hsz : ps.length = te.size) (hin : k + ps.length ≤ e) (hr' : setAt r k ps = r') (hrows : rows.set i r' = rows') (hcx : Zf x = true) (hcy : Zf y = true) :
  ZC E N P ops ⟨dst, .store t x y, ty, pos, af, gd⟩ st ⟨b :: AJ v.cells, []⟩ ⟨.c .any, [(b, some (.row e rows' true))]⟩ := by
 intro st' ha hf hd cx a w Q hr
 have he := hr.ev hcy
 rw [JK ha (by simp [Op.operands]), hv] at he
 have hrl := FW hk he
 replace hrl := Qa8 hr (hct.agree fun b' hb' => ha.2 b' (List.mem_cons_of_mem _ hb')) hrl
 obtain ⟨-, h4⟩ := Pt hx hcx ha (by simp [Op.operands]) hr
 have hb' : st'.h b = some (.row e rows true) := by rw [ha.2 b (by simp)]; exact hb
 obtain ⟨g, q, h5, h6⟩ := h4 _ hb'
 have hbl := hr.bl b _ hb'
 obtain ⟨h7, h8, h9⟩ := hbl
 rw [h5] at h9
 obtain ⟨rfl, c, el, fz, capR, h10, h11, h12, h13, h14, h15, h16⟩ := h9
 obtain ⟨rfl, hnA⟩ := h11 rfl
 have hil := (List.getElem?_eq_some_iff.1 hi).1
 have hrl2 := h8 r (List.mem_of_getElem? hi)
 have h6' : a.eval x = .pointer (some ⟨g, i * e + k, none⟩) := by simpa [Bk.e] using h6
 have hcl : (a.eval y).cells.size = ps.length := by have := hrl.1; simpa using this
 have hbig : i * e + e ≤ c.size := by
  have : (i + 1) * e ≤ capR * e := Nat.mul_le_mul_right e (by omega)
  rw [Nat.add_mul] at this
  omega
 have hrun := Gn (w := w) (g := g) (q := i * e + k) (u := a.eval y) ht (by rw [hcl, hsz]) h10 (by omega) (Q9r hrl)
 obtain ⟨c2, hc2⟩ : ∃ c2, c2 = (c.toList.take (i * e + k) ++ (a.eval y).cells.toList ++ c.toList.drop (i * e + k + (a.eval y).cells.size)).toArray := ⟨_, rfl⟩
 rw [← hc2] at hrun
 have hlen : c2.size = c.size := by rw [hc2]; simp; omega
 refine upon_skip (w' := w.setRow g c2) (by simp only [execOp, h6', Sem.run_bind, Instr.storeAt, Instr.sureAddr, Sem.run_pure, Result.andThen_ok, hrun]) ⟨cx, ?_⟩
 have hkeep : Xg cx.A w (w.setRow g c2) := ⟨by simp, fun g' hA _ => setRow_other w g g' c2 (fun e => hnA (e ▸ hA)), Iw h10 hlen⟩
 have hr'l : r'.length = e := by rw [← hr', FX r k ps (by omega)]; exact hrl2
 refine Lh (t := .c .any) (bk' := .row e rows' true) hr hd hb' rfl (by simp [Bk.len, ← hrows]) h5 hnA h10 rfl hlen ⟨h7, ?_, ?_⟩ ⟨.inl rfl, trivial⟩
 ·intro r2 hr2
  rw [← hrows] at hr2
  rcases List.mem_or_eq_of_mem_set hr2 with h | h
  ·exact h8 r2 h
  ·rw [h]; exact hr'l
 ·rw [h5]
  refine ⟨rfl, c2, el, (0, 0), capR, setRow_heap w g c c2 el _ h10, fun _ => ⟨rfl, hnA⟩, (fun h => by cases h), by rw [hlen]; exact h13, by rw [← hrows]; simpa using h14, h15, fun i2 r2 k2 p2 hi2 hk2 => ?_⟩
  have hidx : ∀ j, c2[j]? = if j < i * e + k ∨ i * e + k + ps.length ≤ j then c[j]? else (a.eval y).cells[j - (i * e + k)]? := by
   intro j
   have h17 := CC c.toList (i * e + k) (a.eval y).cells.toList (by simp; omega)
   rw [hc2, show i * e + k + (a.eval y).cells.size = i * e + k + (a.eval y).cells.toList.length by simp, ← h17, List.getElem?_toArray, CE _ _ _ (by simp; omega)]
   simp only [Array.length_toList, hcl, Array.getElem?_toList]
  have hk2l : k2 < e := by
   have h1 := (List.getElem?_eq_some_iff.1 hk2).1
   have : r2.length = e := by
    rw [← hrows] at hi2
    rcases List.mem_or_eq_of_mem_set (List.mem_of_getElem? hi2) with h | h
    ·exact h8 r2 h
    ·rw [h]; exact hr'l
   omega
  rw [← hrows, List.getElem?_set] at hi2
  rw [hidx]
  by_cases e1 : i = i2
  ·rw [if_pos e1, if_pos hil] at hi2
   cases hi2
   subst e1
   rw [← hr', CE r k ps (by omega)] at hk2
   by_cases h17 : k2 < k ∨ k + ps.length ≤ k2
   ·rw [if_pos h17] at hk2
    rw [if_pos (by omega)]
    obtain ⟨cv, h18, h19⟩ := h16 i r k2 p2 hi hk2
    exact ⟨cv, h18, h19.keeps (fun _ h => h) hkeep⟩
   ·rw [if_neg h17] at hk2
    rw [if_neg (by omega)]
    obtain ⟨u, h18, h19, h20⟩ := hrl.2 (k2 - k) (.p p2) (by rw [List.getElem?_map, hk2]; rfl)
    refine ⟨u, ?_, RP.keeps h20 (fun _ h => h) hkeep⟩
    rw [← h18]
    congr 1
    omega
  ·rw [if_neg e1] at hi2
   have hi2l := (List.getElem?_eq_some_iff.1 hi2).1
   have hout : i2 * e + k2 < i * e + k ∨ i * e + k + ps.length ≤ i2 * e + k2 := by
    rcases Nat.lt_or_gt_of_ne e1 with h | h
    ·right
     have : (i + 1) * e ≤ i2 * e := Nat.mul_le_mul_right e h
     rw [Nat.add_mul] at this
     omega
    ·left
     have : (i2 + 1) * e ≤ i * e := Nat.mul_le_mul_right e h
     rw [Nat.add_mul] at this
     omega
   rw [if_pos hout]
   obtain ⟨cv, h18, h19⟩ := h16 i2 r2 k2 p2 hi2 hk2
   exact ⟨cv, h18, h19.keeps (fun _ h => h) hkeep⟩
theorem Q1g [T : Tb P] {α : Type} {f : α → List PV} {L : List α} {x y : Operand} {t : TypeId} {te : TE} {b : Qw} {i k e : Nat} {x0 x1 : α} {ps : List PV} {v : TV} {dst : Option Nat} (hi : L[i]? = some x0 := by exact rfl) (hx : st.ev x = .c (.ptr b i k) := by exact rfl) (hb : st.h b = some (.row e (L.map f) true) := by exact rfl) (hv : st.ev y = v := by exact rfl) (hk : v.known = true := by exact rfl) (hct : Crs st v.cells ps)
  (ht : Zn T.ty t = some te := by exact rfl) (hsz : ps.length = te.size := by exact rfl) (hin : Nat.ble (k + ps.length) e = true := by exact rfl) (hr' : setAt (f x0) k ps = f x1 := by exact rfl) (hcx : Zf x = true := by exact rfl) (hcy : Zf y = true := by exact rfl) :
  ZC E N P ops ⟨dst, .store t x y, ty, pos, af, gd⟩ st ⟨b :: AJ v.cells, []⟩ ⟨.c .any, [(b, some (.row e ((L.set i x1).map f) true))]⟩ :=
 PK hx hb (gm hi) hv hk hct ht hsz (Nat.le_of_ble_eq_true hin) hr' Qd0 hcx hcy
theorem Qzr [T : Tb P] {α : Type} {f : α → List PV} {z : α} {x y : Operand} {t el e by' : Nat} {tt te : TE} {k k' : IntKind} {n : Int} {zs : List Value} (hn : 0 ≤ n ∧ n * (by' : Nat) ≤ 140737488355328) (h1 : st.ev x = .c (.p (.v (.int k n))) := by exact rfl) (h2 : st.ev y = .c (.p (.v (.int k' n))) := by exact rfl) (ht : Zn T.ty t = some tt := by exact rfl) (hk : tt.kd = .slice el := by exact rfl) (hel : Zn T.ty el = some te := by exact rfl) (hes : te.size = e := by exact rfl) (hbt : te.bytes = by' := by exact rfl) (hpos : (Nat.blt 0 by' && Nat.blt 0 e) = true := by exact rfl) (hz : te.zero.cells.toList = zs := by exact rfl)
  (hct : Crs (⟨[], []⟩ : St) (zs.map fun v => .p (.v v)) (f z)) (hat : zs.all Jm = true := by exact rfl) (hok : (Zf x && Zf y && Nat.beq zs.length e) = true := by exact rfl) :
  ZC E N P ops ⟨some d, .makeSlice t x y, ty, pos, af, gd⟩ st ⟨[], [(d, 0)]⟩ ⟨.c (.sl (d, 0) 0 ((List.replicate n.toNat z).map f).length), [((d, 0), some (.row e ((List.replicate n.toNat z).map f) true))]⟩ := by
 intro st' ha hfr hd cx a w Q hr
 simp only [Bool.and_eq_true] at hok hpos
 have he0 : 0 < e := Nat.le_of_ble_eq_true hpos.2
 have hb0 : 0 < by' := Nat.le_of_ble_eq_true hpos.1
 have e1 := (Gh h1 hok.1.1 ha (by simp [Op.operands]) hr).1
 have e2 := (Gh h2 hok.1.2 ha (by simp [Op.operands]) hr).1
 obtain ⟨i, hi1, hi2, hi3, hi4⟩ := Mv hel
 have hzl : te.zero.cells.size = e := by have := Nat.eq_of_beq_eq_true hok.2; rw [← hz] at this; simpa using this
 have hnb : n ≤ 140737488355328 := by
  have h3 : n * 1 ≤ n * (by' : Nat) := Int.mul_le_mul_of_nonneg_left (by omega) hn.1
  omega
 have hrun := run_make (P := P) (w := w) t el i te.zero (KN ht hk) hi1 hi4 k k' n n hn.1 (Int.le_refl _) (by rw [hi3, hbt, Int.mul_comm]; omega) (by omega)
 rw [hi2, hes] at hrun
 have hct' : Crs st' (zs.map fun v => .p (.v v)) (f z) := by
  refine (Crs.agree hct (fun b hb => ?_) : Crs st' _ _)
  simp only [AJ, List.mem_flatMap, List.mem_map] at hb
  obtain ⟨c, ⟨y, _, rfl⟩, h2⟩ := hb
  simp [CV.ment] at h2
 have hrz := Qa8 hr hct' (PF (cx := cx) (w := w) (h := st'.h) hz hat)
 have hfl : (f z).length = e := by have := hrz.1; rw [List.length_map] at this; omega
 have hmk : ∀ (i : Nat) (r : List PV) (k : Nat) (p : PV), ((List.replicate n.toNat z).map f)[i]? = some r → r[k]? = some p → ∃ cv, (madeCells te.zero.cells (n.toNat * e))[i * e + k]? = some cv ∧ RP w cx.A p cv := by
  intro i r k p hi hk
  rw [List.getElem?_map, Option.map_eq_some_iff] at hi
  obtain ⟨z', hz', rfl⟩ := hi
  have hil : i < n.toNat := by have := (List.getElem?_eq_some_iff.1 hz').1; simpa using this
  have : z' = z := by have := List.mem_of_getElem? hz'; exact (List.mem_replicate.1 this).2
  subst this
  obtain ⟨u, hu, h3, h4⟩ := hrz.2 k (.p p) (by rw [List.getElem?_map, hk]; rfl)
  have hkl : k < e := by have := (List.getElem?_eq_some_iff.1 hk).1; omega
  refine ⟨u, ?_, h4⟩
  have hlt : i * e + k < n.toNat * e := by
   have : (i + 1) * e ≤ n.toNat * e := Nat.mul_le_mul_right e hil
   rw [Nat.add_mul] at this
   omega
  have hmod : (i * e + k) % e = k := by rw [Nat.mul_comm, Nat.mul_add_mod]; exact Nat.mod_eq_of_lt hkl
  unfold madeCells
  rw [Array.getElem?_map, Array.getElem?_range, if_pos hlt, Option.map_some, hzl, hmod, ← hu]
  have hb : k < te.zero.cells.size := by omega
  rw [getElem!_pos te.zero.cells _ hb, Array.getElem?_eq_getElem hb]
 have hsz : (madeCells te.zero.cells (n.toNat * e)).size = n.toNat * e := size_madeCells _ _
 have hlen : ((List.replicate n.toNat z).map f).length = n.toNat := by simp
 refine Ut (v := .slice (some ⟨w.heap.size, 0, none⟩) n.toNat n.toNat) (w' := w.alloc (.cells (madeCells te.zero.cells (n.toNat * e)) el)) (by simp only [execOp, e1, e2, Sem.run_bind, hrun]; rfl) ⟨_, BP (w' := w.alloc (.cells (madeCells te.zero.cells (n.toNat * e)) el)) (bk := .row e ((List.replicate n.toNat z).map f) true) (t := .c (.sl (d, 0) 0 ((List.replicate n.toNat z).map f).length)) hr hd (b := (d, 0)) (hd d rfl) (hfr (d, 0) (by simp)) (ob := .cells (madeCells te.zero.cells (n.toNat * e)) el) rfl rfl rfl rfl ?_ ?_⟩
 ·refine ⟨he0, fun r hr' => ?_, ?_⟩
  ·obtain ⟨z', hz', rfl⟩ := List.mem_map.1 hr'
   rw [(List.mem_replicate.1 hz').2]; exact hfl
  ·simp only [Cx.upd, if_true]
   refine ⟨trivial, _, el, (0, 0), n.toNat, Y6 rfl, fun _ => ⟨rfl, fun h => ?_⟩, (fun h => by cases h), hsz, by rw [hlen]; exact Nat.le_refl _, by unfold maxLen; omega, fun i r k p hi hk => ?_⟩
   ·have := (hr.A _ h).1; omega
   ·obtain ⟨cv, h3, h4⟩ := hmk i r k p hi hk
    exact ⟨cv, h3, RP.keeps h4 (fun _ h => h) (Xy rfl)⟩
 ·refine ⟨.inr rfl, fun bk hbk => ?_⟩
  rw [Y5, if_pos rfl] at hbk
  cases hbk
  refine ⟨_, n.toNat, by rw [hlen], by rw [hlen]; exact Nat.le_refl _, by unfold maxLen; omega, by simp [Bk.len], .inr ⟨w.heap.size, _, el, (0, 0), by simp [Cx.upd], by simp [Bk.e], Y6 rfl, fun _ => by simp [Bk.e, hsz]⟩⟩
theorem Q1h {x : Operand} {s0 t e : TypeId} {ts tt : TE} {s : ByteArray} (hb : s.size ≤ 140737488355328) (h1 : st.ev x = .c (.p (.v (.string s)))) (hs : Zn T.ty s0 = some ts) (hsk : ts.kd = .string) (ht : Zn T.ty t = some tt) (htk : tt.kd = .slice e) (hok : Zf x = true) (he : (Zn T.ty e).map (·.kd) = some (.int .u8)) :
  ZC E N P ops ⟨some d, .convert s0 t x, ty, pos, af, gd⟩ st ⟨[], []⟩ ⟨.c (.p (.l 1 ((sI s).map (eI .u8)))), []⟩ := by
 intro st' ha hfr hd cx a w Q hr
 have e1 := (Gh h1 hok ha (by simp [Op.operands]) hr).1
 obtain ⟨te, hte, hek⟩ := Option.map_eq_some_iff.1 he
 obtain ⟨de, ie, g1, g2, g3, g4, g5, g6⟩ := YI (T.ok _ _ hte)
 have hue : P.underlying e = some (.int .u8) := by
  rw [g1]; rw [hek] at g3
  cases de <;> simp [Oj] at g3
  rw [g3]
 have hrun := run_bytes_of_string (P := P) w s0 t e s (BO hs hsk) (KN ht htk) hue
 have hcge := grownCap_ge w s.size 0 e
 have hcle := grownCap_le_maxLen w s.size 0 e (by unfold maxLen; omega)
 generalize hcap : grownCap w s.size 0 e = cap at hrun hcge hcle
 obtain ⟨w', hw'⟩ : ∃ w', w' = w.drew.alloc (.cells (bytesRow s cap) e ((bytesRow s cap).size, (bytesRow s cap).size + 1)) := ⟨_, rfl⟩
 rw [← hw'] at hrun
 have hh : w'.heap = w.heap.push (.cells (bytesRow s cap) e ((bytesRow s cap).size, (bytesRow s cap).size + 1)) := by rw [hw']; rfl
 let cx' : Cx := ⟨cx.ι, fun x => cx.A x ∨ x = w.heap.size⟩
 have hA : ∀ g, cx.A g → cx'.A g := fun g h => .inl h
 have hk : Xg cx.A w w' := Xy hh
 have hlen : ((sI s).map (eI .u8)).length = s.size := by rw [List.length_map, Nh]
 refine Ut (v := .slice (some ⟨w.heap.size, 0, none⟩) s.size cap) (w' := w') (by simp only [execOp, e1, Sem.run_bind, hrun]; rfl) ⟨cx', ?_⟩
 refine hr.step (ef := ⟨.c (.p (.l 1 ((sI s).map (eI .u8)))), []⟩) hd [] (fun b hb => by cases hb) hA (fun g hg => hg.elim .inl fun h => .inr ⟨by rw [h, hh]; simp, .inl (by rw [h]; exact hr.sz)⟩) hk (fun g hg _ => CB hh (Nat.lt_of_lt_of_le hg hr.sz)) (by rw [hw']; rfl) (by rw [hw']; rfl) (by rw [hw']; rfl) ?_ ?_ ?_ ?_ ?_ (fun _ _ => rfl)
 ·intro b _ bk' hbk
  exact ⟨bk', hbk, rfl, Nat.le_refl _, rfl, fun g q c el fz h1 h2 => ⟨c, el, fz, by rw [CB hh (Array.getElem?_eq_some_iff.1 h2).1]; exact h2, fun _ => rfl⟩⟩
 ·intro b bk' hbk
  refine .inl ⟨by simp, hbk, rfl, fun g q hg => ?_⟩
  have hl := (hr.own b g q (by rw [show st'.h b = _ from hbk]; simp) hg).1
  exact ⟨CB hh hl, fun hn h => h.elim hn fun h => by omega⟩
 ·exact hr.inj
 ·intro b g q h1 h2
  obtain ⟨h3, h4⟩ := hr.own b g q h1 h2
  exact ⟨by rw [hh]; simp; omega, h4⟩
 ·refine ⟨.inr rfl, ?_⟩
  have key := RP.l (w := w') (A := cx'.A) 1 ((sI s).map (eI .u8)) (some ⟨w.heap.size, 0, none⟩) cap (fun i _ => .int .u8 (gI (sI s) i)) (by rw [hlen]; exact hcge) hcle (fun r hr => by obtain ⟨n, _, rfl⟩ := List.mem_map.1 hr; rfl) (.inr ⟨w.heap.size, 0, rfl, .inr rfl, by rw [hh]; simp, fun i r k p hi hk => ?_⟩) (fun i r k p hi hk => ?_)
  ·rw [hlen] at key; exact key
  ·rw [List.getElem?_map, Option.map_eq_some_iff] at hi
   obtain ⟨n, hn, rfl⟩ := hi
   have hlt := (List.getElem?_eq_some_iff.1 hn).1
   cases k with
   | succ k => simp [eI] at hk
   | zero =>
    unfold World.cell?
    have h0 : (w.heap.push (.cells (bytesRow s cap) e ((bytesRow s cap).size, (bytesRow s cap).size + 1)))[w.heap.size]? = some (.cells (bytesRow s cap) e ((bytesRow s cap).size, (bytesRow s cap).size + 1)) := by simp
    simp only [hh, h0]
    have h5 : i < (s.data.map fun b => Value.int .u8 b.toNat).size := by rw [Nh] at hlt; simpa using hlt
    have h7 : i < s.data.size := by simpa using h5
    have h6 : (sI s)[i]? = some ((s.data[i]'h7).toNat : Int) := by unfold sI; rw [List.getElem?_map, Array.getElem?_toList, Array.getElem?_eq_getElem h7]; rfl
    simp only [bytesRow, Nat.zero_add, Nat.mul_one, Nat.add_zero, Option.isSome_none, Bool.false_eq_true, if_false]
    rw [Array.getElem?_append_left h5, Array.getElem?_map, Array.getElem?_eq_getElem h7]
    simp [gI, h6]
  ·rw [List.getElem?_map, Option.map_eq_some_iff] at hi
   obtain ⟨n, hn, rfl⟩ := hi
   have hlt := (List.getElem?_eq_some_iff.1 hn).1
   cases k with
   | succ k => simp [eI] at hk
   | zero =>
    simp only [eI, List.getElem?_cons_zero, Option.some.injEq] at hk
    subst hk
    have : gI (sI s) i = n := by simp [gI, hn]
    rw [this]
    exact .v _ (Qvp s _ (List.mem_of_getElem? hn))
theorem Qjc [T : Tb P] {α : Type} {f : α → List PV} {t e sz : Nat} {tt te : TE} (ht : Zn T.ty t = some tt := by exact rfl) (hk : tt.kd = .slice e := by exact rfl) (hel : Zn T.ty e = some te := by exact rfl) (hsz : te.size = sz := by exact rfl) (hpos : Nat.blt 0 sz = true := by exact rfl) :
  ZC E N P ops ⟨some d, .buildSlice t 0 #[], ty, pos, af, gd⟩ st ⟨[], [(d, 0)]⟩ ⟨.c (.sl (d, 0) 0 (([] : List α).map f).length), [((d, 0), some (.row sz (([] : List α).map f) true))]⟩ := by
 intro st' ha hfr hd cx a w Q hr
 have hpos := Nat.le_of_ble_eq_true hpos
 obtain ⟨i, hi1, hi2, hi3, hi4⟩ := Mv hel
 have hrun : (Instr.buildSlice t 0 #[]).run P w = .ok (.slice (some ⟨w.heap.size, 0, none⟩) 0 0) (w.alloc (.cells #[] e)) := by
  simp [Instr.buildSlice, run_underlying (KN ht hk), sizeOf, typeInfo, hi1, Instr.fill, newRow, Array.range_zero']
 refine Ut (v := .slice (some ⟨w.heap.size, 0, none⟩) 0 0) (w' := w.alloc (.cells #[] e)) (by simp only [execOp, Sem.run_bind]; rw [show (#[] : Array (Nat × Operand)).map (fun x => (x.fst, a.eval x.snd)) = #[] from by simp, hrun]; rfl) ⟨_, BP (w' := w.alloc (.cells #[] e)) (bk := .row sz [] true) (t := .c (.sl (d, 0) 0 0)) hr hd (b := (d, 0)) (hd d rfl) (hfr (d, 0) (by simp)) (ob := .cells #[] e) rfl rfl rfl rfl ?_ ?_⟩
 ·refine ⟨hpos, by simp, ?_⟩
  simp only [Cx.upd, if_true]
  exact ⟨trivial, #[], e, (0, 0), 0, Y6 rfl, fun _ => ⟨rfl, fun h => by have := (hr.A _ h).1; omega⟩, (fun h => by cases h), by simp, by simp, by unfold maxLen; omega, fun i r k p hi hk => by simp at hi⟩
 ·refine ⟨.inr rfl, fun bk hbk => ?_⟩
  rw [Y5, if_pos rfl] at hbk
  cases hbk
  exact ⟨_, 0, rfl, Nat.le_refl _, by unfold maxLen; omega, by simp [Bk.len], .inl rfl⟩
end
def gotoQ (l : Nat) (G : St → Prop) (Q : Exit → St → Prop) : Exit → St → Prop
 | .goto l', st => l' = l ∧ G st
 | e, st => Q e st
def noG (Q : Exit → St → Prop) : Exit → St → Prop
 | .goto _, _ => False
 | e, st => Q e st
section
variable {E : En} {N : Nat} {P : Program} {Q : Exit → St → Prop} {st : St}
theorem Qrr {l : Nat} (h : Q (.goto l) st) : AW E N P (.goto l) Q st := fun cx a w hr => wp_goto ⟨st, cx, h, hr⟩
theorem Qjd {c rest : Code} {l : Nat} (hf : findLabel c l = some rest) (h : ∀ G : St → Prop, (∀ st, AW E N P rest (noG Q) st → G st) → AW E N P c (gotoQ l G (noG Q)) st) : AW E N P (.scope c) Q st := by
 intro cx a w hr
 have h1 := h (AW E N P rest (noG Q)) (fun _ h => h) cx a w hr
 have conv : ∀ (e : Exit) (a' : Act) (w' : World), (∃ st' cx', noG Q e st' ∧ Xx E N cx' st' a' w') → Exit.jump l (fun a' w' => (∃ st' cx', AW E N P rest (noG Q) st' ∧ Xx E N cx' st' a' w') ∧ 0 < 0) (fun e a' w' => ∃ st' cx', Q e st' ∧ Xx E N cx' st' a' w') e a' w' := by
  rintro e a' w' ⟨st', cx', h2, h3⟩
  cases e with
  | goto l' => exact h2.elim
  | _ => exact ⟨st', cx', h2, h3⟩
 refine wp_scope_jumps l (fun a' w' => ∃ st' cx', AW E N P rest (noG Q) st' ∧ Xx E N cx' st' a' w') (fun _ _ => 0) hf (wp_mono h1 ?_) ?_
 ·rintro e a' w' ⟨st', cx', h2, h3⟩
  cases e with
  | goto l' => exact ⟨h2.1, st', cx', h2.2, h3⟩
  | _ => exact ⟨st', cx', h2, h3⟩
 ·rintro a' w' ⟨st', cx', h2, h3⟩
  exact wp_mono (h2 cx' a' w' h3) (fun e a2 w2 h4 => conv e a2 w2 h4)
end
section
variable {P : Program} {w w' : World}
theorem Qje {A : Nat → Prop} {gs : Nat → Option Nat} {g q g' q' : Nat} (hg : w.grownBy w' none) (hA : ∀ x, A x → x < w.heap.size) : ∀ {avs : List AV} {vs : List Value}, avs.any AV.isRef = false → AsR w A gs g q avs vs → AsR w' A gs g' q' avs vs := by
 intro avs
 induction avs with
 | nil => intro vs _ h; cases vs with | nil => trivial | cons v vs => exact h.elim
 | cons a avs ih =>
  intro vs hn h
  cases vs with
  | nil => exact h.elim
  | cons v vs =>
   simp only [List.any_cons, Bool.or_eq_false_iff] at hn
   refine ⟨?_, ih hn.2 h.2⟩
   have hm : ∀ {p : PV} {u : Value}, RP w A p u → RP w' A p u := fun h => h.mono (fun _ h => h) hg.size (fun x hx hl => hg.block x hl (by simp))
   have hcs : ∀ {n : Nat} {xs : List PV} {us : List Value}, Nl w A (fun _ => none) n (xs.map .p) us → Nl w' A (fun _ => none) n (xs.map .p) us := by
    intro n xs
    induction xs generalizing n with
    | nil => intro us h; cases us with | nil => trivial | cons u us => exact h.elim
    | cons x xs ih2 =>
     intro us h
     cases us with
     | nil => exact h.elim
     | cons u us => exact ⟨h.1, hm h.2.1, ih2 h.2.2⟩
   cases a with
   | c x => exact hm h.1
   | agg xs => obtain ⟨us, h1, h2⟩ := h.1; exact ⟨us, h1, hcs h2⟩
   | ref cs => exact absurd hn.1 (by simp [AV.isRef])
theorem MF {f : FuncId} {avs : List AV} {x : Value} {vs : Array Value} {A : Nat → Prop} {g q : Nat} (hc : Va P f avs [.c (.p (.v x))] []) (hn : avs.any AV.isRef = false) (hA : ∀ x, A x → x < w.heap.size) (hR : AsR w A (fun _ => none) g q avs vs.toList) :
  Calls P f vs w fun e w' => e = .returned x ∧ w.grownBy w' none := by
 refine (hc.run A (fun _ => none) w.heap.size 0 w vs hA (fun n m x h => by cases h) (fun n x h => by cases h) (fun _ => ⟨fun _ => rfl, rfl⟩) (Qje ⟨rfl, rfl, rfl, Nat.le_refl _, fun _ _ _ => rfl⟩ hA hn hR)).mono ?_
 rintro e w' ⟨v, A', gs', h1, h2, h3, h4, h5, h6, h7, h8, h9, h10, h11, h12⟩
 have hv : v = x := by
  have := h11.2.1
  cases this with | v _ _ => rfl
 subst hv
 exact ⟨h1, h6.1, h7, h8, h4, fun k hk _ => h5 k hk (by omega) (fun n h => by cases h)⟩
end
def GM {R : Type} (G G' : (R → Prop) → Prop) : Prop := ∀ Post : R → Prop, G Post → ∃ r, G' (fun x => r = x) ∧ Post r
section
variable {R α σ : Type}
theorem GM.ret (e : R) : GM (fun Q => Q e) (fun Q => Q e) := fun Post h => ⟨e, rfl, h⟩
theorem GM.and {p : Prop} {G G' : (R → Prop) → Prop} (h : GM G G') : GM (fun Q => p ∧ G Q) (fun Q => p ∧ G' Q) := fun Post ⟨hp, hg⟩ => let ⟨r, h1, h2⟩ := h Post hg; ⟨r, ⟨hp, h1⟩, h2⟩
theorem GM.ex {p : α → Prop} {G G' : α → (R → Prop) → Prop} (h : ∀ a, GM (G a) (G' a)) : GM (fun Q => ∃ a, p a ∧ G a Q) (fun Q => ∃ a, p a ∧ G' a Q) := fun Post ⟨a, hp, hg⟩ => let ⟨r, h1, h2⟩ := h a Post hg; ⟨r, ⟨a, hp, h1⟩, h2⟩
theorem GM.cond {c : Bool} {A A' B B' : (R → Prop) → Prop} (h1 : GM A A') (h2 : GM B B') : GM (fun Q => (c = true → A Q) ∧ (c = false → B Q)) (fun Q => (c = true → A' Q) ∧ (c = false → B' Q)) := fun Post h => by
 cases c with
 | true => obtain ⟨r, h3, h4⟩ := h1 Post (h.1 rfl); exact ⟨r, ⟨fun _ => h3, (fun h => by cases h)⟩, h4⟩
 | false => obtain ⟨r, h3, h4⟩ := h2 Post (h.2 rfl); exact ⟨r, ⟨(fun h => by cases h), fun _ => h3⟩, h4⟩
theorem GM.join {k k' : α → (R → Prop) → Prop} {m m' : (α → Prop) → (R → Prop) → Prop} (h1 : ∀ p, GM (k p) (k' p)) (h2 : ∀ K K' : α → (R → Prop) → Prop, (∀ p, GM (K p) (K' p)) → GM (fun Q => m (fun p => K p Q) Q) (fun Q => m' (fun p => K' p Q) Q)) :
  GM (fun Q => jn (fun p => k p Q) (fun J => m J Q)) (fun Q => jn (fun p => k' p Q) (fun J => m' J Q)) := h2 k k' h1
theorem GM.loop {step step' : (σ → Prop) → σ → (R → Prop) → Prop} {s0 : σ} (hm : ∀ (X Y : σ → Prop) (Q : R → Prop) (s : σ), (∀ s, X s → Y s) → step' X s Q → step' Y s Q)
  (h : ∀ K K' : σ → (R → Prop) → Prop, (∀ s, GM (K s) (K' s)) → ∀ s, GM (fun Q => step (fun s => K s Q) s Q) (fun Q => step' (fun s => K' s Q) s Q)) :
  GM (fun Q => lp (fun (X : σ → Prop) (s : σ) => step X s Q) s0) (fun Q => lp (fun (X : σ → Prop) (s : σ) => step' X s Q) s0) := by
 intro Post hl
 have hl : lp (fun (X : σ → Prop) (s : σ) => step X s Post) s0 := hl
 refine hl (fun (s : σ) => ∃ r, lp (fun (X : σ → Prop) (s : σ) => step' X s (fun x => r = x)) s ∧ Post r) fun s hs => ?_
 obtain ⟨r, h1, h2⟩ := h (fun s Q => ∃ r, lp (fun (X : σ → Prop) (s : σ) => step' X s (fun x => r = x)) s ∧ Q r) (fun s Q => lp (fun (X : σ → Prop) (s : σ) => step' X s Q) s) (fun s P ⟨r, h1, h2⟩ => ⟨r, h1, h2⟩) s Post hs
 exact ⟨r, fun X hX => hX s (hm _ _ _ s (fun s' h' => h' X hX) h1), h2⟩
end
section
variable {E : En} {N : Nat} {P : Program} {T : Tb P} {ops : Array Oper} {o : Oper} {st : St} {r : List Oper} {acc : List (Fp × Ef)} {K : List (Fp × Ef) → St → Prop} {d : Nat} {ty : Nat} {pos : String} {af : Array Edge} {op : Op} {f : Fp} {t : TV} {fr : List (Nat × TV)} {H : List (Qw × Option Bk)} {Q : Exit → St → Prop}
theorem u0 (hop : ZC E N P ops ⟨some d, op, ty, pos, af, none⟩ ⟨fr, H⟩ f ⟨t, []⟩) (h : Ac E N P ops r ((f, ⟨t, []⟩) :: acc) ⟨(d, t) :: fr, H⟩ K) : Ac E N P ops (⟨some d, op, ty, pos, af, none⟩ :: r) acc ⟨fr, H⟩ K := Qr5 rfl hop h
theorem u1 {b1 : Qw × Option Bk} (hop : ZC E N P ops ⟨some d, op, ty, pos, af, none⟩ ⟨fr, H⟩ f ⟨t, [b1]⟩) (h : Ac E N P ops r ((f, ⟨t, [b1]⟩) :: acc) ⟨(d, t) :: fr, b1 :: H⟩ K) : Ac E N P ops (⟨some d, op, ty, pos, af, none⟩ :: r) acc ⟨fr, H⟩ K := Qr6 rfl hop h
theorem ul {bl : List (Qw × Option Bk)} (hop : ZC E N P ops ⟨some d, op, ty, pos, af, none⟩ ⟨fr, H⟩ f ⟨t, bl⟩) (h : Ac E N P ops r ((f, ⟨t, bl⟩) :: acc) ⟨(d, t) :: fr, bl ++ H⟩ K) : Ac E N P ops (⟨some d, op, ty, pos, af, none⟩ :: r) acc ⟨fr, H⟩ K := Qcw rfl hop h
theorem rt {L : St → Prop} (h : L st) (h1 : Q0z acc.reverse = true := by kernel_rfl) {st0 : St} (h2 : Ad st0 acc = true := by kernel_rfl) : Ac E N P ops [] acc st fun acc st' => Q0z acc.reverse = true ∧ Ad st0 acc = true ∧ L st' := Q10 ⟨h1, h2, h⟩
theorem rd {L : St → Prop} {l : List Oper} (h : L st) (h1 : Q9h l acc.reverse = true := by kernel_rfl) {st0 : St} (h2 : Ad st0 acc = true := by kernel_rfl) : Ac E N P ops [] acc st fun acc st' => Q9h l acc.reverse = true ∧ Ad st0 acc = true ∧ L st' := Q10 ⟨h1, h2, h⟩
theorem tk {x : List Oper} {id : Nat} {y : Code} (h : ∀ L : St → Prop, (∀ st, AW E N P y Q st → L st) → Ac E N P x.toArray x [] st fun acc st' => Q0z acc.reverse = true ∧ Ad st acc = true ∧ L st') (hN : Q9i N x = true := by kernel_rfl) : AW E N P (.seq (.region id x.toArray false) y) Q st := Qj0 hN h
theorem dk (hm : P.follows .mixedOrders = true) {x : List Oper} {id : Nat} {y : Code} (h : ∀ L : St → Prop, (∀ st, AW E N P y Q st → L st) → Ac E N P x.toArray x [] st fun acc st' => Q9h x acc.reverse = true ∧ Ad st acc = true ∧ L st') (hS : Qig N x = true := by kernel_rfl) : AW E N P (.seq (.region id x.toArray true) y) Q st := Qj1 hm hS h
theorem tl {x : List Oper} {id : Nat} (h : ∀ L : St → Prop, (∀ st, Q .normal st → L st) → Ac E N P x.toArray x [] st fun acc st' => Q0z acc.reverse = true ∧ Ad st acc = true ∧ L st') (hN : Q9i N x = true := by kernel_rfl) : AW E N P (.region id x.toArray false) Q st := P8 hN (h _ fun _ h => h)
theorem dl (hm : P.follows .mixedOrders = true) {x : List Oper} {id : Nat} (h : ∀ L : St → Prop, (∀ st, Q .normal st → L st) → Ac E N P x.toArray x [] st fun acc st' => Q9h x acc.reverse = true ∧ Ad st acc = true ∧ L st') (hS : Qig N x = true := by kernel_rfl) : AW E N P (.region id x.toArray true) Q st := Qcr hm hS (h _ fun _ h => h)
theorem sk {x y : Code} (h : ∀ K : St → Prop, (∀ st, AW E N P y Q st → K st) → AW E N P x (O6 Q K) st) : AW E N P (.seq x y) Q st := Q19 h
end
section
variable {E : En} {N : Nat} {P : Program} {T : Tb P} {ops : Array Oper} {o : Oper} {st : St} {d : Nat} {ty : Nat} {pos : String} {af : Array Edge} {gd : Option (Nat × Bool)} {cx : Cx} {a : Act} {w w' : World} {v : Value}
theorem Qf2 (hr : Xx E N cx st a w) (hd : ∀ d, o.dst = some d → d < N) {b : Qw} (hb0 : b.1 < N) (hf : WA b st) {e : Nat} (he : 0 < e) {x : Option Addr} :
  Xx E N (cx.upd b none) (Ef.ap ⟨.c (.sl b 0 0), [(b, some (.row e [] true))]⟩ o st) (a.put o.dst (.slice x 0 0)) w := by
 refine hr.step (ef := ⟨.c (.sl b 0 0), [(b, some (.row e [] true))]⟩) hd [b] (fun b' hb' => by rw [List.mem_singleton.1 hb']; exact hf) (fun _ h => h) (fun _ h => .inl h) (Xg.refl _ _) (fun _ _ _ => rfl) rfl rfl rfl ?_ ?_ ?_ ?_ ?_ (Mu (Nat.lt_of_lt_of_le hb0 hr.hN))
 ·intro b' hb' bk' hbk
  have hne : b' ≠ b := by simpa using hb'
  rw [Y5, if_neg hne] at hbk
  exact ⟨bk', hbk, rfl, Nat.le_refl _, by simp [Cx.upd, hne], fun g o c el fz _ h => ⟨c, el, fz, h, fun _ => rfl⟩⟩
 ·intro b' bk' hb'
  by_cases e1 : b' = b
  ·subst e1
   rw [Y5, if_pos rfl] at hb'
   cases hb'
   refine .inr ⟨he, by simp, ?_⟩
   simp [Cx.upd]
  ·rw [Y5, if_neg e1] at hb'
   exact .inl ⟨by simpa using e1, hb', by simp [Cx.upd, e1], fun g o hg => ⟨rfl, fun h => h⟩⟩
 ·intro b1 b2 g o g' o' h1 h2 h3 h4 hne
  rw [Y5] at h1 h2
  simp only [Cx.upd] at h3 h4
  by_cases e1 : b1 = b
  ·rw [if_pos e1] at h3; cases h3
  by_cases e2 : b2 = b
  ·rw [if_pos e2] at h4; cases h4
  rw [if_neg e1] at h1 h3; rw [if_neg e2] at h2 h4
  exact hr.inj b1 b2 g o g' o' h1 h2 h3 h4 hne
 ·intro b1 g o h1 h2
  rw [Y5] at h1
  simp only [Cx.upd] at h2
  by_cases e1 : b1 = b
  ·rw [if_pos e1] at h2; cases h2
  ·rw [if_neg e1] at h1 h2
   exact hr.own b1 g o h1 h2
 ·refine ⟨.inr rfl, fun bk hbk => ?_⟩
  rw [Y5, if_pos rfl] at hbk
  cases hbk
  exact ⟨x, 0, rfl, Nat.le_refl _, by unfold maxLen; omega, by simp [Bk.len], .inl rfl⟩
theorem Qf3 {α : Type} {f : α → List PV} {L : List α} {x y z : Operand} {t el e : Nat} {k k' : IntKind} {tt te : TE} (h1 : st.ev x = .c (.p (.l e (L.map f)))) (h2 : st.ev y = .c (.p (.v (.int k 0)))) (h3 : st.ev z = .c (.p (.v (.int k' 0))))
  (ht : Zn T.ty t = some tt) (hk : tt.kd = .slice el) (hel : Zn T.ty el = some te) (he : te.size = e) (hpos : Nat.blt 0 e = true) (hx : Zf x = true) (hy : Zf y = true) (hz : Zf z = true) :
  ZC E N P ops ⟨some d, .slice t x none (some y) (some z), ty, pos, af, gd⟩ st ⟨[], [(d, 0)]⟩ ⟨.c (.sl (d, 0) 0 (([] : List α).map f).length), [((d, 0), some (.row e (([] : List α).map f) true))]⟩ := by
 intro st' ha hfr hd cx a w Q hr
 have hpos := Nat.le_of_ble_eq_true hpos
 obtain ⟨-, h4⟩ := Pt h1 hx ha (by simp [Op.operands]) hr
 have e2 := (Gh h2 hy ha (by simp [Op.operands]) hr).1
 have e3 := (Gh h3 hz ha (by simp [Op.operands]) hr).1
 revert h4
 generalize hv : a.eval x = v
 intro h4
 have hsh : ∃ a' n cap, v = .slice a' n cap := by cases h4 with | l _ _ a' cap c q1 q2 q3 q4 q5 => exact ⟨a', _, cap, rfl⟩
 obtain ⟨a', n, cap, rfl⟩ := hsh
 have hrun : ∃ x', (execOp a.eval ⟨some d, .slice t x none (some y) (some z), ty, pos, af, gd⟩).run P w = .ok (.value (.slice x' 0 0)) w := by
  refine ⟨a', ?_⟩
  simp only [execOp, hv, Sem.run_bind, Instr.sliceAt, Uu (KN ht hk), Result.andThen_ok, Instr.slice, Option.map_none, Option.map_some, e2, e3, Uv (T.ok _ _ hel), he, Sem.run_pure, Instr.sliceBounds, Instr.sliceBound, asIntOf]
  simp [Sem.run_bind, Sem.run_pure, Result.andThen_ok]
 obtain ⟨x', hrun⟩ := hrun
 exact Ut (v := .slice x' 0 0) (w' := w) hrun ⟨_, Qf2 hr hd (hd d rfl) (hfr _ (by simp)) hpos⟩
end
section
variable {E : En} {N : Nat} {P : Program} {T : Tb P} {ops : Array Oper} {o : Oper} {st : St} {d : Nat} {ty : Nat} {pos : String} {af : Array Edge} {gd : Option (Nat × Bool)} {cx : Cx} {a : Act} {w w' : World} {v : Value}
end
def gd {α : Type} : Bool → Option α → Option α
 | true, x => x
 | false, _ => none
theorem Kk {α : Type} {b : Bool} {x : Option α} {y : α} (h : gd b x = some y) : b = true ∧ x = some y := by
 cases b
 ·cases h
 ·exact ⟨rfl, h⟩
def MG {α : Type} : List α → Nat → Nat → Option (List α)
 | _, 0, 0 => some []
 | [], _, _ => none
 | a :: l, 0, n + 1 => match MG l 0 n with
  | some r => some (a :: r)
  | none => none
 | _ :: l, k + 1, n => MG l k n
theorem Gr {α : Type} : ∀ {l : List α} {k n : Nat} {r : List α}, MG l k n = some r → (l.drop k).take n = r ∧ r.length = n
 | l, 0, 0, r, h => by
  have : r = [] := by cases l <;> simp [MG] at h <;> exact h
  subst this; simp
 | [], 0, n + 1, r, h => by simp [MG] at h
 | [], k + 1, n, r, h => by cases n <;> simp [MG] at h
 | a :: l, 0, n + 1, r, h => by
  simp only [MG] at h
  cases h1 : MG l 0 n with
  | none => rw [h1] at h; cases h
  | some r' =>
   rw [h1] at h; cases h
   have := Gr h1
   simp only [List.drop_zero] at this
   simp [this.1, this.2]
 | a :: l, k + 1, n, r, h => by
  have h1 : MG l k n = some r := by cases n <;> exact h
  simpa using Gr h1
def Ot {α : Type} : List α → Nat → List α → Option (List α)
 | l, 0, [] => some l
 | _ :: l, 0, v :: vs => match Ot l 0 vs with
  | some r => some (v :: r)
  | none => none
 | c :: l, k + 1, vs => match Ot l k vs with
  | some r => some (c :: r)
  | none => none
 | [], _, _ => none
theorem Pd {α : Type} : ∀ {l : List α} {k : Nat} {vs r : List α}, Ot l k vs = some r → setAt l k vs = r
 | l, 0, [], r, h => by cases l <;> simp [Ot] at h <;> subst h <;> rfl
 | [], 0, v :: vs, r, h => by simp [Ot] at h
 | [], k + 1, vs, r, h => by cases vs <;> simp [Ot] at h
 | c :: l, 0, v :: vs, r, h => by
  simp only [Ot] at h
  cases h1 : Ot l 0 vs with
  | none => rw [h1] at h; cases h
  | some r' => rw [h1] at h; cases h; simp only [setAt, Pd h1]
 | c :: l, k + 1, vs, r, h => by
  have h2 : (match Ot l k vs with | some r => some (c :: r) | none => none) = some r := by cases vs <;> exact h
  cases h1 : Ot l k vs with
  | none => rw [h1] at h2; cases h2
  | some r' => rw [h1] at h2; cases h2; simp only [setAt, Pd h1]
def intW : BinOp → IntKind → Int → Int → Option Value
 | .and, k, a, b => some (.int k (QG k a b))
 | .or, k, a, b => some (.int k (bOr k a b))
 | .xor, k, a, b => some (.int k (Oq k a b))
 | .andNot, k, a, b => some (.int k (Qrn k a b))
 | o, k, a, b => Mr o k a b
theorem Qrs {o : BinOp} {k : IntKind} {a b : Int} : intW o k a b = Mr o k a b := by cases o <;> rfl
def shW : BinOp → IntKind → Int → Int → Option Value
 | .shl, k, a, b => gd (decide (0 ≤ b)) (some (.int k (Y7 k a b)))
 | .shr, k, a, b => gd (decide (0 ≤ b)) (some (.int k (QD k a b)))
 | _, _, _, _ => none
def Qvt : BinOp → Bool → Bool → Option Bool
 | .eql, a, b => some (a == b)
 | .neq, a, b => some (!(a == b))
 | _, _, _ => none
def isSh : BinOp → Bool
 | .shl | .shr => true
 | _ => false
variable {P : Program}
def Qd2 (T : Tb P) (st : St) : Op → Option (List Qw × TV)
 | .move x => gd (Zf x) (match st.ev x with
  | .c y => some ([], .c y)
  | .agg y => some ([], .agg y)
  | .tup y => some ([], .tup y))
 | .assign x => gd (Zf x) (match st.ev x with
  | .c y => some ([], .c y)
  | .agg y => some ([], .agg y)
  | .tup y => some ([], .tup y))
 | .nilCheck x => match st.ev x with
  | .c (.ptr b i k) => gd (Zf x && (st.h b).isSome) (some ([b], .c (.ptr b i k)))
  | _ => none
 | .fieldAddr s x f => match Zn T.ty s with
  | none => none
  | some ts => match ts.kd with
   | .struct fs => match fs[f]? with
    | none => none
    | some (off, ft) => match Zn T.ty ft with
     | none => none
     | some tf => gd (Zf x && !(Nat.beq tf.size 0)) (match st.ev x with
      | .c (.ptr b i k) => gd (st.h b).isSome (some ([b], .c (.ptr b i (Nat.add k off))))
      | .c (.ep r k) => some ([], .c (.ep r (Nat.add k off)))
      | _ => none)
   | _ => none
 | .load t x => match Zn T.ty t with
  | none => none
  | some te => gd (Zf x) (match st.ev x with
   | .c (.ptr b 0 k) => match st.h b with
    | some (.box all fm) => match te.kd.agg with
     | false => match all[k]? with
      | some c => some ([b], .c c)
      | none => none
     | true => match Nat.beq k 0 && Nat.beq all.length te.size with
      | true => some ([b], .agg all)
      | false => match MG all k te.size with
       | some cs => some ([b], .agg cs)
       | none => none
    | _ => none
   | .c (.ep r k) => match te.kd.agg with
    | false => match r[k]? with
     | some p => some ([], .c (.p p))
     | none => none
    | true => match Nat.beq k 0 && Nat.beq r.length te.size with
     | true => some ([], .agg (r.map .p))
     | false => match MG r k te.size with
      | some ps => some ([], .agg (ps.map .p))
      | none => none
   | _ => none)
 | .extract x i => gd (Zf x) (match st.ev x with
  | .tup ts => match ts[i]? with
   | some (.c y) => some ([], .c y)
   | some (.agg y) => some ([], .agg y)
   | _ => none
  | _ => none)
 | .unOp .not _ x => gd (Zf x) (match st.ev x with
  | .c (.p (.v (.bool b))) => some ([], .c (.p (.v (.bool (!b)))))
  | _ => none)
 | .unOp .neg _ x => gd (Zf x) (match st.ev x with
  | .c (.p (.v (.int k a))) => some ([], .c (.p (.v (.int k (k.wrap (0 - a))))))
  | _ => none)
 | .binOp o xt x y _ => gd (Zf x && Zf y) (match st.ev x, st.ev y with
  | .c (.p (.v (.int k a))), .c (.p (.v (.int k' b))) => match isSh o with
   | true => match shW o k a b with
    | some z => some ([], .c (.p (.v z)))
    | none => none
   | false => match decide (k = k') with
    | true => match intW o k a b with
     | some z => some ([], .c (.p (.v z)))
     | none => none
    | false => none
  | .c (.p (.v (.string a))), .c (.p (.v (.string b))) => match Qim o a b with
   | some c => some ([], .c (.p (.v (.bool c))))
   | none => none
  | .c (.p (.v (.bool a))), .c (.p (.v (.bool b))) => match (Zn T.ty xt).map (·.kd) with
   | some KD.bool => match Qvt o a b with
    | some c => some ([], .c (.p (.v (.bool c))))
    | none => none
   | _ => none
  | _, _ => none)
 | .convert s t x => match Zn T.ty s with
  | none => none
  | some ts => match Zn T.ty t with
   | none => none
   | some te => match te.kd with
    | .int k' => gd (Zf x) (match st.ev x with
     | .c (.p (.v (.int k a))) => some ([], .c (.p (.v (.int k' (k'.wrap a)))))
     | _ => none)
    | _ => none
 | .build t parts => match Zn T.ty t with
  | none => none
  | some tt => match tt.kd with
   | .struct fs => match Qa2 T.ty fs with
    | none => none
    | some pl => gd (tt.zero.cells.toList.all Jm && parts.toList.all (fun x => Zf x.2)) (match La (fun i => pl[i]?) (tt.zero.cells.toList.map fun v => .p (.v v)) (parts.toList.map fun x => (x.1, st.ev x.2)) with
     | none => none
     | some cs => gd (Nat.beq cs.length tt.size) (match MG cs 0 tt.size with
      | some cs' => some ([], .agg cs')
      | none => none))
   | _ => none
 | _ => none
variable {E : En} {N : Nat} {T : Tb P} {ops : Array Oper} {st : St} {d : Nat} {ty : Nat} {pos : String} {af : Array Edge} {gg : Option (Nat × Bool)}
theorem Qd3 {α : Type} {l r : List α} {n : Nat} (h : MG l 0 n = some r) (hl : Nat.beq l.length n = true) : l = r := by
 have := (Gr h).1
 rw [← this, List.drop_zero, ← Nat.eq_of_beq_eq_true hl, List.take_length]
theorem Q64 {op : Op} {rb : List Qw} {t : TV} (h : Qd2 T st op = some (rb, t)) : ZC E N P ops ⟨some d, op, ty, pos, af, gg⟩ st ⟨rb, []⟩ ⟨t, []⟩ := by
 unfold Qd2 at h
 split at h
 ·obtain ⟨hc, h⟩ := Kk h
  split at h <;> cases h <;> exact Q5l hc (by assumption)
 ·obtain ⟨hc, h⟩ := Kk h
  split at h <;> cases h <;> exact Q9k hc (by assumption)
 ·split at h
  ·rename_i hx
   obtain ⟨hc, h⟩ := Kk h
   cases h
   simp only [Bool.and_eq_true] at hc
   exact Q11 hx hc.2 hc.1
  ·cases h
 ·split at h
  ·cases h
  ·rename_i ts hs
   split at h
   ·rename_i fs hk
    split at h
    ·cases h
    ·rename_i off ft hf
     split at h
     ·cases h
     ·rename_i tf hft
      obtain ⟨hc, h⟩ := Kk h
      simp only [Bool.and_eq_true, Bool.not_eq_true'] at hc
      split at h
      ·rename_i hx
       obtain ⟨hb, h⟩ := Kk h
       cases h
       exact Zj hx hb hs hk hf hft hc.2 rfl hc.1
      ·rename_i hx
       cases h
       exact Q9z hx hs hk hf hft hc.2 rfl hc.1
      ·cases h
   ·cases h
 ·split at h
  ·cases h
  ·rename_i te ht
   obtain ⟨hc, h⟩ := Kk h
   split at h
   ·rename_i hx
    split at h
    ·rename_i all hb
     split at h
     ·rename_i hk
      split at h
      ·rename_i hc3; cases h; exact QB hx hb hc3 ht hk hc
      ·cases h
     ·rename_i hk
      split at h
      ·rename_i h0
       simp only [Bool.and_eq_true] at h0
       have e1 := Nat.eq_of_beq_eq_true h0.1
       have e2 := Nat.eq_of_beq_eq_true h0.2
       cases h
       refine Ca hx hb ht hk ?_ e2 hc
       rw [e1, List.drop_zero, ← e2, List.take_length]
      ·split at h
       ·rename_i hcut; cases h; exact Ca hx hb ht hk (Gr hcut).1 (Gr hcut).2 hc
       ·cases h
    ·cases h
   ·rename_i hx
    split at h
    ·rename_i hk
     split at h
     ·rename_i hp; cases h; exact Q5m hx hp ht hk hc
     ·cases h
    ·rename_i hk
     split at h
     ·rename_i h0
      simp only [Bool.and_eq_true] at h0
      have e1 := Nat.eq_of_beq_eq_true h0.1
      have e2 := Nat.eq_of_beq_eq_true h0.2
      cases h
      refine Ms hx ht hk (ps := _) ?_ rfl (by rw [List.length_map]; exact e2) hc
      rw [e1, List.drop_zero, ← e2, List.take_length]
     ·split at h
      ·rename_i hcut; cases h; exact Ms hx ht hk (Gr hcut).1 rfl (by rw [List.length_map]; exact (Gr hcut).2) hc
      ·cases h
   ·cases h
 ·obtain ⟨hc, h⟩ := Kk h
  split at h
  ·rename_i hx
   split at h
   ·rename_i hi; cases h; exact SC hx hi hc
   ·rename_i hi; cases h; exact SD hx hi hc
   ·cases h
  ·cases h
 ·obtain ⟨hc, h⟩ := Kk h
  split at h
  ·rename_i hx; cases h; exact Vo hx rfl hc
  ·cases h
 ·obtain ⟨hc, h⟩ := Kk h
  split at h
  ·rename_i hx; cases h; exact Qrc hx rfl hc
  ·cases h
 ·obtain ⟨hc, h⟩ := Kk h
  simp only [Bool.and_eq_true] at hc
  split at h
  ·rename_i hx hy
   split at h
   ·split at h
    ·rename_i hz
     cases h
     unfold shW at hz
     split at hz
     ·obtain ⟨hb, hz⟩ := Kk hz; cases hz; exact Qcy (of_decide_eq_true hb) hx hy hc.1 hc.2
     ·obtain ⟨hb, hz⟩ := Kk hz; cases hz; exact Qcz (of_decide_eq_true hb) hx hy hc.1 hc.2
     ·cases hz
    ·cases h
   ·split at h
    ·rename_i hk
     have hk := of_decide_eq_true hk
     subst hk
     split at h
     ·rename_i hz; cases h; exact P7 hx hy (by rw [← hz, Qrs]) hc.1 hc.2
     ·cases h
    ·cases h
  ·rename_i hx hy
   split at h
   ·rename_i hz; cases h; exact Q12 hx hy hz hc.1 hc.2
   ·cases h
  ·rename_i hx hy
   split at h
   ·rename_i hk
    obtain ⟨te, ht, hk⟩ := Option.map_eq_some_iff.1 hk
    split at h
    ·rename_i hz
     cases h
     unfold Qvt at hz
     split at hz
     ·cases hz; exact Qzo hx hy ht hk hc.1 hc.2
     ·cases hz; exact Qzp hx hy ht hk hc.1 hc.2
     ·cases hz
    ·cases h
   ·cases h
  ·cases h
 ·split at h
  ·cases h
  ·rename_i ts hs
   split at h
   ·cases h
   ·rename_i te ht
    split at h
    ·rename_i hk
     obtain ⟨hc, h⟩ := Kk h
     split at h
     ·rename_i hx; cases h; exact Qin hx hs ht hk rfl hc
     ·cases h
    ·cases h
 ·split at h
  ·cases h
  ·rename_i tt ht
   split at h
   ·rename_i fs hk
    split at h
    ·cases h
    ·rename_i pl hpl
     obtain ⟨hc, h⟩ := Kk h
     simp only [Bool.and_eq_true] at hc
     split at h
     ·cases h
     ·rename_i cs hf
      obtain ⟨hl, h⟩ := Kk h
      split at h
      ·rename_i cs' hcut
       cases h
       have := Qd3 hcut hl
       subst this
       exact HM ht hk hpl rfl hc.1 hf hc.2
      ·cases h
   ·cases h
 ·cases h
def Qf4 (T : Tb P) (st : St) : Oper → Option (Fp × Ef)
 | ⟨some d, .alloc el, _, _, _, none⟩ => match Zn T.ty el with
  | none => none
  | some te => gd (te.zero.cells.toList.all Jm) (match MG (te.zero.cells.toList.map fun v => CV.p (.v v)) 0 te.size with
   | some cs => gd (Nat.beq te.zero.cells.toList.length te.size) (some (⟨[], [(d, 0)]⟩, ⟨.c (.ptr (d, 0) 0 0), [((d, 0), some (.box cs))]⟩))
   | none => none)
 | ⟨some d, .box el x, _, _, _, none⟩ => gd (Zf x) (match st.ev x with
  | .c y => gd (TV.known (.c y)) (some (⟨[], [(d, 0)]⟩, ⟨.c (.ptr (d, 0) 0 0), [((d, 0), some (.box [y]))]⟩))
  | .agg cs => some (⟨[], [(d, 0)]⟩, ⟨.c (.ptr (d, 0) 0 0), [((d, 0), some (.box cs))]⟩)
  | _ => none)
 | ⟨some _, op, _, _, _, none⟩ => match Qd2 T st op with
  | some (rb, t) => some (⟨rb, []⟩, ⟨t, []⟩)
  | none => none
 | ⟨none, .store t x y, _, _, _, none⟩ => match Zn T.ty t with
  | none => none
  | some te => gd (Zf x && Zf y) (match st.ev x with
   | .c (.ptr b 0 k) => match st.h b with
    | some (.box all fm) => match st.ev y with
     | .c v => gd (TV.known (.c v) && Nat.beq 1 te.size && Nat.ble (k + 1) all.length) (match Ot all k [v] with
      | some all' => some (⟨[b], []⟩, ⟨.c .any, [(b, some (.box all' fm))]⟩)
      | none => none)
     | .agg cs => gd (Nat.beq cs.length te.size && Nat.ble (k + cs.length) all.length) (match Nat.beq k 0 && Nat.beq all.length te.size with
      | true => some (⟨[b], []⟩, ⟨.c .any, [(b, some (.box cs fm))]⟩)
      | false => match Ot all k cs with
       | some all' => some (⟨[b], []⟩, ⟨.c .any, [(b, some (.box all' fm))]⟩)
       | none => none)
     | _ => none
    | _ => none
   | _ => none)
 | _ => none
theorem Q0h {α : Type} : ∀ {l cs : List α}, l.length = cs.length → setAt l 0 cs = cs
 | [], [], _ => rfl
 | [], _ :: _, h => by simp at h
 | _ :: _, [], h => by simp at h
 | _ :: l, c :: cs, h => by simp only [setAt]; rw [Q0h (by simpa using h)]
theorem Pe {o : Oper} {f : Fp} {ef : Ef} (h : Qf4 T st o = some (f, ef)) : o.guard = none ∧ ZC E N P ops o st f ef := by
 unfold Qf4 at h
 split at h
 ·split at h
  ·cases h
  ·rename_i te he
   obtain ⟨ha, h⟩ := Kk h
   split at h
   ·rename_i cs hcut
    obtain ⟨hl, h⟩ := Kk h
    cases h
    have := Qd3 hcut (by rw [List.length_map]; exact hl)
    subst this
    exact ⟨rfl, Qet he rfl ha⟩
   ·cases h
 ·obtain ⟨hc, h⟩ := Kk h
  split at h
  ·rename_i hx; obtain ⟨hk, h⟩ := Kk h; cases h; exact ⟨rfl, Qex hx hk hc⟩
  ·rename_i hx; cases h; exact ⟨rfl, Qey hx hc⟩
  ·cases h
 ·split at h
  ·rename_i hp; cases h; exact ⟨rfl, Q64 hp⟩
  ·cases h
 ·split at h
  ·cases h
  ·rename_i te ht
   obtain ⟨hc, h⟩ := Kk h
   simp only [Bool.and_eq_true] at hc
   split at h
   ·rename_i hx
    split at h
    ·rename_i all hb
     split at h
     ·rename_i v hv
      obtain ⟨hg, h⟩ := Kk h
      simp only [Bool.and_eq_true] at hg
      split at h
      ·rename_i hs; cases h; exact ⟨rfl, Qj2 hx hb hv hg.1.1 ht (Nat.eq_of_beq_eq_true hg.1.2) hg.2 (Pd hs) hc.1 hc.2⟩
      ·cases h
     ·rename_i cs hv
      obtain ⟨hg, h⟩ := Kk h
      simp only [Bool.and_eq_true] at hg
      split at h
      ·rename_i h0
       simp only [Bool.and_eq_true] at h0
       have e1 := Nat.eq_of_beq_eq_true h0.1
       have e2 := Nat.eq_of_beq_eq_true h0.2
       have e3 := Nat.eq_of_beq_eq_true hg.1
       cases h
       exact ⟨rfl, Q60 hx hb hv ht e3 hg.2 (by rw [e1]; exact Q0h (by omega)) hc.1 hc.2⟩
      ·split at h
       ·rename_i hs; cases h; exact ⟨rfl, Q60 hx hb hv ht (Nat.eq_of_beq_eq_true hg.1) hg.2 (Pd hs) hc.1 hc.2⟩
       ·cases h
     ·cases h
    ·cases h
   ·cases h
 ·cases h
def Q1i (T : Tb P) : Nat → List Oper → St → List (Fp × Ef) → Option (List Oper × St × List (Fp × Ef))
 | 0, l, st, acc => some (l, st, acc)
 | n + 1, o :: r, ⟨fr, H⟩, acc => match Qf4 T ⟨fr, H⟩ o, o.dst with
  | some (f, ⟨t, []⟩), some d => Q1i T n r ⟨(d, t) :: fr, H⟩ ((f, ⟨t, []⟩) :: acc)
  | some (f, ⟨t, [b]⟩), some d => Q1i T n r ⟨(d, t) :: fr, b :: H⟩ ((f, ⟨t, [b]⟩) :: acc)
  | some (f, ⟨t, [b]⟩), none => Q1i T n r ⟨fr, b :: H⟩ ((f, ⟨t, [b]⟩) :: acc)
  | _, _ => none
 | _ + 1, [], _, _ => none
theorem Q1j {o : Oper} {r : List Oper} {acc : List (Fp × Ef)} {f : Fp} {ef : Ef} {K : List (Fp × Ef) → St → Prop} (h : o.guard = none ∧ ZC E N P ops o st f ef) (hk : Ac E N P ops r ((f, ef) :: acc) (ef.ap o st) K) : Ac E N P ops (o :: r) acc st K :=
 ⟨f, ef, .inl ⟨by simp [wn, h.1], h.2⟩, hk⟩
theorem MH {K : List (Fp × Ef) → St → Prop} : ∀ {n : Nat} {l l' : List Oper} {st st' : St} {acc acc' : List (Fp × Ef)}, Q1i T n l st acc = some (l', st', acc') → Ac E N P ops l' acc' st' K → Ac E N P ops l acc st K
 | 0, l, l', st, st', acc, acc', h, hk => by simp only [Q1i] at h; cases h; exact hk
 | n + 1, [], l', st, st', acc, acc', h, hk => by simp [Q1i] at h
 | n + 1, o :: r, l', ⟨fr, H⟩, st', acc, acc', h, hk => by
  simp only [Q1i] at h
  split at h
  ·rename_i h1 h2
   refine Q1j (Pe h1) ?_
   have := MH h hk
   simpa [Ef.ap, h2] using this
  ·rename_i h1 h2
   refine Q1j (Pe h1) ?_
   have := MH h hk
   simpa [Ef.ap, h2] using this
  ·rename_i h1 h2
   refine Q1j (Pe h1) ?_
   have := MH h hk
   simpa [Ef.ap, h2] using this
  ·cases h
theorem dN [T : Tb P] (n : Nat) {l l' : List Oper} {st st' : St} {acc acc' : List (Fp × Ef)} {K : List (Fp × Ef) → St → Prop} (h : Q1i T n l st acc = some (l', st', acc')) (hk : Ac E N P ops l' acc' st' K) : Ac E N P ops l acc st K := MH h hk
def Qf5 (T : Tb P) (N : Nat) (l : List Oper) (st : St) : Option St := match Q1i T l.length l st [] with
 | some ([], st', acc) => gd (Q9i N l && (Q0z acc.reverse && Ad st acc)) (some st')
 | _ => none
variable {Q : Exit → St → Prop}
theorem Qd4 {l : List Oper} {st' : St} {K : St → Prop} (h : Qf5 T N l st = some st') (hk : K st') : Q9i N l = true ∧ Ac E N P l.toArray l [] st fun acc s => Q0z acc.reverse = true ∧ Ad st acc = true ∧ K s := by
 unfold Qf5 at h
 split at h
 ·rename_i hd
  obtain ⟨hg, h⟩ := Kk h
  cases h
  simp only [Bool.and_eq_true] at hg
  exact ⟨hg.1, MH hd (Q10 ⟨hg.2.1, hg.2.2, hk⟩)⟩
 ·cases h
theorem tD [T : Tb P] {x : List Oper} {id : Nat} {y : Code} {st' : St} (h : Qf5 T N x st = some st') (k : AW E N P y Q st') : AW E N P (.seq (.region id x.toArray false) y) Q st :=
 have := Qd4 (E := E) (K := AW E N P y Q) h k
 Q9u (P8 this.1 this.2)
theorem tE [T : Tb P] {x : List Oper} {id : Nat} {st' : St} (h : Qf5 T N x st = some st') (k : Q .normal st') : AW E N P (.region id x.toArray false) Q st :=
 have := Qd4 (E := E) (K := Q .normal) h k
 P8 this.1 this.2
theorem cn {c : Operand} {x y : Code} {b : Bool} {A B : Prop} (h : (b = true → A) ∧ (b = false → B)) (ht : A → AW E N P x Q st) (hf : B → AW E N P y Q st) (hb : st.ev c = .c (.p (.v (.bool b))) := by exact rfl) (hc : Zf c = true := by exact rfl) : AW E N P (.cond c x y) Q st := Q16 hb hc (fun e => ht (h.1 e)) (fun e => hf (h.2 e))
theorem Ae.fit {st' : St} (h1 : okS (st'.H.map fun x => (x.1, x.1)) = true := by exact rfl) (h : st.norm (st'.fr.map (·.1)) (st'.H.map fun x => (x.1, x.1)) = st' := by kernel_rfl) : Ae st st' := Ae.nm _ _ h1 h
def SF : List CV → Option (List PV)
 | [] => some []
 | .p x :: r => match SF r with
  | some l => some (x :: l)
  | none => none
 | _ => none
def Qa9 : List TV → Option (List AV)
 | [] => some []
 | .c (.p x) :: r => match Qa9 r with
  | some l => some (.c x :: l)
  | none => none
 | .agg cs :: r => match SF cs, Qa9 r with
  | some a, some l => some (.agg a :: l)
  | _, _ => none
 | _ => none
theorem Qd5 : ∀ {cs : List CV} {xs : List PV}, SF cs = some xs → Gp st cs xs []
 | [], xs, h => by simp only [SF] at h; cases h; exact .nil
 | .p x :: r, xs, h => by
  simp only [SF] at h
  split at h
  ·rename_i l hl; cases h; exact .cons (.p _) (Qd5 hl)
  ·cases h
 | .any :: r, xs, h => by simp [SF] at h
 | .ptr _ _ _ :: r, xs, h => by simp [SF] at h
 | .sl _ _ _ :: r, xs, h => by simp [SF] at h
 | .ep _ _ :: r, xs, h => by simp [SF] at h
 | .mp _ :: r, xs, h => by simp [SF] at h
theorem Qd6 {ts : List TV} {avs : List AV} (h : Qa9 ts = some avs) : MA st ts avs [] := by
 induction ts generalizing avs with
 | nil => simp only [Qa9] at h; cases h; exact .nil
 | cons t r ih =>
  unfold Qa9 at h
  split at h
  ·rename_i e; cases e
  ·rename_i e
   cases e
   split at h
   ·rename_i l hl; cases h; exact .cons (.c (.p _)) (ih hl)
   ·cases h
  ·rename_i e
   cases e
   split at h
   ·rename_i a l ha hl; cases h; exact .cons (.agg (Qd5 ha)) (ih hl)
   ·cases h
  ·cases h
theorem Q1k {f : FuncId} {xs : Array Operand} {tys : Array TypeId} {avs : List AV} {r : List RS} {t : TV} (hcon : Va P f avs r []) (hn : avs.any AV.isRef = false := by exact rfl) (hok : xs.toList.all Zf = true := by exact rfl) (hargs : Qa9 (xs.toList.map st.ev) = some avs := by exact rfl) (hids : (AX d 0 (QP r)).map (·.1) = [] := by exact rfl) (hbl : AX d 0 (QP r) ++ YJ st [] = [] := by exact rfl) (ht : IG d r = t := by exact rfl) :
  ZC E N P ops ⟨some d, .call { callee := .value (.func f), args := xs, argTypes := tys }, ty, pos, af, gg⟩ st ⟨[], []⟩ ⟨t, []⟩ := Uw hcon hn hok (Qd6 hargs) hids hbl ht
theorem cal1 {f : FuncId} {xs : Array Operand} {tys : Array TypeId} {avs : List AV} {r : List RS} {ids : List Qw} {bl : List (Qw × Option Bk)} {t : TV} (hcon : Va P f avs r []) (hn : avs.any AV.isRef = false := by exact rfl) (hok : xs.toList.all Zf = true := by exact rfl) (hargs : Qa9 (xs.toList.map st.ev) = some avs := by exact rfl)
  (hids : (AX d 0 (QP r)).map (·.1) = ids := by exact rfl) (hbl : AX d 0 (QP r) ++ YJ st [] = bl := by exact rfl) (ht : IG d r = t := by exact rfl) :
  ZC E N P ops ⟨some d, .call { callee := .value (.func f), args := xs, argTypes := tys }, ty, pos, af, gg⟩ st ⟨[], ids⟩ ⟨t, bl⟩ := HL hcon hn hok (Qd6 hargs) hids hbl ht
abbrev ct (c : Bool) (A B : Prop) : Prop := (c = true → A) ∧ (c = false → B)
abbrev cs (c : Bool) (A B : Prop) : Prop := ct c A B
abbrev jo {α : Type} (S : α → St → Option St) (k : α → Prop) (m : (α → Prop) → Prop) : Prop := jn k m
abbrev lo {σ : Type} (S : σ → St → Option St) (step : (σ → Prop) → σ → Prop) (s : σ) : Prop := lp step s
abbrev lv {σ : Type} (I : σ → Prop) (m : σ → Nat) (S : σ → St → Option St) (step : (σ → Prop) → σ → Prop) (s : σ) : Prop := lo S step s
def Qh {α : Sort _} (x : α) (K : Prop) : Prop := K
abbrev tI (n : Int) : TV := .c (.p (.v (.int .i64 n)))
abbrev tB (b : Bool) : TV := .c (.p (.v (.bool b)))
abbrev tS (s : ByteArray) : TV := .c (.p (.v (.string s)))
abbrev hval {α : Sort _} {x : α} {K : Prop} (_ : Qh x K) : α := x
theorem Qh.out {α : Sort _} {x : α} {K : Prop} (h : Qh x K) : K := h
def Rr {R : Type} (W : (R → Prop) → Prop) (r : R) : Prop := W fun x => r = x
inductive Xw : List Prop → Prop
 | nil : Xw []
 | cons {p : Prop} {l : List Prop} (h : p) (hs : Xw l) : Xw (p :: l)
theorem Xw.app {l r : List Prop} (h : Xw (l ++ r)) : Xw l ∧ Xw r := by
 induction l with
 | nil => exact ⟨.nil, h⟩
 | cons p l ih => cases h with | cons h hs => exact ⟨.cons h (ih hs).1, (ih hs).2⟩
def nrm : Code → Nat → Nat × Nat
 | .skip, _ => (1, 0)
 | .region _ _ _, _ => (1, 0)
 | .seq a b, i => match nrm a i, nrm b i with
  | (0, x), _ => (0, x)
  | (_ + 1, x), (n, y) => (n, Nat.add x y)
 | .cond _ a b, i => match nrm a i, nrm b i with
  | (n, x), (m, y) => (Nat.add n m, Nat.add x y)
 | .block id c, i => (Nat.add (nrm c id).1 (nrm c id).2, (nrm c i).2)
 | .loop c, i => (0, (nrm c i).2)
 | .exit j, i => (0, match Nat.beq i j with | true => 1 | false => 0)
 | .label _, _ => (1, 0)
 | .scope _, _ => (1, 0)
 | _, _ => (0, 0)
def Qaa : Code → Bool
 | .seq a b => Qaa a || Qaa b
 | .cond _ a b => Qaa a || Qaa b
 | .block _ c => Qaa c
 | .scope c => Qaa c
 | .loop _ => true
 | _ => false
def isJ (c : Code) : Bool := Qaa c || !(Nat.ble (nrm c 99999).1 1)
def G1 {α : Type} : List α → List α → Option (List α)
 | [], g => some g
 | x :: r, g => match G1 r g with
  | some l => some (x :: l)
  | none => none
theorem KO {α : Type} : ∀ {l g r : List α}, G1 l g = some r → r = l ++ g
 | [], g, r, h => by cases h; rfl
 | x :: l, g, r, h => by
  simp only [G1] at h
  split at h
  ·rename_i l' hl; cases h; rw [KO hl]; rfl
  ·cases h
def kpN : List Nat → List (Nat × TV) → Option (List (Nat × TV))
 | [], _ => some []
 | k :: ks, fr => match Zn fr k with
  | some t => match kpN ks fr with
   | some l => some ((k, t) :: l)
   | none => none
  | none => none
def kpB : List Qw → List (Qw × Option Bk) → Option (List (Qw × Option Bk))
 | [], _ => some []
 | k :: ks, H => match XZ H k with
  | some t => match kpB ks H with
   | some l => some ((k, t) :: l)
   | none => none
  | none => none
def Qru (st : St) : List (Qw × Option Bk) → List (Qw × Option Bk)
 | [] => []
 | (b, some (.box cs none)) :: r => match st.h b with
  | some (.box _ f) => (b, some (.box cs f)) :: Qru st r
  | _ => (b, some (.box cs none)) :: Qru st r
 | x :: r => x :: Qru st r
def sh (ks : List Nat) (bs : List Qw) (fr : List (Nat × TV)) (H : List (Qw × Option Bk)) (st : St) : Option St := match kpN ks st.fr, kpB bs st.H with
 | some a, some b => match G1 fr a, G1 (Qru st H) b with
  | some x, some y => some ⟨x, y⟩
  | _, _ => none
 | _, _ => none
structure ZU where
 ks : List Nat
 bs : List Qw
 fp : Nat
def fpC : Code → Nat
 | .seq a _ => fpC a
 | .loop c => fpC c
 | .scope c => fpC c
 | .block _ c => fpC c
 | .region id _ _ => Nat.add id 1
 | .cond (.tmp k) _ _ => Nat.add 100000 k
 | .cond _ _ _ => 100000
 | _ => 0
section
variable {P : Program}
def isBox : Option Bk → Bool
 | some (.box _ _) => true
 | _ => false
def isC : Operand → Bool
 | .const _ => true
 | _ => false
def Qvu (st : St) (x : Operand) : Bool := match st.ev x with
 | .c (.ptr b _ _) => isBox (st.h b)
 | .c (.ep _ _) => true
 | _ => false
def mmN : List Nat → Nat → Bool
 | [], _ => false
 | a :: r, x => Nat.beq a x || mmN r x
def tmpOK (gs : List Nat) : Operand → Bool
 | .tmp k => !mmN gs k
 | _ => true
def Qzt : List Oper → List Nat
 | [] => []
 | ⟨some d, _, _, _, _, some _⟩ :: r => d :: Qzt r
 | _ :: r => Qzt r
def okO (gs : List Nat) (st : St) : Oper → Bool
 | ⟨_, op, _, _, _, none⟩ => op.operands.toList.all (tmpOK gs) && match op with
  | .binOp .quo _ _ y _ | .binOp .rem _ _ y _ | .binOp .shl _ _ y _ | .binOp .shr _ _ y _ => isC y
  | .load _ x => Qvu st x
  | .store _ x _ => Qvu st x
  | .move _ | .assign _ | .nilCheck _ | .fieldAddr _ _ _ | .extract _ _ | .unOp _ _ _ | .binOp _ _ _ _ _ | .convert _ _ _ | .build _ _ | .alloc _ | .box _ _ => true
  | _ => false
 | _ => false
def Q1l (T : Tb P) (gs : List Nat) : List Oper → St → List (Fp × Ef) → Option (List Oper × St × List (Fp × Ef))
 | [], st, acc => some ([], st, acc)
 | o :: r, ⟨fr, H⟩, acc => match okO gs ⟨fr, H⟩ o with
  | false => some (o :: r, ⟨fr, H⟩, acc)
  | true => match Qf4 T ⟨fr, H⟩ o, o.dst with
   | some (f, ⟨t, []⟩), some d => Q1l T gs r ⟨(d, t) :: fr, H⟩ ((f, ⟨t, []⟩) :: acc)
   | some (f, ⟨t, [b]⟩), some d => Q1l T gs r ⟨(d, t) :: fr, b :: H⟩ ((f, ⟨t, [b]⟩) :: acc)
   | some (f, ⟨t, [b]⟩), none => Q1l T gs r ⟨fr, b :: H⟩ ((f, ⟨t, [b]⟩) :: acc)
   | _, _ => some (o :: r, ⟨fr, H⟩, acc)
def detP (T : Tb P) (gs : List Nat) : List Oper → St → List (Fp × Ef) → Option (List Oper × St × List (Fp × Ef))
 | [], _, _ => none
 | o :: r, ⟨fr, H⟩, acc => match okO gs ⟨fr, H⟩ o with
  | false => none
  | true => match Qf4 T ⟨fr, H⟩ o, o.dst with
   | some (f, ⟨t, []⟩), some d => Q1l T gs r ⟨(d, t) :: fr, H⟩ ((f, ⟨t, []⟩) :: acc)
   | some (f, ⟨t, [b]⟩), some d => Q1l T gs r ⟨(d, t) :: fr, b :: H⟩ ((f, ⟨t, [b]⟩) :: acc)
   | some (f, ⟨t, [b]⟩), none => Q1l T gs r ⟨fr, b :: H⟩ ((f, ⟨t, [b]⟩) :: acc)
   | _, _ => none
variable {E : En} {N : Nat} {T : Tb P} {ops : Array Oper} {st st' : St} {d : Nat} {ty : Nat} {pos : String} {af : Array Edge} {gg : Option (Nat × Bool)} {K : List (Fp × Ef) → St → Prop} {Q : Exit → St → Prop}
theorem Qf6 {o : Oper} {r : List Oper} {fr : List (Nat × TV)} {H : List (Qw × Option Bk)} {acc : List (Fp × Ef)} {f : Fp} {ef : Ef} (h : Qf4 T ⟨fr, H⟩ o = some (f, ef)) (hk : Ac E N P ops r ((f, ef) :: acc) (ef.ap o ⟨fr, H⟩) K) : Ac E N P ops (o :: r) acc ⟨fr, H⟩ K := Q1j (Pe h) hk
theorem IC {gs : List Nat} : ∀ {l l' : List Oper} {st st' : St} {acc acc' : List (Fp × Ef)}, Q1l T gs l st acc = some (l', st', acc') → Ac E N P ops l' acc' st' K → Ac E N P ops l acc st K
 | [], l', st, st', acc, acc', h, hk => by simp only [Q1l] at h; cases h; exact hk
 | o :: r, l', ⟨fr, H⟩, st', acc, acc', h, hk => by
  simp only [Q1l] at h
  split at h
  ·cases h; exact hk
  ·split at h
   ·rename_i h1 h2
    refine Qf6 h1 ?_
    have := IC h hk
    simpa [Ef.ap, h2] using this
   ·rename_i h1 h2
    refine Qf6 h1 ?_
    have := IC h hk
    simpa [Ef.ap, h2] using this
   ·rename_i h1 h2
    refine Qf6 h1 ?_
    have := IC h hk
    simpa [Ef.ap, h2] using this
   ·cases h; exact hk
theorem dM [T : Tb P] {l l' : List Oper} {acc acc' : List (Fp × Ef)} (h : detP T (Qzt ops.toList) l st acc = some (l', st', acc')) (hk : Ac E N P ops l' acc' st' K) : Ac E N P ops l acc st K := by
 unfold detP at h
 split at h
 ·cases h
 ·split at h
  ·cases h
  ·split at h
   ·rename_i h1 h2
    refine Qf6 h1 ?_
    have := IC h hk
    simpa [Ef.ap, h2] using this
   ·rename_i h1 h2
    refine Qf6 h1 ?_
    have := IC h hk
    simpa [Ef.ap, h2] using this
   ·rename_i h1 h2
    refine Qf6 h1 ?_
    have := IC h hk
    simpa [Ef.ap, h2] using this
   ·cases h
theorem e1 {op : Op} {r : List Oper} {fr : List (Nat × TV)} {H H' : List (Qw × Option Bk)} {acc : List (Fp × Ef)} {f : Fp} {t : TV} {bl : List (Qw × Option Bk)} (w : wn ops ⟨some d, op, ty, pos, af, gg⟩ ⟨fr, H⟩ = some true) (a : ZC E N P ops ⟨some d, op, ty, pos, af, gg⟩ ⟨fr, H⟩ f ⟨t, bl⟩) (c : G1 bl H = some H') (b : Ac E N P ops r ((f, ⟨t, bl⟩) :: acc) ⟨(d, t) :: fr, H'⟩ K) :
  Ac E N P ops (⟨some d, op, ty, pos, af, gg⟩ :: r) acc ⟨fr, H⟩ K := by
 rw [KO c] at b
 exact Qcw w a b
theorem e0 {op : Op} {r : List Oper} {fr : List (Nat × TV)} {H H' : List (Qw × Option Bk)} {acc : List (Fp × Ef)} {f : Fp} {t : TV} {bl : List (Qw × Option Bk)} (w : wn ops ⟨none, op, ty, pos, af, gg⟩ ⟨fr, H⟩ = some true) (a : ZC E N P ops ⟨none, op, ty, pos, af, gg⟩ ⟨fr, H⟩ f ⟨t, bl⟩) (c : G1 bl H = some H') (b : Ac E N P ops r ((f, ⟨t, bl⟩) :: acc) ⟨fr, H'⟩ K) :
  Ac E N P ops (⟨none, op, ty, pos, af, gg⟩ :: r) acc ⟨fr, H⟩ K := by
 rw [KO c] at b
 refine ⟨f, ⟨t, bl⟩, .inl ⟨w, a⟩, ?_⟩
 simpa [Ef.ap] using b
theorem eg {op : Op} {r : List Oper} {fr : List (Nat × TV)} {H : List (Qw × Option Bk)} {acc : List (Fp × Ef)} {f : Fp} {t : TV} {j dj : Nat} {want b g g0 : Bool} (hj : (ops[j]?).bind (·.dst) = some dj) (hb : (⟨fr, H⟩ : St).g dj = gt g0 (.c (.p (.v (.bool b))))) (hg : (g0 && (b == want)) = g) (a : g = true → ZC E N P ops ⟨some d, op, ty, pos, af, some (j, want)⟩ ⟨fr, H⟩ f ⟨t, []⟩)
  (k : Ac E N P ops r ((f, ⟨gt g t, []⟩) :: acc) ⟨(d, gt g t) :: fr, H⟩ K) : Ac E N P ops (⟨some d, op, ty, pos, af, some (j, want)⟩ :: r) acc ⟨fr, H⟩ K := QV hj hb hg a k
theorem eg1 {op : Op} {r : List Oper} {fr : List (Nat × TV)} {H : List (Qw × Option Bk)} {acc : List (Fp × Ef)} {f : Fp} {t : TV} {j dj : Nat} {want b g : Bool} (hj : (ops[j]?).bind (·.dst) = some dj) (hb : (⟨fr, H⟩ : St).g dj = .c (.p (.v (.bool b)))) (hg : (b == want) = g) (a : g = true → ZC E N P ops ⟨some d, op, ty, pos, af, some (j, want)⟩ ⟨fr, H⟩ f ⟨t, []⟩)
  (k : Ac E N P ops r ((f, ⟨gt g t, []⟩) :: acc) ⟨(d, gt g t) :: fr, H⟩ K) : Ac E N P ops (⟨some d, op, ty, pos, af, some (j, want)⟩ :: r) acc ⟨fr, H⟩ K := QL hj hb hg a k
theorem aw_jo {α : Type} {x y : Code} {S : α → St → Option St} {S' : α → St} {k : α → Prop} {m : (α → Prop) → Prop} (h : jo S k m) (hk : ∀ p, k p → AW E N P y Q (S' p))
  (hm : ∀ (J : α → Prop) (L : St → Prop), (∀ p st, J p → Ae st (S' p) → L st) → m J → AW E N P x (O6 Q L) st) (hj : isJ x = true := by exact rfl) (hS : ∀ p, S p st = some (S' p) := by exact fun p => rfl) : AW E N P (.seq x y) Q st := Qj6 S' h hk hm
theorem aw_lo {σ : Type} {c : Code} {S : σ → St → Option St} {S' : σ → St} {step : (σ → Prop) → σ → Prop} {s0 : σ} (h : lo S step s0) (hs : Ae st (S' s0))
  (hb : ∀ (X : σ → Prop) (L : St → Prop), (∀ p st, X p → Ae st (S' p) → L st) → ∀ s, step X s → AW E N P c (O6 Q L) (S' s)) (hS : ∀ p, S p st = some (S' p) := by exact fun p => rfl) : AW E N P (.loop c) Q st := aw_lp S' h hs hb
theorem Qrv {c : Code} {r : ZU} {K : Prop} (h : Qh r K) (hs : Ae st st') (k : K → AW E N P c Q st') (hf : Nat.beq (fpC c) r.fp = true := by exact rfl) (hS : sh r.ks r.bs [] [] st = some st' := by exact rfl) : AW E N P c Q st := F8 hs (k h)
theorem idR {l : List Oper} {acc : List (Fp × Ef)} (h : Ac E N P ops l acc st K) : Ac E N P ops l acc st K := h
theorem rcs {b : Bool} {A B : Prop} {l : List Oper} {acc : List (Fp × Ef)} (h : cs b A B) (ht : b = true → A → Ac E N P ops l acc st K) (hf : b = false → B → Ac E N P ops l acc st K) : Ac E N P ops l acc st K := by
 cases hb : b with
 | true => exact ht hb (h.1 hb)
 | false => exact hf hb (h.2 hb)
theorem idC {o : Oper} {l : List Oper} {acc : List (Fp × Ef)} (h : Ac E N P ops (o :: l) acc st K) : Ac E N P ops (o :: l) acc st K := h
theorem rcp {l l' : List Oper} {acc : List (Fp × Ef)} (h : G1 l [] = some l') (k : Ac E N P ops l' acc st K) : Ac E N P ops l acc st K := by
 have := KO h
 rw [List.append_nil] at this
 subst this; exact k
theorem idA {c : Code} (h : AW E N P c Q st) : AW E N P c Q st := h
section
variable {dst : Option Nat} {f : Fp} {ef : Ef} {xs : Array Operand} {ts : Array TypeId} {t : TypeId} {x y z : Operand}
theorem Qzu (h : ZC E N P ops ⟨dst, .call { callee := .builtin .len, args := xs, argTypes := ts }, ty, pos, af, gg⟩ st f ef) : ZC E N P ops ⟨dst, .call { callee := .builtin .len, args := xs, argTypes := ts }, ty, pos, af, gg⟩ st f ef := h
theorem Qzv (h : ZC E N P ops ⟨dst, .call { callee := .builtin .append, args := xs, argTypes := ts }, ty, pos, af, gg⟩ st f ef) : ZC E N P ops ⟨dst, .call { callee := .builtin .append, args := xs, argTypes := ts }, ty, pos, af, gg⟩ st f ef := h
theorem kBlt {b : Builtin} (h : ZC E N P ops ⟨dst, .call { callee := .builtin b, args := xs, argTypes := ts }, ty, pos, af, gg⟩ st f ef) : ZC E N P ops ⟨dst, .call { callee := .builtin b, args := xs, argTypes := ts }, ty, pos, af, gg⟩ st f ef := h
theorem Qjf {g : FuncId} (h : ZC E N P ops ⟨dst, .call { callee := .value (.func g), args := xs, argTypes := ts }, ty, pos, af, gg⟩ st f ef) : ZC E N P ops ⟨dst, .call { callee := .value (.func g), args := xs, argTypes := ts }, ty, pos, af, gg⟩ st f ef := h
theorem Qf7 (h : ZC E N P ops ⟨dst, .indexAddr t x y, ty, pos, af, gg⟩ st f ef) : ZC E N P ops ⟨dst, .indexAddr t x y, ty, pos, af, gg⟩ st f ef := h
theorem kIx (h : ZC E N P ops ⟨dst, .index t x y, ty, pos, af, gg⟩ st f ef) : ZC E N P ops ⟨dst, .index t x y, ty, pos, af, gg⟩ st f ef := h
theorem Qjg (h : ZC E N P ops ⟨dst, .load t x, ty, pos, af, gg⟩ st f ef) : ZC E N P ops ⟨dst, .load t x, ty, pos, af, gg⟩ st f ef := h
theorem Qjh (h : ZC E N P ops ⟨dst, .pick x y z, ty, pos, af, gg⟩ st f ef) : ZC E N P ops ⟨dst, .pick x y z, ty, pos, af, gg⟩ st f ef := h
theorem Qzw {o : BinOp} {t' : TypeId} (h : ZC E N P ops ⟨dst, .binOp o t x y t', ty, pos, af, gg⟩ st f ef) : ZC E N P ops ⟨dst, .binOp o t x y t', ty, pos, af, gg⟩ st f ef := h
theorem kSli {a b c : Option Operand} (h : ZC E N P ops ⟨dst, .slice t x a b c, ty, pos, af, gg⟩ st f ef) : ZC E N P ops ⟨dst, .slice t x a b c, ty, pos, af, gg⟩ st f ef := h
theorem kSL {a : Operand} (h : ZC E N P ops ⟨dst, .slice t x (some a) none none, ty, pos, af, gg⟩ st f ef) : ZC E N P ops ⟨dst, .slice t x (some a) none none, ty, pos, af, gg⟩ st f ef := h
theorem kSH {a : Operand} (h : ZC E N P ops ⟨dst, .slice t x none (some a) none, ty, pos, af, gg⟩ st f ef) : ZC E N P ops ⟨dst, .slice t x none (some a) none, ty, pos, af, gg⟩ st f ef := h
theorem kSB {a b : Operand} (h : ZC E N P ops ⟨dst, .slice t x (some a) (some b) none, ty, pos, af, gg⟩ st f ef) : ZC E N P ops ⟨dst, .slice t x (some a) (some b) none, ty, pos, af, gg⟩ st f ef := h
theorem Qzx {t' : TypeId} (h : ZC E N P ops ⟨dst, .binOp .rem t x y t', ty, pos, af, gg⟩ st f ef) : ZC E N P ops ⟨dst, .binOp .rem t x y t', ty, pos, af, gg⟩ st f ef := h
theorem Qzy {t' : TypeId} (h : ZC E N P ops ⟨dst, .binOp .quo t x y t', ty, pos, af, gg⟩ st f ef) : ZC E N P ops ⟨dst, .binOp .quo t x y t', ty, pos, af, gg⟩ st f ef := h
theorem Qzz {t' : TypeId} (h : ZC E N P ops ⟨dst, .binOp .shl t x y t', ty, pos, af, gg⟩ st f ef) : ZC E N P ops ⟨dst, .binOp .shl t x y t', ty, pos, af, gg⟩ st f ef := h
theorem Z00 {t' : TypeId} (h : ZC E N P ops ⟨dst, .binOp .shr t x y t', ty, pos, af, gg⟩ st f ef) : ZC E N P ops ⟨dst, .binOp .shr t x y t', ty, pos, af, gg⟩ st f ef := h
theorem Z01 {t' : TypeId} (h : ZC E N P ops ⟨dst, .binOp .add t x y t', ty, pos, af, gg⟩ st f ef) : ZC E N P ops ⟨dst, .binOp .add t x y t', ty, pos, af, gg⟩ st f ef := h
theorem Qji {z : Operand} (h : ZC E N P ops ⟨dst, .call { callee := .builtin .append, args := #[.const (.slice none 0 0), z], argTypes := ts }, ty, pos, af, gg⟩ st f ef) : ZC E N P ops ⟨dst, .call { callee := .builtin .append, args := #[.const (.slice none 0 0), z], argTypes := ts }, ty, pos, af, gg⟩ st f ef := h
theorem Q0i {t' : TypeId} (h : ZC E N P ops ⟨dst, .convert t t' x, ty, pos, af, gg⟩ st f ef) : ZC E N P ops ⟨dst, .convert t t' x, ty, pos, af, gg⟩ st f ef := h
end
def Qvv : Oper → Bool
 | ⟨_, op, _, _, _, none⟩ => match op with
  | .call _ | .indexAddr _ _ _ | .index _ _ _ | .pick _ _ _ | .slice _ _ _ _ _ | .buildSlice _ _ _ | .makeSlice _ _ _ | .lookup _ _ _ _ | .mapUpdate _ _ _ _ => false
  | .binOp .quo _ _ y _ | .binOp .rem _ _ y _ | .binOp .shl _ _ y _ | .binOp .shr _ _ y _ => isC y
  | _ => true
 | _ => false
theorem tDp [T : Tb P] {x : List Oper} {id : Nat} {y : Code} (hp : x.all Qvv = true) (h : Qf5 T N x st = some st') (k : AW E N P y Q st') : AW E N P (.seq (.region id x.toArray false) y) Q st := tD h k
theorem tEp [T : Tb P] {x : List Oper} {id : Nat} (hp : x.all Qvv = true) (h : Qf5 T N x st = some st') (k : Q .normal st') : AW E N P (.region id x.toArray false) Q st := tE h k
end
section
variable {P : Program} {E : En} {N : Nat} {T : Tb P} {st st1 tg : St} {cx : Cx} {a : Act} {w : World}
def b50 (b : Qw) : Qw := (b.1, Nat.add b.2 50)
def Qrw (eo : Qw → Nat) (c c' : CV) (st : St) : Option St := match c', c with
 | .p (.l _ _), .sl b _ _ => match st.h b with
  | some (.row e rows true) => some ⟨st.fr, (b, some (.row e rows false)) :: st.H⟩
  | some (.row _ _ false) => some st
  | _ => none
 | .sl b' _ _, .p (.v (.slice none 0 0)) => gd (Nat.blt 0 (eo b') && (Nat.blt b'.1 65536 && Py (b50 b') st)) (some ⟨st.fr, (b50 b', some (.row (eo b') [] true)) :: st.H⟩)
 | _, _ => some st
theorem Qd7 {eo : Qw → Nat} {c c' : CV} (h : Qrw eo c c' st = some st1) : Ae st st1 ∧ st1.fr = st.fr := by
 unfold Qrw at h
 split at h
 ·split at h
  ·rename_i hb; cases h; exact ⟨Ae.frz _ hb, rfl⟩
  ·cases h; exact ⟨.refl _, rfl⟩
  ·cases h
 ·obtain ⟨hg, h⟩ := Kk h
  simp only [Bool.and_eq_true] at hg
  cases h
  exact ⟨Ae.blk _ _ hg.1 hg.2.1 hg.2.2, rfl⟩
 ·cases h; exact ⟨.refl _, rfl⟩
def PL (eo : Qw → Nat) : List CV → List CV → St → Option St
 | c :: cs, c' :: cs', st => match Qrw eo c c' st with
  | some st1 => PL eo cs cs' st1
  | none => none
 | _, _, st => some st
theorem PM {eo : Qw → Nat} : ∀ {cs cs' : List CV} {st st1 : St}, PL eo cs cs' st = some st1 → Ae st st1 ∧ st1.fr = st.fr
 | c :: cs, c' :: cs', st, st1, h => by
  simp only [PL] at h
  split at h
  ·rename_i st2 h2
   obtain ⟨h3, h4⟩ := Qd7 h2
   obtain ⟨h5, h6⟩ := PM h
   exact ⟨h3.trans h5, h6.trans h4⟩
  ·cases h
 | [], _, st, st1, h => by simp only [PL] at h; cases h; exact ⟨.refl _, rfl⟩
 | _ :: _, [], st, st1, h => by simp only [PL] at h; cases h; exact ⟨.refl _, rfl⟩
def ctB (st : St) (c c' : CV) : Option (CV × List Prop) := match c', c with
 | .any, _ => some (.any, [])
 | .p (.l _ rows'), .sl b off n => match st.h b with
  | some (.row e rows false) => some (.p (.l e rows'), [(rows.drop off).take n = rows'])
  | _ => none
 | .p (.l e' _), .p (.v (.slice none 0 0)) => some (.p (.l e' []), [])
 | .sl b' _ _, .p (.v (.slice none 0 0)) => match st.h (b50 b') with
  | some _ => some (.sl (b50 b') 0 0, [])
  | none => none
 | .sl _ _ n', .sl b off n => some (.sl b off n', [n = n'])
 | _, c => some (c, [])
theorem Qjj {c c' c1 : CV} {ps : List Prop} (h : ctB st c c' = some (c1, ps)) (hp : Xw ps) : Ct st c c1 := by
 unfold ctB at h
 split at h
 ·cases h; exact .any _
 ·split at h
  ·rename_i hb; cases h; cases hp with | cons hp _ => exact .fr hb hp
  ·cases h
 ·cases h; exact .nil _
 ·split at h
  ·rename_i hb; cases h; exact .nilo hb
  ·cases h
 ·cases h; cases hp with | cons hp _ => exact .n hp
 ·cases h; exact .k _
def Q65 (st : St) : List CV → List CV → Option (List CV × List Prop)
 | c :: cs, c' :: cs' => match ctB st c c' with
  | some (x, ps) => match Q65 st cs cs' with
   | some (xs, qs) => match G1 ps qs with
    | some r => some (x :: xs, r)
    | none => none
   | none => none
  | none => none
 | [], [] => some ([], [])
 | _, _ => none
theorem Q1m : ∀ {cs cs' c1 : List CV} {ps : List Prop}, Q65 st cs cs' = some (c1, ps) → Xw ps → Cts st cs c1
 | c :: cs, c' :: cs', c1, ps, h, hp => by
  simp only [Q65] at h
  split at h
  ·rename_i x qs h1
   split at h
   ·rename_i xs rs h2
    split at h
    ·rename_i r hr
     cases h
     rw [KO hr] at hp
     exact .cons (Qjj h1 hp.app.1) (Q1m h2 hp.app.2)
    ·cases h
   ·cases h
  ·cases h
 | [], [], c1, ps, h, hp => by simp only [Q65] at h; cases h; exact .nil
 | [], _ :: _, c1, ps, h, hp => by simp [Q65] at h
 | _ :: _, [], c1, ps, h, hp => by simp [Q65] at h
def nds (c c' : CV) : Bool := match c', c with
 | .any, .any => false
 | .any, _ => true
 | .p (.l _ _), .p (.l _ _) => false
 | .p (.l _ _), _ => true
 | .sl _ _ _, _ => true
 | _, _ => false
def ndL : List CV → List CV → Bool
 | c :: cs, c' :: cs' => nds c c' || ndL cs cs'
 | _, _ => false
def vwL (eo : Qw → Nat) : List (Nat × TV) → St → Option (St × List Prop)
 | [], st => some (st, [])
 | (s, t') :: r, st => match t', st.g s with
  | .c c', .c c => match nds c c' with
   | false => vwL eo r st
   | true => match Qrw eo c c' st with
    | none => none
    | some st1 => match ctB st1 c c' with
     | none => none
     | some (c1, ps) => match vwL eo r ⟨(s, .c c1) :: st1.fr, st1.H⟩ with
      | some (st2, qs) => match G1 ps qs with
       | some x => some (st2, x)
       | none => none
      | none => none
  | .agg cs', .agg cs => match ndL cs cs' with
   | false => vwL eo r st
   | true => match PL eo cs cs' st with
    | none => none
    | some st1 => match Q65 st1 cs cs' with
     | none => none
     | some (c1, ps) => match vwL eo r ⟨(s, .agg c1) :: st1.fr, st1.H⟩ with
      | some (st2, qs) => match G1 ps qs with
       | some x => some (st2, x)
       | none => none
      | none => none
  | _, _ => vwL eo r st
theorem g_fr {st st' : St} (h : st'.fr = st.fr) (s : Nat) : st'.g s = st.g s := by unfold St.g; rw [h]
theorem Nw {eo : Qw → Nat} : ∀ {l : List (Nat × TV)} {st st2 : St} {ps : List Prop}, vwL eo l st = some (st2, ps) → Xw ps → Ae st st2
 | [], st, st2, ps, h, hp => by simp only [vwL] at h; cases h; exact .refl _
 | (s, t') :: r, st, st2, ps, h, hp => by
  simp only [vwL] at h
  split at h
  ·rename_i c' c hc
   split at h
   ·exact Nw h hp
   ·split at h
    ·cases h
    ·rename_i st1 h1
     split at h
     ·cases h
     ·rename_i c1 qs h2
      split at h
      ·rename_i st3 rs h3
       split at h
       ·rename_i x hx
        cases h
        rw [KO hx] at hp
        obtain ⟨h4, h5⟩ := Qd7 h1
        exact h4.trans ((Ae.slot s ((g_fr h5 s).trans hc) (Qjj h2 hp.app.1)).trans (Nw h3 hp.app.2))
       ·cases h
      ·cases h
  ·rename_i cs' cs hc
   split at h
   ·exact Nw h hp
   ·split at h
    ·cases h
    ·rename_i st1 h1
     split at h
     ·cases h
     ·rename_i c1 qs h2
      split at h
      ·rename_i st3 rs h3
       split at h
       ·rename_i x hx
        cases h
        rw [KO hx] at hp
        obtain ⟨h4, h5⟩ := PM h1
        exact h4.trans ((Ae.slots s ((g_fr h5 s).trans hc) (Q1m h2 hp.app.1)).trans (Nw h3 hp.app.2))
       ·cases h
      ·cases h
  ·exact Nw h hp
def vwB (eo : Qw → Nat) : List (Qw × Option Bk) → St → Option (St × List Prop)
 | [], st => some (st, [])
 | (b, some (.box cs' _)) :: r, st => match st.h b with
  | some (.box cs _) => match ndL cs cs' with
   | false => vwB eo r st
   | true => match PL eo cs cs' st with
    | none => none
    | some st1 => match st1.h b with
     | some (.box cs fm) => match Q65 st1 cs cs' with
      | none => none
      | some (c1, ps) => match vwB eo r ⟨st1.fr, (b, some (.box c1 fm)) :: st1.H⟩ with
       | some (st2, qs) => match G1 ps qs with
        | some x => some (st2, x)
        | none => none
       | none => none
     | _ => none
  | _ => none
 | _ :: r, st => vwB eo r st
theorem Ny {eo : Qw → Nat} : ∀ {l : List (Qw × Option Bk)} {st st2 : St} {ps : List Prop}, vwB eo l st = some (st2, ps) → Xw ps → Ae st st2
 | [], st, st2, ps, h, hp => by simp only [vwB] at h; cases h; exact .refl _
 | (b, some (.box cs' _)) :: r, st, st2, ps, h, hp => by
  simp only [vwB] at h
  split at h
  ·rename_i cs hb
   split at h
   ·exact Ny h hp
   ·split at h
    ·cases h
    ·rename_i st1 h1
     split at h
     ·rename_i cs2 hb2
      split at h
      ·cases h
      ·rename_i c1 qs h2
       split at h
       ·rename_i st3 rs h3
        split at h
        ·rename_i x hx
         cases h
         rw [KO hx] at hp
         obtain ⟨h4, h5⟩ := PM h1
         exact h4.trans ((Ae.cells b hb2 (Q1m h2 hp.app.1)).trans (Ny h3 hp.app.2))
        ·cases h
       ·cases h
     ·cases h
  ·cases h
 | (b, none) :: r, st, st2, ps, h, hp => by simp only [vwB] at h; exact Ny h hp
 | (b, some (.row _ _ _)) :: r, st, st2, ps, h, hp => by simp only [vwB] at h; exact Ny h hp
 | (b, some (.map _)) :: r, st, st2, ps, h, hp => by simp only [vwB] at h; exact Ny h hp
def bdC (b : Qw) : List CV → List CV → Option Qw
 | .sl x _ _ :: cs, .sl y _ _ :: cs' => match VP y b with
  | true => some x
  | false => bdC b cs cs'
 | _ :: cs, _ :: cs' => bdC b cs cs'
 | _, _ => none
def TV.cs1 : TV → List CV
 | .c x => [x]
 | .agg xs => xs
 | .tup _ => []
def bdF (b : Qw) (st : St) : List (Nat × TV) → Option Qw
 | [] => none
 | (s, t') :: r => match bdC b (st.g s).cs1 t'.cs1 with
  | some x => some x
  | none => bdF b st r
def bdH (b : Qw) (st : St) : List (Qw × Option Bk) → Option Qw
 | [] => none
 | (x, some (.box cs' _)) :: r => match st.h x with
  | some (.box cs _) => match bdC b cs cs' with
   | some y => some y
   | none => bdH b st r
  | _ => bdH b st r
 | _ :: r => bdH b st r
def elder (tg st : St) (b : Qw) : Qw := match bdF b st tg.fr with
 | some x => x
 | none => match bdH b st tg.H with
  | some x => x
  | none => b
def sgm (tg st : St) : List (Qw × Qw) := tg.H.map fun x => (match x.2 with
 | some (.row _ _ _) => elder tg st x.1
 | _ => x.1, x.1)
def eoOf (tg : St) (b : Qw) : Nat := match tg.h b with
 | some (.row e _ _) => e
 | _ => 0
theorem Qjk : ∀ {ks : List Nat} {fr fr' : List (Nat × TV)} (s : Nat), kpN ks fr = some fr' → Zn fr' s = none ∨ Zn fr' s = Zn fr s
 | [], fr, fr', s, h => by simp only [kpN] at h; cases h; exact .inl rfl
 | k :: ks, fr, fr', s, h => by
  simp only [kpN] at h
  split at h
  ·rename_i t ht
   split at h
   ·rename_i l hl
    cases h
    simp only [Zn]
    cases hb : Nat.beq k s with
    | true => rw [← Nat.eq_of_beq_eq_true hb, ht]; exact .inr rfl
    | false => exact Qjk s hl
   ·cases h
  ·cases h
theorem Ae.cut {ks : List Nat} {fr' : List (Nat × TV)} (h : kpN ks st.fr = some fr') : Ae st ⟨fr', st.H⟩ := by
 intro E N cx a w hr
 refine ⟨cx, hr.defers, hr.size, fun s => ?_, hr.bl, hr.inj, hr.own, hr.A, hr.A0, hr.kept, hr.sz, hr.os, hr.tape, hr.output, hr.hN, hr.pin, hr.cz⟩
 have e : (⟨fr', st.H⟩ : St).g s = (Zn fr' s).getD (.c .any) := rfl
 rw [e]
 rcases Qjk s h with h1 | h1
 ·rw [h1]; exact ⟨.inl rfl, trivial⟩
 ·rw [h1]; exact hr.fr s
theorem Ae.vw {st2 st3 : St} {ps qs : List Prop} {fr0 : List (Nat × TV)} (h0 : kpN (tg.fr.map (·.1)) st.fr = some fr0) (h1 : vwL (eoOf tg) tg.fr ⟨fr0, st.H⟩ = some (st2, ps)) (h2 : vwB (eoOf tg) tg.H st2 = some (st3, qs)) (hp : Xw ps) (hq : Xw qs) (h3 : okS (sgm tg st3) = true) (h4 : st3.norm (tg.fr.map (·.1)) (sgm tg st3) = tg) : Ae st tg :=
 (Ae.cut h0).trans <| (Nw h1 hp).trans ((Ny h2 hq).trans (Ae.nm _ _ h3 h4))
def Z02 (T : Tb P) (st : St) : ResultVar → Option TV
 | .tmp s => match st.g s with
  | .c .any => none
  | .c c => some (.c c)
  | .agg cs => some (.agg cs)
  | .tup _ => none
 | .cell s t => match st.g s with
  | .c (.ptr b 0 0) => match st.h b with
   | some (.box cs none) => match Zn T.ty t with
    | some te => match te.kd.agg with
     | true => gd (Nat.beq cs.length te.size) (some (.agg cs))
     | false => match cs with
      | [.any] => none
      | [y] => some (.c y)
      | _ => none
    | none => none
   | _ => none
  | _ => none
theorem Qry {rv : ResultVar} {t : TV} (h : Z02 T st rv = some t) : Pz T st rv t := by
 unfold Z02 at h
 split at h
 ·split at h
  ·cases h
  ·rename_i hc hg; cases h; exact .tmpc hg (by intro e; subst e; exact hc rfl)
  ·rename_i hg; cases h; exact .tmpa hg
  ·cases h
 ·split at h
  ·rename_i hg
   split at h
   ·rename_i hb
    split at h
    ·rename_i ht
     split at h
     ·rename_i hk
      obtain ⟨h1, h2⟩ := Kk h
      cases h2
      exact .cella hg hb ht hk (Nat.eq_of_beq_eq_true h1)
     ·rename_i hk
      split at h
      ·cases h
      ·rename_i hc; cases h; exact .cellc hg hb ht hk (by intro e; subst e; exact hc rfl)
      ·cases h
    ·cases h
   ·cases h
  ·cases h
def Od (T : Tb P) (st : St) : List ResultVar → Option (List TV)
 | [] => some []
 | r :: rs => match Z02 T st r with
  | some t => match Od T st rs with
   | some ts => some (t :: ts)
   | none => none
  | none => none
theorem HQ : ∀ {rs : List ResultVar} {ts : List TV}, Od T st rs = some ts → Mx T st rs ts
 | [], ts, h => by simp only [Od] at h; cases h; exact .nil
 | r :: rs, ts, h => by
  simp only [Od] at h
  split at h
  ·rename_i h1
   split at h
   ·rename_i h2; cases h; exact .cons (Qry h1) (HQ h2)
   ·cases h
  ·cases h
structure CO where
 x : RV
 o : Option Qw
 bs : List Qw
 ps : List Prop
def Qab (st : St) (c : CV) (g : RV) : Option CO := match c with
 | .p x => match g with
  | .p (.l e _) => match x with
   | .v (.slice none 0 0) => some ⟨.p (.l e []), none, [], []⟩
   | x => some ⟨.p x, none, [], []⟩
  | .p _ => some ⟨.p x, none, [], []⟩
  | .own e _ => match x with
   | .v (.slice none 0 0) => gd (Nat.blt 0 e) (some ⟨.own e [], none, [], []⟩)
   | _ => none
 | .sl b off n => match st.h b with
  | some (.row e rows mu) => match g with
   | .p (.l _ rows') => some ⟨.p (.l e rows'), none, [b], [(rows.drop off).take n = rows']⟩
   | .own _ _ => match mu with
    | true => match off with
     | 0 => some ⟨.own e rows, some b, [], [rows.length = n]⟩
     | _ => none
    | false => none
   | _ => none
  | _ => none
 | _ => none
theorem MJ {c : CV} {g : RV} {r : CO} (h : Qab st c g = some r) (hp : Xw r.ps) : ToC st c r.x r.o r.bs := by
 unfold Qab at h
 split at h
 ·split at h
  ·split at h
   ·cases h; exact .nil _
   ·cases h; exact .p _
  ·cases h; exact .p _
  ·split at h
   ·obtain ⟨h1, h2⟩ := Kk h; cases h2; exact .nilo _ (Nat.le_of_ble_eq_true h1)
   ·cases h
 ·split at h
  ·rename_i hb
   split at h
   ·cases h; cases hp with | cons hp _ => exact .fr hb hp
   ·split at h
    ·split at h
     ·cases h; cases hp with | cons hp _ => exact .own hb hp
     ·cases h
    ·cases h
   ·cases h
  ·cases h
 ·cases h
structure COs where
 x : List RV
 o : List (Option Qw)
 bs : List Qw
 ps : List Prop
def H9 (st : St) : List CV → List RV → Option COs
 | c :: cs, g :: gs => match Qab st c g with
  | some ⟨x, o, b, p⟩ => match H9 st cs gs with
   | some ⟨xs, os, bs, ps⟩ => match G1 b bs, G1 p ps with
    | some b', some p' => some ⟨x :: xs, o :: os, b', p'⟩
    | _, _ => none
   | none => none
  | none => none
 | [], [] => some ⟨[], [], [], []⟩
 | _, _ => none
theorem DU : ∀ {cs : List CV} {gs : List RV} {r : COs}, H9 st cs gs = some r → Xw r.ps → AQ st cs r.x r.o r.bs
 | c :: cs, g :: gs, r, h, hp => by
  simp only [H9] at h
  split at h
  ·rename_i h1
   split at h
   ·rename_i h2
    split at h
    ·rename_i hb hq
     cases h
     rw [KO hb]
     simp only at hp
     rw [KO hq] at hp
     exact .cons (MJ h1 hp.app.1) (DU h2 hp.app.2)
    ·cases h
   ·cases h
  ·cases h
 | [], [], r, h, hp => by simp only [H9] at h; cases h; exact .nil
 | [], _ :: _, r, h, hp => by simp [H9] at h
 | _ :: _, [], r, h, hp => by simp [H9] at h
structure CR where
 x : List RS
 o : List (Option Qw)
 bs : List Qw
 ps : List Prop
def Z03 (st : St) : TV → RS → Option CR
 | .c c, .c g => match Qab st c g with
  | some ⟨x, o, b, p⟩ => some ⟨[.c x], [o], b, p⟩
  | none => none
 | .agg cs, .agg gs => match H9 st cs gs with
  | some ⟨x, o, b, p⟩ => some ⟨[.agg x], o, b, p⟩
  | none => none
 | _, _ => none
def Lb (st : St) : List TV → List RS → Option CR
 | t :: ts, g :: gs => match Z03 st t g with
  | some ⟨[x], o, b, p⟩ => match Lb st ts gs with
   | some ⟨xs, os, bs, ps⟩ => match G1 o os, G1 b bs, G1 p ps with
    | some o', some b', some p' => some ⟨x :: xs, o', b', p'⟩
    | _, _, _ => none
   | none => none
  | _ => none
 | [], [] => some ⟨[], [], [], []⟩
 | _, _ => none
theorem Qrz {t : TV} {g x : RS} {o : List (Option Qw)} {b : List Qw} {p : List Prop} (h : Z03 st t g = some ⟨[x], o, b, p⟩) (hp : Xw p) : ToS st t x o b := by
 unfold Z03 at h
 split at h
 ·split at h
  ·rename_i h1; cases h; exact .c (MJ h1 hp)
  ·cases h
 ·split at h
  ·rename_i h1; cases h; exact .agg (DU h1 hp)
  ·cases h
 ·cases h
theorem HR : ∀ {ts : List TV} {gs : List RS} {r : CR}, Lb st ts gs = some r → Xw r.ps → Nn st ts r.x r.o r.bs
 | t :: ts, g :: gs, r, h, hp => by
  simp only [Lb] at h
  split at h
  ·rename_i h1
   split at h
   ·rename_i h2
    split at h
    ·rename_i ho hb hq
     cases h
     simp only at hp ⊢
     rw [KO hq] at hp
     rw [KO ho, KO hb]
     exact .cons (Qrz h1 hp.app.1) (HR h2 hp.app.2)
    ·cases h
   ·cases h
  ·cases h
 | [], [], r, h, hp => by simp only [Lb] at h; cases h; exact .nil
 | [], _ :: _, r, h, hp => by simp [Lb] at h
 | _ :: _, [], r, h, hp => by simp [Lb] at h
theorem fin0 {fn : Func} {e : Exit} {r : List RS} {ts : List TV} {c : CR} (h1 : Od T st fn.results.toList = some ts) (h2 : Lb st ts r = some c) (hp : Xw c.ps) (h3 : c.x = r) (h4 : Ll c.o = true) (h5 : Dh (c.o.filterMap id) c.bs = true) (he : e = .normal ∨ e = .ret) : Om T fn r e st := by
 subst h3
 exact ⟨he, _, _, _, HQ h1, HR h2 hp, h4, h5⟩
theorem finR {fn : Func} {e : Exit} {r : List RS} {out : List RV} {ts : List TV} {c : CR} {cs : List CV} {c2 : COs} (h1 : Od T st fn.results.toList = some ts) (h2 : Lb st ts r = some c) (hb : st.h K5 = some (.box cs)) (h6 : H9 st cs out = some c2) (hp : Xw c.ps) (hq : Xw c2.ps) (h3 : c.x = r) (h7 : c2.x = out) (h4 : Ll (c.o ++ c2.o) = true) (h5 : Dh ((c.o ++ c2.o).filterMap id) (c.bs ++ c2.bs) = true) (he : e = .normal ∨ e = .ret) : Qez T fn r out e st := by
 subst h3 h7
 exact ⟨he, _, _, _, _, _, _, HQ h1, HR h2 hp, hb, DU h6 hq, h4, h5⟩
structure CA where
 x : List AV
 bs : List Qw
 ps : List Prop
def Z04 (st : St) : TV → AV → Option CA
 | .c c, .c g => match Qab st c (.p g) with
  | some ⟨.p x, none, b, p⟩ => some ⟨[.c x], b, p⟩
  | _ => none
 | .agg cs, .agg gs => match H9 st cs (gs.map .p) with
  | some ⟨x, o, b, p⟩ => match x.mapM (fun r => match r with | .p y => some y | _ => none), o.all (·.isNone) with
   | some ys, true => some ⟨[.agg ys], b, p⟩
   | _, _ => none
  | none => none
 | _, _ => none
theorem Q1n : ∀ {cs : List CV} {xs : List RV} {os : List (Option Qw)} {bs : List Qw}, AQ st cs xs os bs → ∀ {ys : List PV}, xs.mapM (fun r => match r with | .p y => some y | _ => none) = some ys → os.all (·.isNone) = true → Gp st cs ys bs := by
 intro cs xs os bs h
 induction h with
 | nil => intro ys h1 h2; cases h1; exact .nil
 | @cons c x o b cs xs os bs h hs ih =>
  intro ys h1 h2
  rw [List.mapM_cons] at h1
  cases x with
  | own => cases h1
  | p y =>
   simp only [List.all_cons, Bool.and_eq_true, Option.isNone_iff_eq_none] at h2
   obtain ⟨rfl, h2⟩ := h2
   cases h3 : xs.mapM (fun r => match r with | RV.p y => some y | _ => none) with
   | none => rw [h3] at h1; cases h1
   | some zs => rw [h3] at h1; cases h1; exact .cons h (ih h3 h2)
theorem Qs0 {t : TV} {g x : AV} {b : List Qw} {p : List Prop} (h : Z04 st t g = some ⟨[x], b, p⟩) (hp : Xw p) : ToA st t x b := by
 unfold Z04 at h
 split at h
 ·split at h
  ·rename_i h1; cases h; exact .c (MJ h1 hp)
  ·cases h
 ·split at h
  ·rename_i h1
   split at h
   ·rename_i h2 h3; cases h; exact .agg (Q1n (DU h1 hp) h2 h3)
   ·cases h
  ·cases h
 ·cases h
def PN (st : St) : List TV → List AV → Option CA
 | t :: ts, g :: gs => match Z04 st t g with
  | some ⟨[x], b, p⟩ => match PN st ts gs with
   | some ⟨xs, bs, ps⟩ => match G1 b bs, G1 p ps with
    | some b', some p' => some ⟨x :: xs, b', p'⟩
    | _, _ => none
   | none => none
  | _ => none
 | [], [] => some ⟨[], [], []⟩
 | _, _ => none
theorem Q66 : ∀ {ts : List TV} {gs : List AV} {r : CA}, PN st ts gs = some r → Xw r.ps → MA st ts r.x r.bs
 | t :: ts, g :: gs, r, h, hp => by
  simp only [PN] at h
  split at h
  ·rename_i h1
   split at h
   ·rename_i h2
    split at h
    ·rename_i hb hq
     cases h
     simp only at hp ⊢
     rw [KO hq] at hp
     rw [KO hb]
     exact .cons (Qs0 h1 hp.app.1) (Q66 h2 hp.app.2)
    ·cases h
   ·cases h
  ·cases h
 | [], [], r, h, hp => by simp only [PN] at h; cases h; exact .nil
 | [], _ :: _, r, h, hp => by simp [PN] at h
 | _ :: _, [], r, h, hp => by simp [PN] at h
theorem Lw {ts : List TV} {avs : List AV} {r : CA} (h : PN st ts avs = some r) (hp : Xw r.ps) (he : r.x = avs) : MA st ts avs r.bs := by
 subst he; exact Q66 h hp
end
set_option maxRecDepth 20000
abbrev QK : Value := .int .i64 0
abbrev Jn : Value := .slice none 0 0
abbrev U4 : Value := .bool false
abbrev ID : Value := .int .u64 0
abbrev vs0 : Value := .string ByteArray.empty
abbrev Z05 : TE := ⟨.int .i64, 1, 8, QK⟩
abbrev ty_1 : TE := ⟨.bool, 1, 1, U4⟩
abbrev Qs1 : TE := ⟨.int .u8, 1, 1, .int .u8 0⟩
abbrev ty_3 : TE := ⟨.struct [(0, 2), (1, 3), (2, 4), (3, 6)], 4, 24, .agg #[QK, QK, U4, .int .u8 0]⟩
abbrev Z06 : TE := ⟨.string, 1, 16, vs0⟩
abbrev Z07 : TE := ⟨.int .u64, 1, 8, ID⟩
abbrev ty_6 : TE := ⟨.struct [(0, 9), (1, 12)], 2, 24, .agg #[vs0, ID]⟩
abbrev ty_7 : TE := ⟨.ptr 388, 1, 8, .pointer none⟩
abbrev ty_8 : TE := ⟨.ptr 391, 1, 8, .pointer none⟩
abbrev ty_9 : TE := ⟨.ptr 400, 1, 8, .pointer none⟩
abbrev Qvw : TE := ⟨.struct [(0, 17)], 1, 8, .agg #[.pointer none]⟩
abbrev Qjl : TE := ⟨.int .i32, 1, 4, .int .i32 0⟩
abbrev ty_12 : TE := ⟨.slice 3, 1, 24, Jn⟩
abbrev Qvx : TE := ⟨.struct [(0, 3), (1, 3), (2, 3), (3, 3), (4, 3), (5, 3), (6, 3)], 7, 56, .agg #[QK, QK, QK, QK, QK, QK, QK]⟩
abbrev ty_14 : TE := ⟨.slice 309, 1, 24, Jn⟩
abbrev ty_15 : TE := ⟨.slice 362, 1, 24, Jn⟩
abbrev ty_16 : TE := ⟨.slice 290, 1, 24, Jn⟩
abbrev ty_17 : TE := ⟨.slice 372, 1, 24, Jn⟩
abbrev Qvy : TE := ⟨.struct [(0, 3), (1, 29)], 2, 32, .agg #[QK, Jn]⟩
abbrev Qvz : TE := ⟨.struct [(0, 24), (7, 3), (8, 3), (9, 26), (10, 27), (11, 28), (12, 31)], 14, 176, .agg #[QK, QK, QK, QK, QK, QK, QK, QK, QK, Jn, Jn, Jn, QK, Jn]⟩
abbrev ty_20 : TE := ⟨.slice 88, 1, 24, Jn⟩
abbrev ty_21 : TE := ⟨.slice 113, 1, 24, Jn⟩
abbrev Qw0 : TE := ⟨.struct [(0, 33), (14, 34), (15, 35), (16, 3)], 17, 232, .agg #[QK, QK, QK, QK, QK, QK, QK, QK, QK, Jn, Jn, Jn, QK, Jn, Jn, Jn, QK]⟩
abbrev ty_23 : TE := ⟨.slice 64, 1, 24, Jn⟩
abbrev ty_24 : TE := ⟨.slice 9, 1, 24, Jn⟩
abbrev ty_25 : TE := ⟨.slice 184, 1, 24, Jn⟩
abbrev Qw1 : TE := ⟨.struct [(0, 3), (1, 3), (2, 9), (3, 22), (4, 45), (5, 4)], 6, 88, .agg #[QK, QK, vs0, Jn, Jn, U4]⟩
abbrev ty_27 : TE := ⟨.slice 5, 1, 24, Jn⟩
abbrev Qw2 : TE := ⟨.struct [(0, 38), (1, 3), (2, 3), (3, 3), (4, 44), (5, 47), (11, 48)], 12, 168, .agg #[QK, QK, QK, QK, Jn, QK, QK, vs0, Jn, Jn, U4, Jn]⟩
abbrev Qw3 : TE := ⟨.struct [(0, 38), (1, 4), (2, 50)], 14, 184, .agg #[QK, U4, QK, QK, QK, QK, Jn, QK, QK, vs0, Jn, Jn, U4, Jn]⟩
abbrev Qw4 : TE := ⟨.struct [(0, 3), (1, 3), (2, 3), (3, 55)], 4, 32, .agg #[QK, QK, QK, ID]⟩
abbrev ty_31 : TE := ⟨.slice 121, 1, 24, Jn⟩
abbrev Qw5 : TE := ⟨.struct [(0, 3), (1, 9), (2, 3), (3, 3), (4, 3)], 5, 48, .agg #[QK, vs0, QK, QK, QK]⟩
abbrev Qw6 : TE := ⟨.struct [(0, 3), (1, 9), (2, 9), (3, 44), (4, 57), (8, 58), (9, 48), (10, 3), (11, 3), (12, 3), (13, 3), (14, 3), (15, 3), (16, 60), (21, 48)], 22, 264, .agg #[QK, vs0, vs0, Jn, QK, QK, QK, ID, Jn, Jn, QK, QK, QK, QK, QK, QK, QK, vs0, QK, QK, QK, Jn]⟩
abbrev Qw7 : TE := ⟨.struct [(0, 3), (1, 3), (2, 62)], 24, 280, .agg #[QK, QK, QK, vs0, vs0, Jn, QK, QK, QK, ID, Jn, Jn, QK, QK, QK, QK, QK, QK, QK, vs0, QK, QK, QK, Jn]⟩
abbrev Qw8 : TE := ⟨.struct [(0, 3), (1, 3), (2, 4)], 3, 24, .agg #[QK, QK, U4]⟩
abbrev Qw9 : TE := ⟨.struct [(0, 3), (1, 3), (2, 55), (3, 22), (4, 4)], 5, 56, .agg #[QK, QK, ID, Jn, U4]⟩
abbrev Qwa : TE := ⟨.struct [(0, 3), (1, 55), (2, 22)], 3, 40, .agg #[QK, ID, Jn]⟩
abbrev Qwb : TE := ⟨.struct [(0, 3), (1, 3), (2, 45), (3, 4)], 4, 48, .agg #[QK, QK, Jn, U4]⟩
abbrev Qwc : TE := ⟨.struct [(0, 3), (1, 3), (2, 3), (3, 45), (4, 4)], 5, 56, .agg #[QK, QK, QK, Jn, U4]⟩
abbrev ty_40 : TE := ⟨.slice 44, 1, 24, Jn⟩
abbrev Qwd : TE := ⟨.struct [(0, 3), (1, 3), (2, 3), (3, 76), (4, 4)], 5, 56, .agg #[QK, QK, QK, Jn, U4]⟩
abbrev Qwe : TE := ⟨.struct [(0, 57), (4, 67), (7, 69), (12, 71), (15, 73), (19, 75), (24, 78)], 29, 312, .agg #[QK, QK, QK, ID, QK, QK, U4, QK, QK, ID, Jn, U4, QK, ID, Jn, QK, QK, Jn, U4, QK, QK, QK, Jn, U4, QK, QK, QK, Jn, U4]⟩
abbrev Q67 : TE := ⟨.struct [(0, 3), (1, 3)], 2, 16, .agg #[QK, QK]⟩
abbrev Qwf : TE := ⟨.struct [(0, 3), (1, 3), (2, 4), (3, 22), (4, 3), (5, 80), (34, 80), (63, 3), (64, 3), (65, 3), (66, 3), (67, 82), (69, 48), (70, 4)], 71, 760, .agg #[QK, QK, U4, Jn, QK, QK, QK, QK, ID, QK, QK, U4, QK, QK, ID, Jn, U4, QK, ID, Jn, QK, QK, Jn, U4, QK, QK, QK, Jn, U4, QK, QK, QK, Jn, U4, QK, QK, QK, ID, QK, QK, U4, QK, QK, ID, Jn, U4, QK, ID, Jn, QK, QK, Jn, U4, QK, QK, QK, Jn, U4, QK, QK, QK, Jn, U4, QK, QK, QK, QK, QK, QK, Jn, U4]⟩
abbrev ty_45 : TE := ⟨.slice 200, 1, 24, Jn⟩
abbrev ty_46 : TE := ⟨.slice 270, 1, 24, Jn⟩
abbrev Qwg : TE := ⟨.struct [(0, 4), (1, 62), (23, 84), (94, 3), (95, 85), (96, 86)], 97, 1088, .agg #[U4, QK, vs0, vs0, Jn, QK, QK, QK, ID, Jn, Jn, QK, QK, QK, QK, QK, QK, QK, vs0, QK, QK, QK, Jn, QK, QK, U4, Jn, QK, QK, QK, QK, ID, QK, QK, U4, QK, QK, ID, Jn, U4, QK, ID, Jn, QK, QK, Jn, U4, QK, QK, QK, Jn, U4, QK, QK, QK, Jn, U4, QK, QK, QK, ID, QK, QK, U4, QK, QK, ID, Jn, U4, QK, ID, Jn, QK, QK, Jn, U4, QK, QK, QK, Jn, U4, QK, QK, QK, Jn, U4, QK, QK, QK, QK, QK, QK, Jn, U4, QK, Jn, Jn]⟩
abbrev Qwh : TE := ⟨.struct [(0, 3), (1, 62), (23, 3), (24, 3), (25, 3), (26, 50)], 38, 464, .agg #[QK, QK, vs0, vs0, Jn, QK, QK, QK, ID, Jn, Jn, QK, QK, QK, QK, QK, QK, QK, vs0, QK, QK, QK, Jn, QK, QK, QK, QK, QK, QK, QK, Jn, QK, QK, vs0, Jn, Jn, U4, Jn]⟩
abbrev Qwi : TE := ⟨.struct [(0, 9), (1, 3)], 2, 24, .agg #[vs0, QK]⟩
abbrev ty_50 : TE := ⟨.ptr 88, 1, 8, .pointer none⟩
abbrev ty_51 : TE := ⟨.ptr 113, 1, 8, .pointer none⟩
abbrev Qwj : TE := ⟨.struct [(0, 33), (14, 84), (85, 50), (97, 4)], 98, 1112, .agg #[QK, QK, QK, QK, QK, QK, QK, QK, QK, Jn, Jn, Jn, QK, Jn, QK, QK, U4, Jn, QK, QK, QK, QK, ID, QK, QK, U4, QK, QK, ID, Jn, U4, QK, ID, Jn, QK, QK, Jn, U4, QK, QK, QK, Jn, U4, QK, QK, QK, Jn, U4, QK, QK, QK, ID, QK, QK, U4, QK, QK, ID, Jn, U4, QK, ID, Jn, QK, QK, Jn, U4, QK, QK, QK, Jn, U4, QK, QK, QK, Jn, U4, QK, QK, QK, QK, QK, QK, Jn, U4, QK, QK, QK, QK, Jn, QK, QK, vs0, Jn, Jn, U4, Jn, U4]⟩
abbrev Qwk : TE := ⟨.struct [(0, 9), (1, 3), (2, 3)], 3, 32, .agg #[vs0, QK, QK]⟩
abbrev ty_54 : TE := ⟨.int .u32, 1, 4, .int .u32 0⟩
abbrev ty_55 : TE := ⟨.array 13 4, 13, 13, .agg #[U4, U4, U4, U4, U4, U4, U4, U4, U4, U4, U4, U4, U4]⟩
abbrev Qwl : TE := ⟨.struct [(0, 4), (1, 3), (2, 44)], 3, 40, .agg #[U4, QK, Jn]⟩
abbrev ty_57 : TE := ⟨.slice 261, 1, 24, Jn⟩
abbrev Qwm : TE := ⟨.struct [(0, 3), (1, 26), (2, 27), (3, 28), (4, 29)], 5, 104, .agg #[QK, Jn, Jn, Jn, Jn]⟩
abbrev Qwn : TE := ⟨.struct [(0, 4), (1, 3), (2, 9), (3, 3)], 4, 40, .agg #[U4, QK, vs0, QK]⟩
abbrev ty_60 : TE := ⟨.slice 55, 1, 24, Jn⟩
abbrev Qwo : TE := ⟨.struct [(0, 3), (1, 3), (2, 3), (3, 22)], 4, 48, .agg #[QK, QK, QK, Jn]⟩
abbrev ty_62 : TE := ⟨.slice 48, 1, 24, Jn⟩
abbrev ty_63 : TE := ⟨.slice 301, 1, 24, Jn⟩
abbrev Qwp : TE := ⟨.struct [(0, 3), (1, 307)], 2, 32, .agg #[QK, Jn]⟩
abbrev ty_65 : TE := ⟨.slice 333, 1, 24, Jn⟩
abbrev Qwq : TE := ⟨.struct [(0, 3), (1, 301)], 5, 56, .agg #[QK, QK, QK, QK, Jn]⟩
abbrev ty_67 : TE := ⟨.slice 4, 1, 24, Jn⟩
abbrev Qwr : TE := ⟨.struct [(0, 9), (1, 3), (2, 3), (3, 3)], 4, 40, .agg #[vs0, QK, QK, QK]⟩
abbrev ty_69 : TE := ⟨.ptr 367, 1, 8, .pointer none⟩
abbrev Qws : TE := ⟨.struct [(0, 48), (1, 3), (2, 4)], 3, 40, .agg #[Jn, QK, U4]⟩
abbrev Qwt : TE := ⟨.struct [(0, 3), (1, 3), (2, 48)], 3, 40, .agg #[QK, QK, Jn]⟩
abbrev Qwu : TE := ⟨.struct [(0, 55), (1, 55)], 2, 16, .agg #[ID, ID]⟩
abbrev Qwv : TE := ⟨.struct [(0, 17), (1, 17), (2, 17), (3, 9)], 4, 40, .agg #[.pointer none, .pointer none, .pointer none, vs0]⟩
abbrev ty_74 : TE := ⟨.array 0 16, 0, 0, .agg #[]⟩
abbrev Qww : TE := ⟨.struct [(0, 389)], 0, 0, .agg #[]⟩
abbrev ty_76 : TE := ⟨.ptr 5, 1, 8, .pointer none⟩
abbrev Qwx : TE := ⟨.struct [(0, 12), (1, 12), (2, 185), (3, 393), (4, 5), (5, 5), (6, 394), (7, 395), (8, 396), (9, 397), (10, 398)], 11, 48, .agg #[ID, ID, .int .u32 0, .int .u8 0, .int .u8 0, .int .u8 0, .int .u8 0, .nilFunc, .pointer none, .int .i32 0, .int .i32 0]⟩
def tbl : List (Nat × TE) := [(2, Z05),(3, Z05),(4, ty_1),(5, Qs1),(6, Qs1),(7, ty_3),(8, ty_3),(9, Z06),(10, Z06),(11, Z06),(12, Z07),(13, ty_6),(14, ty_6),(15, ty_7),(16, ty_8),(17, ty_9),(18, Qvw),(19, Qvw),(21, Qjl),(22, ty_12),(23, Qvx),(24, Qvx),(26, ty_14),(27, ty_15),(28, ty_16),(29, ty_17),(30, Qvy),(31, Qvy),(32, Qvz),(33, Qvz),(34, ty_20),(35, ty_21),(36, Qw0),(37, Qw0),(38, Z05),(41, ty_23),(44, ty_24),(45, ty_25),(46, Qw1),(47, Qw1),(48, ty_27),(49, Qw2),(50, Qw2),(51, Qw3),(52, Qw3),(55, Z07),(56, Qw4),(57, Qw4),(58, ty_31),(59, Qw5),(60, Qw5),(61, Qw6),(62, Qw6),(63, Qw7),(64, Qw7),(66, Qw8),(67, Qw8),(68, Qw9),(69, Qw9),(70, Qwa),(71, Qwa),(72, Qwb),(73, Qwb),(74, Qwc),(75, Qwc),(76, ty_40),(77, Qwd),(78, Qwd),(79, Qwe),(80, Qwe),(81, Q67),(82, Q67),(83, Qwf),(84, Qwf),(85, ty_45),(86, ty_46),(87, Qwg),(88, Qwg),(91, Z07),(112, Qwh),(113, Qwh),(120, Qwi),(121, Qwi),(141, ty_50),(145, ty_51),(146, Qwj),(147, Qwj),(183, Qwk),(184, Qwk),(185, ty_54),(189, ty_55),(199, Qwl),(200, Qwl),(254, ty_57),(257, Qwm),(258, Qwm),(261, Q67),(269, Qwn),(270, Qwn),(283, ty_60),(289, Q67),(290, Q67),(300, Qwo),(301, Qwo),(305, ty_62),(307, ty_63),(308, Qwp),(309, Qwp),(328, ty_65),(332, Qwq),(333, Qwq),(356, ty_67),(361, Qwr),(362, Qwr),(365, ty_69),(366, Qws),(367, Qws),(371, Qwt),(372, Qwt),(384, Qwu),(385, Qwu),(387, Qwv),(388, Qwv),(389, ty_74),(390, Qww),(391, Qww),(393, Qs1),(394, Qs1),(396, ty_76),(397, Qjl),(398, Qjl),(399, Qwx),(400, Qwx)]
theorem Qs2 : tbl.map (fun y => Ol Tryz.prog y.1) = tbl.map (fun y => some y.2) := by kernel_rfl
theorem Qs3 : ∀ y ∈ tbl, Ol Tryz.prog y.1 = some y.2 := fun y hy => List.map_inj_left.1 Qs2 y hy
instance tb : Tb Tryz.prog := ⟨tbl, tb_of Qs3⟩
theorem mixed : Tryz.prog.follows .mixedOrders = true := by kernel_rfl
class Fn {R : Type} (W : (R → Prop) → Prop) (f : outParam Nat) (avs : outParam (List AV)) (res : outParam (R → List RS)) (out : outParam (R → List RV)) : Prop where
 run : ∀ r, Rr W r → Va Tryz.prog f avs (res r) (out r)
class Gm {R : Type} (W : (R → Prop) → Prop) : Prop where
 gm : GM W W
class Fg {R : Type} (W : (R → Prop) → Prop) (f : outParam Nat) (avs : outParam (List AV)) (res : outParam (R → List RS)) (out : outParam (R → List RV)) : Prop extends Fn W f avs res out, Gm W
theorem ex_ {R : Type} {W : (R → Prop) → Prop} [g : Gm W] {Post : R → Prop} (h : W Post) : ∃ r, Rr W r ∧ Post r := g.gm Post h
theorem Lx {R : Type} {W : (R → Prop) → Prop} {f : Nat} {avs : List AV} {res : R → List RS} {out : R → List RV} [g : Fn W f avs res out] {r : R} (h : Rr W r) : Va Tryz.prog f avs (res r) (out r) := g.run r h
section
variable {R α σ : Type}
theorem GM.hint {β : Sort _} {x : β} {G G' : (R → Prop) → Prop} (h : GM G G') : GM (fun Q => Qh x (G Q)) (fun Q => Qh x (G' Q)) := h
theorem MI.ct {c : Bool} {A B A' B' : Prop} (h1 : A → A') (h2 : B → B') : ct c A B → ct c A' B' := fun h => ⟨fun e => h1 (h.1 e), fun e => h2 (h.2 e)⟩
theorem MI.and {p B B' : Prop} (h2 : B → B') : p ∧ B → p ∧ B' := fun h => ⟨h.1, h2 h.2⟩
theorem MI.ex {p G G' : α → Prop} (h : ∀ a, G a → G' a) : (∃ a, p a ∧ G a) → ∃ a, p a ∧ G' a := fun ⟨a, h1, h2⟩ => ⟨a, h1, h a h2⟩
theorem MI.hint {β : Sort _} {x : β} {G G' : Prop} (h : G → G') : Qh x G → Qh x G' := h
theorem MI.jo {S : α → St → Option St} {k k' : α → Prop} {m m' : (α → Prop) → Prop} (h1 : ∀ p, k p → k' p) (h2 : ∀ J J' : α → Prop, (∀ p, J p → J' p) → m J → m' J') : jo S k m → jo S k' m' := fun h => h2 k k' h1 h
theorem MI.lo {S : σ → St → Option St} {step step' : (σ → Prop) → σ → Prop} {s0 : σ} (hi : ∀ X Y : σ → Prop, (∀ s, X s → Y s) → ∀ s, step X s → step' Y s) : lo S step s0 → lo S step' s0 := fun h Y hY => h Y fun s hs => hY s (hi Y Y (fun _ h => h) s hs)
end
theorem gm_ {p : Prop} (h : p := by
 repeat' first
  | refine GM.cond ?_ ?_
  | refine GM.join (fun _ => ?_) fun _ _ hJ => ?_
  | refine GM.loop (fun X Y Q s hX => ?_) fun _ _ hJ s => ?_
  | refine GM.ex fun _ => ?_
  | refine GM.hint ?_
  | refine GM.and ?_
  | exact GM.ret _
  | exact hJ _
  | refine MI.ct ?_ ?_
  | refine MI.jo (fun _ => ?_) fun _ _ hX => ?_
  | refine MI.lo fun _ _ hX _ => ?_
  | refine MI.ex fun _ => ?_
  | refine MI.hint ?_
  | refine MI.and ?_
  | exact hX _
  | apply_assumption
  | exact fun h => h
 all_goals fail) : p := h
theorem gm0 {R : Type} {W W' : (R → Prop) → Prop} (hW : ∀ Q, W Q = W' Q) (gm : GM W' W') : GM W W := by
 have : W = W' := funext hW
 rw [this]; exact gm
section
variable {R : Type} {W W' : (R → Prop) → Prop} {f : Nat} {fn : Func} {body : Code} {N : Nat} {avs : List AV} {fr : List (Nat × TV)} {res : R → List RS} {out : R → List RV}
theorem fn0 (hW : ∀ Q, W Q = W' Q) (hf : Tryz.prog.funcs[f]? = some fn) (hb : fn.body = some body := by exact rfl) (he : Lj Tryz.prog f = true := by kernel_rfl) (hN : fn.ntmps = N := by exact rfl) (hN2 : Nat.ble N 65536 = true := by kernel_rfl) (hl : Nat.ble avs.length N = true := by kernel_rfl) (hn : avs.any AV.isRef = false := by kernel_rfl) (hfr : G1 (SB 0 avs) [] = some fr := by exact rfl)
  (run : ∀ r, W' (fun x => r = x) → ∀ E (Q : Exit → St → Prop), (∀ e st, Om tb fn (res r) e st → Q e st) → AW E N Tryz.prog body Q ⟨fr, []⟩) : Fn W f avs res (fun _ => []) := by
 refine ⟨fun r h => No tb hf hb he hN hN2 (Nat.le_of_ble_eq_true hl) hn fun E => ?_⟩
 have h1 := KO hfr
 rw [List.append_nil] at h1
 rw [← h1]
 unfold Rr at h
 rw [hW] at h
 exact run r h E _ fun _ _ h => h
end
theorem pV {P : Program} {E : En} {N : Nat} [T : Tb P] {ops : Array Oper} {st : St} {d ty : Nat} {pos : String} {af : Array Edge} {gg : Option (Nat × Bool)} {op : Op} {rb : List Qw} {t : TV} (h : Qd2 T st op = some (rb, t) := by exact rfl) : ZC E N P ops ⟨some d, op, ty, pos, af, gg⟩ st ⟨rb, []⟩ ⟨t, []⟩ := Q64 h
theorem Ly {p : Prop} (h : p := by
 repeat' first
  | exact Xw.nil
  | refine Xw.cons ?_ ?_
  | rfl
  | exact YZ rfl
  | exact Qrp
  | exact Qzm
  | exact YZ (by simp; done)
  | (simp; done)
 all_goals fail) : p := h
theorem nl_ {p : Prop} (h : p := by
 refine MD ?_
 repeat' first
  | exact UD.nil
  | refine UD.cons (.p rfl) ?_
  | refine UD.cons (.o (Qrq fun _ => rfl)) ?_
 all_goals fail) : p := h
theorem sub_ {st tg : St} (h : Ae st tg := by exact Ae.vw rfl rfl rfl Ly Ly (by kernel_rfl) (by kernel_rfl)) : Ae st tg := h
section
variable {P : Program} {E : En} {N : Nat} {ops : Array Oper} {st : St} {d : Nat} {ty : Nat} {pos : String} {af : Array Edge} {gd : Option (Nat × Bool)}
theorem Z08 [T : Tb P] {x y : Operand} {t el i q q' len : Nat} {b : Qw} {k : IntKind} {n : Int} {tt te : TE} (h1 : st.ev x = .c (.ptr b i q) := by exact rfl) (hb : (st.h b).isSome = true := by exact rfl) (h2 : st.ev y = .c (.p (.v (.int k n))) := by exact rfl)
  (ht : Zn T.ty t = some tt := by exact rfl) (hk : tt.kd = .array len el := by exact rfl) (hn : (decide (0 ≤ n) && Nat.blt n.toNat len) = true := by exact rfl) (hel : Zn T.ty el = some te := by exact rfl) (hi : Nat.add q (Nat.mul n.toNat te.size) = q' := by exact rfl) (hx : Zf x = true := by exact rfl) (hy : Zf y = true := by exact rfl) :
  ZC E N P ops ⟨some d, .indexAddr t x y, ty, pos, af, gd⟩ st ⟨[b], []⟩ ⟨.c (.ptr b i q'), []⟩ := by
 simp only [Bool.and_eq_true] at hn
 have h0 := of_decide_eq_true hn.1
 exact QM (j := n.toNat) h1 hb h2 (by omega) (Nat.le_of_ble_eq_true hn.2) ht hk hel hi hx hy
def vls : List CV → Option (List Value)
 | [] => some []
 | .p (.v x) :: r => match vls r with
  | some l => some (x :: l)
  | none => none
 | _ => none
theorem PO : ∀ {cs : List CV} {us : List Value}, vls cs = some us → cs = us.map fun v => .p (.v v)
 | [], us, h => by simp only [vls] at h; cases h; rfl
 | .p (.v x) :: r, us, h => by
  simp only [vls] at h
  split at h
  ·rename_i hl; cases h; rw [PO hl]; rfl
  ·cases h
 | .any :: r, us, h => by simp [vls] at h
 | .ptr _ _ _ :: r, us, h => by simp [vls] at h
 | .sl _ _ _ :: r, us, h => by simp [vls] at h
 | .ep _ _ :: r, us, h => by simp [vls] at h
 | .mp _ :: r, us, h => by simp [vls] at h
 | .p (.l _ _) :: r, us, h => by simp [vls] at h
 | .p (.o _) :: r, us, h => by simp [vls] at h
theorem eqs {xt yt : TypeId} {x y : Operand} {us vs : List Value} {c : Bool} {cx1 cy1 : List CV} (h1 : st.ev x = .agg cx1 := by exact rfl) (h2 : st.ev y = .agg cy1 := by exact rfl) (h3 : vls cx1 = some us := by exact rfl) (h4 : vls cy1 = some vs := by exact rfl) (hf : Q0e P xt us vs = true := by exact rfl) (he : Q1b us vs = c := by exact rfl) (hx : Zf x = true := by exact rfl) (hy : Zf y = true := by exact rfl) :
  ZC E N P ops ⟨some d, .binOp .eql xt x y yt, ty, pos, af, gd⟩ st ⟨[], []⟩ ⟨.c (.p (.v (.bool c))), []⟩ := Qzq h1 h2 hf he (PO h3) (PO h4) hx hy
theorem Z09 {xt yt : TypeId} {x y : Operand} {us vs : List Value} {c : Bool} {cx1 cy1 : List CV} (h1 : st.ev x = .agg cx1 := by exact rfl) (h2 : st.ev y = .agg cy1 := by exact rfl) (h3 : vls cx1 = some us := by exact rfl) (h4 : vls cy1 = some vs := by exact rfl) (hf : Q0e P xt us vs = true := by exact rfl) (he : (!Q1b us vs) = c := by exact rfl) (hx : Zf x = true := by exact rfl) (hy : Zf y = true := by exact rfl) :
  ZC E N P ops ⟨some d, .binOp .neq xt x y yt, ty, pos, af, gd⟩ st ⟨[], []⟩ ⟨.c (.p (.v (.bool c))), []⟩ := Qa7 h1 h2 hf he (PO h3) (PO h4) hx hy
end
structure Qz where
 fa2 : Int
 fb8 : Int
 f9 : Int
 fb6 : Int
 fc8 : Int
 fc3 : Int
 fb0 : Int
def Y8 (x : Qz) : List PV := [.v (.int .i64 (x.fa2)), .v (.int .i64 (x.fb8)), .v (.int .i64 (x.f9)), .v (.int .i64 (x.fb6)), .v (.int .i64 (x.fc8)), .v (.int .i64 (x.fc3)), .v (.int .i64 (x.fb0))]
structure Qj where
 fd0 : Int
 fTo : Int
 fu : Int
 f9 : (List Int)
def Zb (x : Qj) : List PV := [.v (.int .i64 (x.fd0)), .v (.int .i64 (x.fTo)), .v (.int .i64 (x.fu)), .l 1 (List.map (eI .i64) (x.f9))]
structure Qc where
 fID : Int
 fa9 : (List Qj)
def Ql (x : Qc) : List PV := [.v (.int .i64 (x.fID)), .l 4 (List.map Zb (x.fa9))]
structure Qp where
 fd4 : ByteArray
 fb7 : Int
 fd0 : Int
 fTo : Int
def Qe (x : Qp) : List PV := [.v (.string (x.fd4)), .v (.int .i64 (x.fb7)), .v (.int .i64 (x.fd0)), .v (.int .i64 (x.fTo))]
structure QN where
 f7 : Int
 fb9 : Int
def Qr (x : QN) : List PV := [.v (.int .i64 (x.f7)), .v (.int .i64 (x.fb9))]
structure Qn where
 fc7 : Int
 fg7 : Int
 fc6 : (List Int)
def Qt (x : Qn) : List PV := [.v (.int .i64 (x.fc7)), .v (.int .i64 (x.fg7)), .l 1 (List.map (eI .u8) (x.fc6))]
structure Qq where
 fc2 : Int
 f9 : (List Qn)
def UV (x : Qq) : List PV := [.v (.int .i64 (x.fc2)), .l 3 (List.map Qt (x.f9))]
structure Q2 where
 fj : Qz
 f7 : Int
 ff4 : Int
 fa1 : (List Qc)
 fb4 : (List Qp)
 fc8 : (List QN)
 fc1 : Qq
def QA (x : Q2) : List PV := [.v (.int .i64 (x.fj.fa2)), .v (.int .i64 (x.fj.fb8)), .v (.int .i64 (x.fj.f9)), .v (.int .i64 (x.fj.fb6)), .v (.int .i64 (x.fj.fc8)), .v (.int .i64 (x.fj.fc3)), .v (.int .i64 (x.fj.fb0)), .v (.int .i64 (x.f7)), .v (.int .i64 (x.ff4)), .l 2 (List.map Ql (x.fa1)), .l 4 (List.map Qe (x.fb4)), .l 2 (List.map Qr (x.fc8)), .v (.int .i64 (x.fc1.fc2)), .l 3 (List.map Qt (x.fc1.f9))]
structure QJ where
 fi0 : Bool
 f7 : Int
 fb8 : (List ByteArray)
def Kl (x : QJ) : List PV := [.v (.bool (x.fi0)), .v (.int .i64 (x.f7)), .l 1 (List.map eS (x.fb8))]
structure Zg where
 fi0 : Bool
 f7 : Int
 fd4 : ByteArray
 fi1 : Int
def Xa (x : Zg) : List PV := [.v (.bool (x.fi0)), .v (.int .i64 (x.f7)), .v (.string (x.fd4)), .v (.int .i64 (x.fi1))]
structure Q7 where
 fa0 : Int
 fu : Int
 fa5 : Int
 fa6 : Int
def Gs (x : Q7) : List PV := [.v (.int .i64 (x.fa0)), .v (.int .i64 (x.fu)), .v (.int .i64 (x.fa5)), .v (.int .u64 (x.fa6))]
structure QY where
 fd5 : ByteArray
 fg9 : Int
def Zi (x : QY) : List PV := [.v (.string (x.fd5)), .v (.int .i64 (x.fg9))]
structure Qs where
 fa0 : Int
 fd5 : ByteArray
 fb9 : Int
 fh3 : Int
 fh4 : Int
def HU (x : Qs) : List PV := [.v (.int .i64 (x.fa0)), .v (.string (x.fd5)), .v (.int .i64 (x.fb9)), .v (.int .i64 (x.fh3)), .v (.int .i64 (x.fh4))]
structure Qv where
 fa0 : Int
 fd4 : ByteArray
 fg : ByteArray
 fb8 : (List ByteArray)
 fk : Q7
 fb3 : (List QY)
 ff9 : (List Int)
 fd9 : Int
 ff8 : Int
 fc4 : Int
 fg4 : Int
 fd2 : Int
 fb9 : Int
 fb5 : Qs
 fc6 : (List Int)
def JL (x : Qv) : List PV := [.v (.int .i64 (x.fa0)), .v (.string (x.fd4)), .v (.string (x.fg)), .l 1 (List.map eS (x.fb8)), .v (.int .i64 (x.fk.fa0)), .v (.int .i64 (x.fk.fu)), .v (.int .i64 (x.fk.fa5)), .v (.int .u64 (x.fk.fa6)), .l 2 (List.map Zi (x.fb3)), .l 1 (List.map (eI .u8) (x.ff9)), .v (.int .i64 (x.fd9)), .v (.int .i64 (x.ff8)), .v (.int .i64 (x.fc4)), .v (.int .i64 (x.fg4)), .v (.int .i64 (x.fd2)), .v (.int .i64 (x.fb9)), .v (.int .i64 (x.fb5.fa0)), .v (.string (x.fb5.fd5)), .v (.int .i64 (x.fb5.fb9)), .v (.int .i64 (x.fb5.fh3)), .v (.int .i64 (x.fb5.fh4)), .l 1 (List.map (eI .u8) (x.fc6))]
structure Qd where
 fy : Int
 fb3 : Int
 fc : Bool
def U5 (x : Qd) : List PV := [.v (.int .i64 (x.fy)), .v (.int .i64 (x.fb3)), .v (.bool (x.fc))]
structure Q3 where
 fa5 : Int
 fu : Int
 fa6 : Int
 fc0 : (List Int)
 fc : Bool
def JM (x : Q3) : List PV := [.v (.int .i64 (x.fa5)), .v (.int .i64 (x.fu)), .v (.int .u64 (x.fa6)), .l 1 (List.map (eI .i64) (x.fc0)), .v (.bool (x.fc))]
structure Q8 where
 fa7 : Int
 fa6 : Int
 fa3 : (List Int)
def Y9 (x : Q8) : List PV := [.v (.int .i64 (x.fa7)), .v (.int .u64 (x.fa6)), .l 1 (List.map (eI .i64) (x.fa3))]
structure Q5 where
 fd5 : ByteArray
 fb9 : Int
 ff5 : Int
def Q1 (x : Q5) : List PV := [.v (.string (x.fd5)), .v (.int .i64 (x.fb9)), .v (.int .i64 (x.ff5))]
structure Qf where
 fu : Int
 fy : Int
 fq : (List Q5)
 fc : Bool
def Ux (x : Qf) : List PV := [.v (.int .i64 (x.fu)), .v (.int .i64 (x.fy)), .l 3 (List.map Q1 (x.fq)), .v (.bool (x.fc))]
structure Q4 where
 fu : Int
 fy : Int
 fd3 : Int
 fq : (List Q5)
 fc : Bool
def Vw (x : Q4) : List PV := [.v (.int .i64 (x.fu)), .v (.int .i64 (x.fy)), .v (.int .i64 (x.fd3)), .l 3 (List.map Q1 (x.fq)), .v (.bool (x.fc))]
structure Qa where
 fu : Int
 fy : Int
 fc9 : Int
 fa8 : (List (List ByteArray))
 fc : Bool
def Xh (x : Qa) : List PV := [.v (.int .i64 (x.fu)), .v (.int .i64 (x.fy)), .v (.int .i64 (x.fc9)), .l 1 (List.map (eL 1 eS) (x.fa8)), .v (.bool (x.fc))]
structure Q9 where
 fk : Q7
 fa4 : Qd
 fh : Q3
 f8 : Q8
 fb1 : Qf
 fi : Q4
 fw : Qa
def KH (x : Q9) : List PV := [.v (.int .i64 (x.fk.fa0)), .v (.int .i64 (x.fk.fu)), .v (.int .i64 (x.fk.fa5)), .v (.int .u64 (x.fk.fa6)), .v (.int .i64 (x.fa4.fy)), .v (.int .i64 (x.fa4.fb3)), .v (.bool (x.fa4.fc)), .v (.int .i64 (x.fh.fa5)), .v (.int .i64 (x.fh.fu)), .v (.int .u64 (x.fh.fa6)), .l 1 (List.map (eI .i64) (x.fh.fc0)), .v (.bool (x.fh.fc)), .v (.int .i64 (x.f8.fa7)), .v (.int .u64 (x.f8.fa6)), .l 1 (List.map (eI .i64) (x.f8.fa3)), .v (.int .i64 (x.fb1.fu)), .v (.int .i64 (x.fb1.fy)), .l 3 (List.map Q1 (x.fb1.fq)), .v (.bool (x.fb1.fc)), .v (.int .i64 (x.fi.fu)), .v (.int .i64 (x.fi.fy)), .v (.int .i64 (x.fi.fd3)), .l 3 (List.map Q1 (x.fi.fq)), .v (.bool (x.fi.fc)), .v (.int .i64 (x.fw.fu)), .v (.int .i64 (x.fw.fy)), .v (.int .i64 (x.fw.fc9)), .l 1 (List.map (eL 1 eS) (x.fw.fa8)), .v (.bool (x.fw.fc))]
structure QE where
 fb7 : Int
 fd0 : Int
def HV (x : QE) : List PV := [.v (.int .i64 (x.fb7)), .v (.int .i64 (x.fd0))]
structure Qb where
 fc5 : Int
 fg5 : Int
 fg1 : Bool
 fa9 : (List Int)
 fb7 : Int
 ff : Q9
 fg : Q9
 fd7 : Int
 fh2 : Int
 fc4 : Int
 fd2 : Int
 fAt : QE
 fc6 : (List Int)
 ff2 : Bool
def Vp (x : Qb) : List PV := [.v (.int .i64 (x.fc5)), .v (.int .i64 (x.fg5)), .v (.bool (x.fg1)), .l 1 (List.map (eI .i64) (x.fa9)), .v (.int .i64 (x.fb7)), .v (.int .i64 (x.ff.fk.fa0)), .v (.int .i64 (x.ff.fk.fu)), .v (.int .i64 (x.ff.fk.fa5)), .v (.int .u64 (x.ff.fk.fa6)), .v (.int .i64 (x.ff.fa4.fy)), .v (.int .i64 (x.ff.fa4.fb3)), .v (.bool (x.ff.fa4.fc)), .v (.int .i64 (x.ff.fh.fa5)), .v (.int .i64 (x.ff.fh.fu)), .v (.int .u64 (x.ff.fh.fa6)), .l 1 (List.map (eI .i64) (x.ff.fh.fc0)), .v (.bool (x.ff.fh.fc)), .v (.int .i64 (x.ff.f8.fa7)), .v (.int .u64 (x.ff.f8.fa6)), .l 1 (List.map (eI .i64) (x.ff.f8.fa3)), .v (.int .i64 (x.ff.fb1.fu)), .v (.int .i64 (x.ff.fb1.fy)), .l 3 (List.map Q1 (x.ff.fb1.fq)), .v (.bool (x.ff.fb1.fc)), .v (.int .i64 (x.ff.fi.fu)), .v (.int .i64 (x.ff.fi.fy)), .v (.int .i64 (x.ff.fi.fd3)), .l 3 (List.map Q1 (x.ff.fi.fq)), .v (.bool (x.ff.fi.fc)), .v (.int .i64 (x.ff.fw.fu)), .v (.int .i64 (x.ff.fw.fy)), .v (.int .i64 (x.ff.fw.fc9)), .l 1 (List.map (eL 1 eS) (x.ff.fw.fa8)), .v (.bool (x.ff.fw.fc)), .v (.int .i64 (x.fg.fk.fa0)), .v (.int .i64 (x.fg.fk.fu)), .v (.int .i64 (x.fg.fk.fa5)), .v (.int .u64 (x.fg.fk.fa6)), .v (.int .i64 (x.fg.fa4.fy)), .v (.int .i64 (x.fg.fa4.fb3)), .v (.bool (x.fg.fa4.fc)), .v (.int .i64 (x.fg.fh.fa5)), .v (.int .i64 (x.fg.fh.fu)), .v (.int .u64 (x.fg.fh.fa6)), .l 1 (List.map (eI .i64) (x.fg.fh.fc0)), .v (.bool (x.fg.fh.fc)), .v (.int .i64 (x.fg.f8.fa7)), .v (.int .u64 (x.fg.f8.fa6)), .l 1 (List.map (eI .i64) (x.fg.f8.fa3)), .v (.int .i64 (x.fg.fb1.fu)), .v (.int .i64 (x.fg.fb1.fy)), .l 3 (List.map Q1 (x.fg.fb1.fq)), .v (.bool (x.fg.fb1.fc)), .v (.int .i64 (x.fg.fi.fu)), .v (.int .i64 (x.fg.fi.fy)), .v (.int .i64 (x.fg.fi.fd3)), .l 3 (List.map Q1 (x.fg.fi.fq)), .v (.bool (x.fg.fi.fc)), .v (.int .i64 (x.fg.fw.fu)), .v (.int .i64 (x.fg.fw.fy)), .v (.int .i64 (x.fg.fw.fc9)), .l 1 (List.map (eL 1 eS) (x.fg.fw.fa8)), .v (.bool (x.fg.fw.fc)), .v (.int .i64 (x.fd7)), .v (.int .i64 (x.fh2)), .v (.int .i64 (x.fc4)), .v (.int .i64 (x.fd2)), .v (.int .i64 (x.fAt.fb7)), .v (.int .i64 (x.fAt.fd0)), .l 1 (List.map (eI .u8) (x.fc6)), .v (.bool (x.ff2))]
structure Q6 where
 ff6 : Bool
 fOp : Qv
 fa : Qb
 fd8 : Int
 fd1 : (List QJ)
 ff7 : (List Zg)
def QH (x : Q6) : List PV := [.v (.bool (x.ff6)), .v (.int .i64 (x.fOp.fa0)), .v (.string (x.fOp.fd4)), .v (.string (x.fOp.fg)), .l 1 (List.map eS (x.fOp.fb8)), .v (.int .i64 (x.fOp.fk.fa0)), .v (.int .i64 (x.fOp.fk.fu)), .v (.int .i64 (x.fOp.fk.fa5)), .v (.int .u64 (x.fOp.fk.fa6)), .l 2 (List.map Zi (x.fOp.fb3)), .l 1 (List.map (eI .u8) (x.fOp.ff9)), .v (.int .i64 (x.fOp.fd9)), .v (.int .i64 (x.fOp.ff8)), .v (.int .i64 (x.fOp.fc4)), .v (.int .i64 (x.fOp.fg4)), .v (.int .i64 (x.fOp.fd2)), .v (.int .i64 (x.fOp.fb9)), .v (.int .i64 (x.fOp.fb5.fa0)), .v (.string (x.fOp.fb5.fd5)), .v (.int .i64 (x.fOp.fb5.fb9)), .v (.int .i64 (x.fOp.fb5.fh3)), .v (.int .i64 (x.fOp.fb5.fh4)), .l 1 (List.map (eI .u8) (x.fOp.fc6)), .v (.int .i64 (x.fa.fc5)), .v (.int .i64 (x.fa.fg5)), .v (.bool (x.fa.fg1)), .l 1 (List.map (eI .i64) (x.fa.fa9)), .v (.int .i64 (x.fa.fb7)), .v (.int .i64 (x.fa.ff.fk.fa0)), .v (.int .i64 (x.fa.ff.fk.fu)), .v (.int .i64 (x.fa.ff.fk.fa5)), .v (.int .u64 (x.fa.ff.fk.fa6)), .v (.int .i64 (x.fa.ff.fa4.fy)), .v (.int .i64 (x.fa.ff.fa4.fb3)), .v (.bool (x.fa.ff.fa4.fc)), .v (.int .i64 (x.fa.ff.fh.fa5)), .v (.int .i64 (x.fa.ff.fh.fu)), .v (.int .u64 (x.fa.ff.fh.fa6)), .l 1 (List.map (eI .i64) (x.fa.ff.fh.fc0)), .v (.bool (x.fa.ff.fh.fc)), .v (.int .i64 (x.fa.ff.f8.fa7)), .v (.int .u64 (x.fa.ff.f8.fa6)), .l 1 (List.map (eI .i64) (x.fa.ff.f8.fa3)), .v (.int .i64 (x.fa.ff.fb1.fu)), .v (.int .i64 (x.fa.ff.fb1.fy)), .l 3 (List.map Q1 (x.fa.ff.fb1.fq)), .v (.bool (x.fa.ff.fb1.fc)), .v (.int .i64 (x.fa.ff.fi.fu)), .v (.int .i64 (x.fa.ff.fi.fy)), .v (.int .i64 (x.fa.ff.fi.fd3)), .l 3 (List.map Q1 (x.fa.ff.fi.fq)), .v (.bool (x.fa.ff.fi.fc)), .v (.int .i64 (x.fa.ff.fw.fu)), .v (.int .i64 (x.fa.ff.fw.fy)), .v (.int .i64 (x.fa.ff.fw.fc9)), .l 1 (List.map (eL 1 eS) (x.fa.ff.fw.fa8)), .v (.bool (x.fa.ff.fw.fc)), .v (.int .i64 (x.fa.fg.fk.fa0)), .v (.int .i64 (x.fa.fg.fk.fu)), .v (.int .i64 (x.fa.fg.fk.fa5)), .v (.int .u64 (x.fa.fg.fk.fa6)), .v (.int .i64 (x.fa.fg.fa4.fy)), .v (.int .i64 (x.fa.fg.fa4.fb3)), .v (.bool (x.fa.fg.fa4.fc)), .v (.int .i64 (x.fa.fg.fh.fa5)), .v (.int .i64 (x.fa.fg.fh.fu)), .v (.int .u64 (x.fa.fg.fh.fa6)), .l 1 (List.map (eI .i64) (x.fa.fg.fh.fc0)), .v (.bool (x.fa.fg.fh.fc)), .v (.int .i64 (x.fa.fg.f8.fa7)), .v (.int .u64 (x.fa.fg.f8.fa6)), .l 1 (List.map (eI .i64) (x.fa.fg.f8.fa3)), .v (.int .i64 (x.fa.fg.fb1.fu)), .v (.int .i64 (x.fa.fg.fb1.fy)), .l 3 (List.map Q1 (x.fa.fg.fb1.fq)), .v (.bool (x.fa.fg.fb1.fc)), .v (.int .i64 (x.fa.fg.fi.fu)), .v (.int .i64 (x.fa.fg.fi.fy)), .v (.int .i64 (x.fa.fg.fi.fd3)), .l 3 (List.map Q1 (x.fa.fg.fi.fq)), .v (.bool (x.fa.fg.fi.fc)), .v (.int .i64 (x.fa.fg.fw.fu)), .v (.int .i64 (x.fa.fg.fw.fy)), .v (.int .i64 (x.fa.fg.fw.fc9)), .l 1 (List.map (eL 1 eS) (x.fa.fg.fw.fa8)), .v (.bool (x.fa.fg.fw.fc)), .v (.int .i64 (x.fa.fd7)), .v (.int .i64 (x.fa.fh2)), .v (.int .i64 (x.fa.fc4)), .v (.int .i64 (x.fa.fd2)), .v (.int .i64 (x.fa.fAt.fb7)), .v (.int .i64 (x.fa.fAt.fd0)), .l 1 (List.map (eI .u8) (x.fa.fc6)), .v (.bool (x.fa.ff2)), .v (.int .i64 (x.fd8)), .l 3 (List.map Kl (x.fd1)), .l 4 (List.map Xa (x.ff7))]
structure Qo where
 fg8 : Int
 ff5 : Int
 fd5 : ByteArray
 fg2 : (List Int)
 fq : (List Q5)
 fc : Bool
structure Qg where
 fh8 : Int
 f7 : Int
 fg6 : Int
 fc4 : Int
 fb8 : (List ByteArray)
 fb2 : Qo
 fc6 : (List Int)
def PP (x : Qg) : List PV := [.v (.int .i64 (x.fh8)), .v (.int .i64 (x.f7)), .v (.int .i64 (x.fg6)), .v (.int .i64 (x.fc4)), .l 1 (List.map eS (x.fb8)), .v (.int .i64 (x.fb2.fg8)), .v (.int .i64 (x.fb2.ff5)), .v (.string (x.fb2.fd5)), .l 1 (List.map (eI .i64) (x.fb2.fg2)), .l 3 (List.map Q1 (x.fb2.fq)), .v (.bool (x.fb2.fc)), .l 1 (List.map (eI .u8) (x.fc6))]
structure QI where
 ff3 : Int
 fOp : Qv
 fh7 : Int
 ff2 : Int
 fh9 : Int
 f0 : Qg
def Zs (x : QI) : List PV := [.v (.int .i64 (x.ff3)), .v (.int .i64 (x.fOp.fa0)), .v (.string (x.fOp.fd4)), .v (.string (x.fOp.fg)), .l 1 (List.map eS (x.fOp.fb8)), .v (.int .i64 (x.fOp.fk.fa0)), .v (.int .i64 (x.fOp.fk.fu)), .v (.int .i64 (x.fOp.fk.fa5)), .v (.int .u64 (x.fOp.fk.fa6)), .l 2 (List.map Zi (x.fOp.fb3)), .l 1 (List.map (eI .u8) (x.fOp.ff9)), .v (.int .i64 (x.fOp.fd9)), .v (.int .i64 (x.fOp.ff8)), .v (.int .i64 (x.fOp.fc4)), .v (.int .i64 (x.fOp.fg4)), .v (.int .i64 (x.fOp.fd2)), .v (.int .i64 (x.fOp.fb9)), .v (.int .i64 (x.fOp.fb5.fa0)), .v (.string (x.fOp.fb5.fd5)), .v (.int .i64 (x.fOp.fb5.fb9)), .v (.int .i64 (x.fOp.fb5.fh3)), .v (.int .i64 (x.fOp.fb5.fh4)), .l 1 (List.map (eI .u8) (x.fOp.fc6)), .v (.int .i64 (x.fh7)), .v (.int .i64 (x.ff2)), .v (.int .i64 (x.fh9)), .v (.int .i64 (x.f0.fh8)), .v (.int .i64 (x.f0.f7)), .v (.int .i64 (x.f0.fg6)), .v (.int .i64 (x.f0.fc4)), .l 1 (List.map eS (x.f0.fb8)), .v (.int .i64 (x.f0.fb2.fg8)), .v (.int .i64 (x.f0.fb2.ff5)), .v (.string (x.f0.fb2.fd5)), .l 1 (List.map (eI .i64) (x.f0.fb2.fg2)), .l 3 (List.map Q1 (x.f0.fb2.fq)), .v (.bool (x.f0.fb2.fc)), .l 1 (List.map (eI .u8) (x.f0.fc6))]
structure Qm where
 fx : Q2
 fa2 : (List Q6)
 ff0 : (List QI)
 ff1 : Int
def Nz (x : Qm) : List PV := [.v (.int .i64 (x.fx.fj.fa2)), .v (.int .i64 (x.fx.fj.fb8)), .v (.int .i64 (x.fx.fj.f9)), .v (.int .i64 (x.fx.fj.fb6)), .v (.int .i64 (x.fx.fj.fc8)), .v (.int .i64 (x.fx.fj.fc3)), .v (.int .i64 (x.fx.fj.fb0)), .v (.int .i64 (x.fx.f7)), .v (.int .i64 (x.fx.ff4)), .l 2 (List.map Ql (x.fx.fa1)), .l 4 (List.map Qe (x.fx.fb4)), .l 2 (List.map Qr (x.fx.fc8)), .v (.int .i64 (x.fx.fc1.fc2)), .l 3 (List.map Qt (x.fx.fc1.f9)), .l 97 (List.map QH (x.fa2)), .l 38 (List.map Zs (x.ff0)), .v (.int .i64 (x.ff1))]
structure QF where
 fa0 : Int
 ff3 : Int
 fOp : Qv
def Zc (x : QF) : List PV := [.v (.int .i64 (x.fa0)), .v (.int .i64 (x.ff3)), .v (.int .i64 (x.fOp.fa0)), .v (.string (x.fOp.fd4)), .v (.string (x.fOp.fg)), .l 1 (List.map eS (x.fOp.fb8)), .v (.int .i64 (x.fOp.fk.fa0)), .v (.int .i64 (x.fOp.fk.fu)), .v (.int .i64 (x.fOp.fk.fa5)), .v (.int .u64 (x.fOp.fk.fa6)), .l 2 (List.map Zi (x.fOp.fb3)), .l 1 (List.map (eI .u8) (x.fOp.ff9)), .v (.int .i64 (x.fOp.fd9)), .v (.int .i64 (x.fOp.ff8)), .v (.int .i64 (x.fOp.fc4)), .v (.int .i64 (x.fOp.fg4)), .v (.int .i64 (x.fOp.fd2)), .v (.int .i64 (x.fOp.fb9)), .v (.int .i64 (x.fOp.fb5.fa0)), .v (.string (x.fOp.fb5.fd5)), .v (.int .i64 (x.fOp.fb5.fb9)), .v (.int .i64 (x.fOp.fb5.fh3)), .v (.int .i64 (x.fOp.fb5.fh4)), .l 1 (List.map (eI .u8) (x.fOp.fc6))]
structure DV where
 fe0 : Bool
 fe1 : Bool
 fe2 : Bool
 fe3 : Bool
 fe4 : Bool
 fe5 : Bool
 fe6 : Bool
 fe7 : Bool
 fe8 : Bool
 fe9 : Bool
 fe10 : Bool
 fe11 : Bool
 fe12 : Bool
def Ag (x : DV) : List PV := [.v (.bool (x.fe0)), .v (.bool (x.fe1)), .v (.bool (x.fe2)), .v (.bool (x.fe3)), .v (.bool (x.fe4)), .v (.bool (x.fe5)), .v (.bool (x.fe6)), .v (.bool (x.fe7)), .v (.bool (x.fe8)), .v (.bool (x.fe9)), .v (.bool (x.fe10)), .v (.bool (x.fe11)), .v (.bool (x.fe12))]
structure Kz where
 fh8 : Int
 fg3 : Bool
 f0 : Qg
structure Qx where
 fb : (List Int)
 fat : Int
 fbad : Bool
structure Qi where
 fx : Q2
 fa : Qb
 f0 : Qg
 fg3 : Bool
structure Qu where
 fid : Int
 fv : Qj
def QO (x : Qu) : List PV := [.v (.int .i64 (x.fid)), .v (.int .i64 (x.fv.fd0)), .v (.int .i64 (x.fv.fTo)), .v (.int .i64 (x.fv.fu)), .l 1 (List.map (eI .i64) (x.fv.f9))]
structure U6 where
 f7 : Int
 fa1 : (List Qc)
 fb4 : (List Qp)
 fc8 : (List QN)
 f9 : (List Qn)
def Lz (x : U6) : List PV := [.v (.int .i64 (x.f7)), .l 2 (List.map Ql (x.fa1)), .l 4 (List.map Qe (x.fb4)), .l 2 (List.map Qr (x.fc8)), .l 3 (List.map Qt (x.f9))]
structure JN where
 fb7 : Int
 fd0 : Int
def Jh (x : JN) : List PV := [.v (.int .i64 (x.fb7)), .v (.int .i64 (x.fd0))]
structure HW where
 fhigh : Int
 flow : Int
def LA (os : List Qc) : List Int := os.flatMap fun o => o.fa9.flatMap (·.f9)
def Has (pg : List Qn) (n : Int) (d : List Int) : Prop := ∃ p ∈ pg, p.fc7 = n ∧ p.fc6 = d
structure RX (os : List Qc) (ns : List Int) (pg : List Qn) : Prop where
 nd : pg.Pairwise fun a b => a.fc7 ≠ b.fc7
 rf : ∀ p ∈ pg, ((LA os).count p.fc7 : Int) + (ns.count p.fc7 : Int) ≤ p.fg7
 pr : ∀ n, n ∈ LA os ∨ n ∈ ns → ∃ p ∈ pg, p.fc7 = n
def Cn (pg : List Qn) : List Int → List Int → Prop
 | [], b => b = []
 | n :: l, b => ∃ d r, Has pg n d ∧ Cn pg l r ∧ b = d ++ r
def bod (b : List Int) : List Int := if b.getD 1 0 < 248 then (b.drop 2).take (b.getD 1 0).toNat else b.drop (2 + (b.getD 1 0 - 247).toNat)
def hd (l : List Int) : Prop := (l.getD 0 0 = 2 → l.getD 1 0 ≤ 2 ∧ l.getD 2 0 ≤ 4) ∧ (l.getD 0 0 = 6 → l.getD 1 0 ≤ 4)
def Gb (b : List Int) : Prop := hd (bod b)
def Gd (b : List Int) : Prop := ∀ n, Gb ((bod b).take n)
def vsO (os : List Qc) : List Qj := os.flatMap (·.fa9)
structure Xs (s : Q2) : Prop where
 rx : RX s.fa1 [] s.fc1.f9
 go : ∀ o ∈ s.fa1, ∀ v ∈ o.fa9, ∃ b, Cn s.fc1.f9 v.f9 b ∧ Gb b
 du : ∀ o ∈ s.fa1, ∀ v ∈ o.fa9, v.f9.Nodup
 vf : ∀ o ∈ s.fa1, ∀ v ∈ o.fa9, 0 ≤ v.fd0 ∧ v.fd0 ≤ s.f7
 ps : ∀ p ∈ s.fc1.f9, (p.fc6.length : Int) ≤ s.fj.fb6
 cp : s.fc1.fc2 = s.fj.f9 ∧ (s.fc1.f9.length : Int) ≤ s.fj.f9
 rb : ∀ p ∈ s.fc1.f9, p.fg7 ≤ 2000000 * (s.f7 + 1)
 nv : ((vsO s.fa1).length : Int) ≤ s.f7
abbrev Us (x : Q9) : Prop := x.fh.fc0.length ≤ 8 ∧ x.f8.fa3.length ≤ 256 ∧ x.fb1.fq.length ≤ 32 ∧ x.fi.fq.length ≤ 32 ∧ x.fw.fa8.length ≤ 41 ∧ ∀ l ∈ x.fw.fa8, l.length ≤ 4
abbrev zPa (p : Q7) : Prop := p.fa5 ≤ 2 ∧ p.fu ≤ 4
abbrev oB (x : Int) : Prop := 0 ≤ x ∧ x ≤ 255
abbrev bB (l : List Int) : Prop := ∀ x ∈ l, oB x
abbrev zL (l : List Int) : Prop := l.length ≤ 1024 ∧ bB l
abbrev MK (x : Qn) : Prop := x.fc6.length ≤ 1024 ∧ bB x.fc6
abbrev okV (x : Qj) : Prop := x.f9.length ≤ 65536
abbrev zE (x : Q5) : Prop := x.fd5.size ≤ 2000000
abbrev zI (x : QY) : Prop := x.fd5.size ≤ 2000000
abbrev zCm (c : Q3) : Prop := c.fc0.length ≤ 2000000 ∧ c.fa5 ≤ 2 ∧ c.fu ≤ 4
abbrev zLl (c : Q8) : Prop := c.fa3.length ≤ 2000000
abbrev zTp (c : Qf) : Prop := c.fq.length ≤ 2000000 ∧ ∀ x ∈ c.fq, zE x
abbrev zFr (c : Q4) : Prop := c.fq.length ≤ 2000000 ∧ ∀ x ∈ c.fq, zE x
abbrev zKs (l : List ByteArray) : Prop := l.length ≤ 2000000 ∧ ∀ k ∈ l, k.size ≤ 2000000
abbrev zRk (c : Qa) : Prop := c.fa8.length ≤ 2000000 ∧ (∀ l ∈ c.fa8, zKs l) ∧ c.fu ≤ 4
abbrev zS (s : Q9) : Prop := zCm s.fh ∧ zLl s.f8 ∧ zTp s.fb1 ∧ zFr s.fi ∧ zRk s.fw
abbrev zO (c : Int) (o : Qc) : Prop := (o.fa9.length : Int) ≤ c ∧ ∀ v ∈ o.fa9, okV v
abbrev zB (b : Qp) : Prop := b.fd4.size ≤ 2000000
abbrev zP (p : QN) : Prop := 1 ≤ p.fb9
abbrev Qjq (c : Qz) : Prop := (1 ≤ c.fa2 ∧ c.fa2 ≤ 64) ∧ (0 ≤ c.f9 ∧ c.f9 ≤ 16384) ∧ (8 ≤ c.fb6 ∧ c.fb6 ≤ 1024) ∧ c.fc8 ≤ 1024 ∧ (1 ≤ c.fc3 ∧ c.fc3 ≤ 1048576) ∧ 1 ≤ c.fb0 ∧ c.fb0 ≤ 64
abbrev zAr (a : Qq) : Prop := a.f9.length ≤ 16384 ∧ a.fc2 ≤ 16384 ∧ ∀ p ∈ a.f9, MK p
abbrev UC (s : Q2) : Prop := Qjq s.fj ∧ (0 ≤ s.f7 ∧ s.f7 ≤ s.fj.fc3) ∧ (s.fa1.length : Int) ≤ s.f7 ∧ (∀ o ∈ s.fa1, zO s.f7 o) ∧ (s.fb4.length : Int) ≤ s.f7 ∧ (∀ b ∈ s.fb4, zB b) ∧ s.fc8.length ≤ 1024 ∧ (∀ p ∈ s.fc8, zP p) ∧ zAr s.fc1 ∧ Xs s
abbrev zSn (y : QJ) : Prop := y.fb8.length ≤ 2000000
abbrev zOp (o : Qv) : Prop := o.fb8.length ≤ 2000000 ∧ o.fb3.length ≤ 2000000 ∧ o.ff9.length ≤ 2000000 ∧ o.fc6.length ≤ 2000000 ∧ bB o.fc6 ∧ o.fd4.size ≤ 2000000 ∧ o.fg.size ≤ 2000000 ∧ (∀ x ∈ o.fb3, zI x) ∧ (∀ x ∈ o.fb8, x.size ≤ 2000000) ∧ zPa o.fk ∧ Gd o.fc6
abbrev zMa (m : Qb) : Prop := (0 ≤ m.fc4 ∧ m.fc4 ≤ 3) ∧ zS m.ff ∧ zS m.fg ∧ m.fa9.length ≤ 2000000 ∧ m.fc6.length ≤ 100000000 ∧ bB m.fc6 ∧ Us m.fg
abbrev zSe (x : Q6) : Prop := x.fd1.length = 4 ∧ x.ff7.length = 4 ∧ (∀ y ∈ x.fd1, zSn y) ∧ zOp x.fOp ∧ zMa x.fa ∧ (x.fOp.fa0 = 6 → x.fa.fd7 ≤ (x.fOp.fb3.length : Int))
abbrev PQ (p : Qg) : Prop := p.fh8 ≠ 16
abbrev ML (t : Qi) : Prop := UC t.fx ∧ zMa t.fa ∧ PQ t.f0
abbrev zRd (r : Qx) : Prop := 0 ≤ r.fat ∧ r.fat ≤ (r.fb.length : Int) ∧ r.fb.length ≤ 100000000 ∧ bB r.fb
instance : Inhabited Qz := ⟨⟨default, default, default, default, default, default, default⟩⟩
instance : Inhabited Qj := ⟨⟨default, default, default, default⟩⟩
instance : Inhabited Qc := ⟨⟨default, default⟩⟩
instance : Inhabited Qp := ⟨⟨default, default, default, default⟩⟩
instance : Inhabited QN := ⟨⟨default, default⟩⟩
instance : Inhabited Qn := ⟨⟨default, default, default⟩⟩
instance : Inhabited Qq := ⟨⟨default, default⟩⟩
instance : Inhabited Q2 := ⟨⟨default, default, default, default, default, default, default⟩⟩
instance : Inhabited QJ := ⟨⟨default, default, default⟩⟩
instance : Inhabited Zg := ⟨⟨default, default, default, default⟩⟩
instance : Inhabited Q7 := ⟨⟨default, default, default, default⟩⟩
instance : Inhabited QY := ⟨⟨default, default⟩⟩
instance : Inhabited Qs := ⟨⟨default, default, default, default, default⟩⟩
instance : Inhabited Qv := ⟨⟨default, default, default, default, default, default, default, default, default, default, default, default, default, default, default⟩⟩
instance : Inhabited Qd := ⟨⟨default, default, default⟩⟩
instance : Inhabited Q3 := ⟨⟨default, default, default, default, default⟩⟩
instance : Inhabited Q8 := ⟨⟨default, default, default⟩⟩
instance : Inhabited Q5 := ⟨⟨default, default, default⟩⟩
instance : Inhabited Qf := ⟨⟨default, default, default, default⟩⟩
instance : Inhabited Q4 := ⟨⟨default, default, default, default, default⟩⟩
instance : Inhabited Qa := ⟨⟨default, default, default, default, default⟩⟩
instance : Inhabited Q9 := ⟨⟨default, default, default, default, default, default, default⟩⟩
instance : Inhabited QE := ⟨⟨default, default⟩⟩
instance : Inhabited Qb := ⟨⟨default, default, default, default, default, default, default, default, default, default, default, default, default, default⟩⟩
instance : Inhabited Q6 := ⟨⟨default, default, default, default, default, default⟩⟩
instance : Inhabited Qo := ⟨⟨default, default, default, default, default, default⟩⟩
instance : Inhabited Qg := ⟨⟨default, default, default, default, default, default, default⟩⟩
instance : Inhabited QI := ⟨⟨default, default, default, default, default, default⟩⟩
instance : Inhabited Qm := ⟨⟨default, default, default, default⟩⟩
instance : Inhabited QF := ⟨⟨default, default, default⟩⟩
instance : Inhabited DV := ⟨⟨default, default, default, default, default, default, default, default, default, default, default, default, default⟩⟩
instance : Inhabited Kz := ⟨⟨default, default, default⟩⟩
instance : Inhabited Qx := ⟨⟨default, default, default⟩⟩
instance : Inhabited Qi := ⟨⟨default, default, default, default⟩⟩
instance : Inhabited Qu := ⟨⟨default, default⟩⟩
instance : Inhabited U6 := ⟨⟨default, default, default, default, default⟩⟩
instance : Inhabited JN := ⟨⟨default, default⟩⟩
instance : Inhabited HW := ⟨⟨default, default⟩⟩
abbrev zD (d : U6) : Prop := d.fa1.length ≤ 1048576 ∧ (∀ o ∈ d.fa1, o.fa9.length ≤ 1048576) ∧ d.fc8.length ≤ 1024
abbrev oN (x : Int) : Prop := x ≤ 1099511627776
abbrev oCm (c : Q3) : Prop := (1 ≤ c.fa5 ∧ c.fa5 ≤ 8) ∧ (1 ≤ c.fu ∧ c.fu ≤ 64) ∧ (c.fc0.length : Int) = c.fa5 * c.fu ∧ c.fc0.length ≤ 512 ∧ ∀ x ∈ c.fc0, oN x
abbrev oLl (c : Q8) : Prop := (2 ≤ c.fa7 ∧ c.fa7 ≤ 8) ∧ (c.fa3.length : Int) = Y7 .i64 1 (IntKind.u64.wrap c.fa7) ∧ c.fa3.length ≤ 256 ∧ ∀ x ∈ c.fa3, oN x
abbrev oE (x : Q5) : Prop := x.fd5.size ≤ 32 ∧ oN x.fb9 ∧ oN x.ff5
abbrev oTp (c : Qf) : Prop := (1 ≤ c.fu ∧ c.fu ≤ 32) ∧ c.fq.length ≤ 32 ∧ oN c.fy ∧ ∀ x ∈ c.fq, oE x
abbrev oFr (c : Q4) : Prop := (1 ≤ c.fu ∧ c.fu ≤ 32) ∧ c.fq.length ≤ 32 ∧ oN c.fy ∧ oN c.fd3 ∧ ∀ x ∈ c.fq, oE x
abbrev oK (k : ByteArray) : Prop := k.size ≤ 32
abbrev oKs (l : List ByteArray) : Prop := l.length ≤ 32 ∧ ∀ k ∈ l, oK k
abbrev oRk (c : Qa) : Prop := (2 ≤ c.fu ∧ c.fu ≤ 32) ∧ c.fa8.length ≤ 41 ∧ oN c.fy ∧ oN c.fc9 ∧ (∀ l ∈ c.fa8, oKs l) ∧ ∀ l ∈ c.fa8, (l.length : Int) < c.fu
abbrev Qs5 (c : Qz) : Prop := (1 ≤ c.fa2 ∧ c.fa2 ≤ 3) ∧ (1 ≤ c.fb8 ∧ c.fb8 ≤ 3) ∧ (1 ≤ c.f9 ∧ c.f9 ≤ 60) ∧ (8 ≤ c.fb6 ∧ c.fb6 ≤ 200) ∧ (1 ≤ c.fc8 ∧ c.fc8 ≤ 8) ∧ (1 ≤ c.fc3 ∧ c.fc3 ≤ 100) ∧ 1 ≤ c.fb0 ∧ c.fb0 ≤ 4
abbrev zOn (n : Nat) (o : Qv) : Prop := o.fb8.length ≤ n ∧ o.fb3.length ≤ n ∧ o.ff9.length ≤ n ∧ o.fc6.length ≤ n ∧ bB o.fc6 ∧ o.fd4.size ≤ 2000000 ∧ o.fg.size ≤ 2000000 ∧ (∀ x ∈ o.fb3, zI x) ∧ (∀ x ∈ o.fb8, x.size ≤ 2000000) ∧ zPa o.fk ∧ Gd o.fc6
abbrev zEv (e : QF) : Prop := zOp e.fOp
end Go.Proofs.YtimfmcpbkdpmoaaGreat
