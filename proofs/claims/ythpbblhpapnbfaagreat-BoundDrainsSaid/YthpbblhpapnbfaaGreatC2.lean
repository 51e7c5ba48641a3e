/- Parts of the proof, laid together. No condition. -/
import Derived.Test.YthpbblhpapnbfaaGreatC1
import Derived.Great.BuildSlice
import Derived.ChangeKeysEq
import Derived.Laws.StructEq
import Derived.Laws.IdiomStrings
import Derived.Laws.MakeOwn
import Derived.ScopeJumps
import Derived.Lib.Mul64
import Derived.Laws.Bits64b
set_option linter.unusedVariables false
set_option linter.unusedSimpArgs false
namespace Go.Proofs.YthpbblhpapnbfaaGreat
open Go.RowKit
section
variable {E : En} {N : Nat} {P : Program} {T : Tb P} {st : St} {Q : Exit → St → Prop} {cx : Cx} {a : Act} {w : World} {fn : Func}
def Nm (st st' : St) : Prop := ∃ ks σ, okS σ = true ∧ st.norm ks σ = st'
theorem Nm.mk (ks : List Nat) (σ : List (Z9 × Z9)) {st' : St} (h1 : okS σ = true) (h : st.norm ks σ = st') : Nm st st' := ⟨ks, σ, h1, h⟩
theorem FI {x y : Code} (h : ∀ K : St → Prop, (∀ st, AW E N P y Q st → K st) → AW E N P x (Fh Q K) st) : AW E N P (.seq x y) Q st := Ls (h _ fun _ h => h)
theorem LB {x : List Oper} {id : Nat} {y : Code} (hN : Lk N x = true) (h : ∀ K : St → Prop, (∀ st, AW E N P y Q st → K st) → W5 E N P x.toArray x [] st fun acc st' => Ho acc.reverse = true ∧ XY st acc = true ∧ K st') : AW E N P (.seq (.region id x.toArray false) y) Q st :=
  FI fun K hK => I9 hN (h K hK)
theorem LC {x : List Oper} {id : Nat} {y : Code} (hm : P.follows .mixedOrders = true) (hS : Li N x = true) (h : ∀ K : St → Prop, (∀ st, AW E N P y Q st → K st) → W5 E N P x.toArray x [] st fun acc st' => Hn x acc.reverse = true ∧ XY st acc = true ∧ K st') : AW E N P (.seq (.region id x.toArray true) y) Q st :=
  FI fun K hK => I8 hm hS (h K hK)
theorem Bp.ps : ∀ {xs : List PV}, Bp st (xs.map .p) xs []
  | [] => .nil
  | x :: xs => .cons (b := []) (bs := []) (.p x) Bp.ps
section
variable {ops : Array Oper} {d : Nat} {ty : Nat} {pos : String} {af : Array Edge} {gd : Option (Nat × Bool)} {f : FuncId} {xs : Array Operand} {tys : Array TypeId} {dst : Option Nat} {avs : List AV} {bs : List Z9}
theorem gm {α β : Type} {l : List α} {g : α → β} {j : Nat} {x : α} (h : l[j]? = some x) : (l.map g)[j]? = some (g x) := by rw [List.getElem?_map, h]; rfl
end
theorem Ak {f : FuncId} {avs : List AV} {x : Value} (he : IB P f = true) (hx : Jj x = true) (hn : avs.any AV.isRef = false) (h : ∀ A q w vs, Lb w A (fun _ => none) w.heap.size q avs vs.toList → Calls P f vs w fun e w' => e = .returned x ∧ w.grownBy w' none) : Qq P f avs [.c (.p (.v x))] [] := by
  refine ⟨he, fun A gs g q w vs hA hinj hgs hg hR => ?_⟩
  obtain ⟨hg1, rfl⟩ := hg hn
  have e : gs = fun _ => none := funext hg1
  subst e
  refine (h A q w vs hR).mono ?_
  rintro _ w' ⟨rfl, hgr⟩
  exact ⟨x, A, fun _ => none, rfl, fun _ h => h, fun _ h => .inl h, hgr.size, fun y hy _ _ => hgr.block y hy (by simp), hgr.os, hgr.tape, hgr.output, fun n m y h => (by cases h), fun n y h => (by cases h), ⟨KG hx, .v x hx, trivial⟩, fun h => by rw [hn] at h; cases h⟩
theorem Ww {A : Nat → Prop} {gs : Nat → Option Nat} {g q : Nat} : ∀ {xs : List Value} {vs : Array Value}, Lb w A gs g q (xs.map fun x => .c (.v x)) vs.toList → vs = xs.toArray := by
  intro xs vs h
  suffices vs.toList = xs by rw [← this]
  revert h
  generalize vs.toList = l
  intro h
  induction xs generalizing l with
  | nil =>
    cases l with
    | nil => rfl
    | cons v l => exact h.elim
  | cons x xs ih =>
    cases l with
    | nil => exact h.elim
    | cons v l =>
      obtain ⟨h1, h2⟩ := h
      have : v = x := by cases h1 with | v _ _ => rfl
      rw [this, ih l h2]
end
section
variable {E : En} {N : Nat} {P : Program} {T : Tb P} {st : St} {Q : Exit → St → Prop} {cx : Cx} {a : Act} {w w' : World} {fn : Func}
end
section
variable {E : En} {N : Nat} {cx : Cx} {st : St} {a : Act} {w w' : World} {P : Program} {T : Tb P} {ops : Array Oper} {o : Oper} {d : Nat} {ty : Nat} {pos : String} {af : Array Edge} {gd : Option (Nat × Bool)}
end
section
variable {E : En} {N : Nat} {P : Program} {st : St} {ops : Array Oper} {d : Nat} {ty : Nat} {pos : String} {af : Array Edge} {gd : Option (Nat × Bool)}
theorem QI {x : Operand} {y : List TV} (hx : st.ev x = .tup y) (hc : Zw x = true) : KF E N P ops ⟨some d, .move x, ty, pos, af, gd⟩ st ⟨[], []⟩ ⟨.tup y, []⟩ := Gj hc hx
end
section
variable {w w' : World} {P : Program} {A : Nat → Prop} {gs : Nat → Option Nat} {g q : Nat}
end
section
variable {E : En} {N : Nat} {P : Program} {T : Tb P} {st : St} {ops : Array Oper} {d : Nat} {ty : Nat} {pos : String} {af : Array Edge} {gd : Option (Nat × Bool)}
theorem GC {x y : Operand} {t : TypeId} {te : TE} {b : Z9} {k : Nat} {all all' : List CV} {v : CV} {dst : Option Nat} (hx : st.ev x = .c (.ptr b 0 k)) (hb : st.h b = some (.box all)) (hv : st.ev y = .c v) (hk : TV.known (.c v) = true) (ht : ZZ T.ty t = some te) (hsz : 1 = te.size) (hin : Nat.ble (k + 1) all.length = true)
    (hall : setAt all k [v] = all') (hcx : Zw x = true) (hcy : Zw y = true) : KF E N P ops ⟨dst, .store t x y, ty, pos, af, gd⟩ st ⟨[b], []⟩ ⟨.c .any, [(b, some (.box all'))]⟩ := CW hx hb hv hk ht hsz (Nat.le_of_ble_eq_true hin) hall hcx hcy
theorem GD {x y : Operand} {t : TypeId} {te : TE} {b : Z9} {k : Nat} {all all' cs : List CV} {dst : Option Nat} (hx : st.ev x = .c (.ptr b 0 k)) (hb : st.h b = some (.box all)) (hv : st.ev y = .agg cs) (ht : ZZ T.ty t = some te) (hsz : cs.length = te.size) (hin : Nat.ble (k + cs.length) all.length = true)
    (hall : setAt all k cs = all') (hcx : Zw x = true) (hcy : Zw y = true) : KF E N P ops ⟨dst, .store t x y, ty, pos, af, gd⟩ st ⟨[b], []⟩ ⟨.c .any, [(b, some (.box all'))]⟩ := CX hx hb hv ht hsz (Nat.le_of_ble_eq_true hin) hall hcx hcy
end
def DK (pl : Nat → Option (Nat × Nat)) : List CV → List (Nat × TV) → Option (List CV)
  | cs, [] => some cs
  | cs, (i, t) :: r => match pl i with
    | none => none
    | some (off, size) => match Nat.beq t.cells.length size && Nat.ble (off + t.cells.length) cs.length && t.known with
      | true => DK pl (setAt cs off t.cells) r
      | false => none
def IJ (tb : List (Nat × TE)) : List (Nat × Nat) → Option (List (Nat × Nat))
  | [] => some []
  | (o, t) :: r => match ZZ tb t with
    | none => none
    | some te => match IJ tb r with
      | none => none
      | some l => some ((o, te.size) :: l)
section
variable {E : En} {N : Nat} {P : Program} {T : Tb P} {ops : Array Oper} {o : Oper} {st : St} {d : Nat} {ty : Nat} {pos : String} {af : Array Edge} {gd : Option (Nat × Bool)} {cx : Cx} {a : Act} {w w' : World}
theorem Ic : ∀ {fs : List (Nat × Nat)} {pl : List (Nat × Nat)} (F : List Field), IJ T.ty fs = some pl → F.map (fun f => (f.offset, f.type)) = fs → F.mapM (fun f => (P.info? f.type).map fun i => (f.offset, i.size)) = some pl
  | [], pl, F, h, hF => by
    have : F = [] := by simpa using hF
    subst this
    simp only [IJ, Option.some.injEq] at h
    subst h; rfl
  | (o, t) :: fs, pl, F, h, hF => by
    cases F with
    | nil => simp at hF
    | cons f F =>
      simp only [List.map_cons, List.cons.injEq, Prod.mk.injEq] at hF
      obtain ⟨⟨rfl, rfl⟩, hF⟩ := hF
      simp only [IJ] at h
      cases ht : ZZ T.ty f.type with
      | none => rw [ht] at h; cases h
      | some te =>
        rw [ht] at h
        simp only at h
        cases hp : IJ T.ty fs with
        | none => rw [hp] at h; cases h
        | some l =>
          rw [hp] at h
          cases h
          have ih := Ic F hp hF
          obtain ⟨dd, i, h1, h2, h3, h4, h5, h6⟩ := JX (T.ok _ _ ht)
          simp only [List.mapM_cons, ih, h2, Option.map_some, h4]
          rfl
theorem Bq {h : Z9 → Option Bk} {pl : Nat → Option (Nat × Nat)} : ∀ {ps : List (Nat × TV)} {vs : List (Nat × Value)} {cs cs' : List CV} {cells : Array Value}, DK pl cs ps = some cs' → RL cx w h cs cells → vs.length = ps.length →
    (∀ (k i : Nat) (t : TV), ps[k]? = some (i, t) → ∃ v, vs[k]? = some (i, v) ∧ RT cx w h t v) → ∃ cells', Instr.fill pl cells vs = some cells' ∧ RL cx w h cs' cells' := by
  intro ps
  induction ps with
  | nil =>
    intro vs cs cs' cells h1 h2 h3 h4
    have : vs = [] := List.eq_nil_of_length_eq_zero (by simpa using h3)
    subst this
    cases h1
    exact ⟨cells, rfl, h2⟩
  | cons p ps ih =>
    intro vs cs cs' cells h1 h2 h3 h4
    obtain ⟨i, t⟩ := p
    obtain ⟨v, hv, hrt⟩ := h4 0 i t rfl
    cases vs with
    | nil => simp at h3
    | cons v0 vs =>
      rw [List.getElem?_cons_zero] at hv
      cases hv
      simp only [DK] at h1
      cases hp : pl i with
      | none => rw [hp] at h1; cases h1
      | some y =>
        obtain ⟨off, size⟩ := y
        rw [hp] at h1
        simp only at h1
        split at h1
        case h_2 => cases h1
        rename_i hc
        simp only [Bool.and_eq_true] at hc
        obtain ⟨⟨hc1, hc2⟩, hc3⟩ := hc
        have hc1 := Nat.eq_of_beq_eq_true hc1
        have hc2 := Nat.le_of_ble_eq_true hc2
        have hrl := Wv hc3 hrt
        have hsz : v.cells.size = t.cells.length := hrl.1
        obtain ⟨g1, g2⟩ := Great.foldl_set off v.cells.toList 0 cells
        have hstep : RL cx w h (setAt cs off t.cells) ((v.cells.toList.zipIdx 0).foldl (fun cs (x : Value × Nat) => cs.setIfInBounds (off + x.2) x.1) cells) := by
          refine ⟨by rw [g1, UQ _ _ _ hc2]; exact h2.1, fun k c hk => ?_⟩
          rw [YG _ _ _ hc2] at hk
          rw [g2 k, Nat.add_zero, Array.length_toList, hsz]
          have hcsz := h2.1
          by_cases hkk : k < off ∨ off + t.cells.length ≤ k
          · rw [if_pos hkk] at hk
            rw [if_neg (by omega)]
            exact h2.2 k c hk
          · rw [if_neg hkk] at hk
            rw [if_pos (by omega), Array.getElem?_toList]
            exact hrl.2 _ c hk
        obtain ⟨cells', h5, h6⟩ := ih h1 hstep (by simpa using h3) (fun k i t hk => h4 (k + 1) i t (by simpa using hk))
        refine ⟨cells', ?_, h6⟩
        unfold Instr.fill
        simp only [hp]
        rw [if_neg (by simp [hsz, hc1]; have := h2.1; omega)]
        rw [← h5]
        congr 1
        rw [← Array.foldl_toList, Array.toList_zipIdx]
theorem UR {rb : List Z9} {parts : Array (Nat × Operand)} {st' : St} (hr : V8 E N cx st' a w) (ha : Agree ops o ⟨rb, []⟩ st st') (hm : ∀ x ∈ parts.toList, x.2 ∈ o.op.operands.toList) (hok : parts.toList.all (fun x => Zw x.2) = true) :
    ∀ (k i : Nat) (t : TV), (parts.toList.map fun x => (x.1, st.ev x.2))[k]? = some (i, t) → ∃ v, (parts.map fun (i, x) => (i, a.eval x)).toList[k]? = some (i, v) ∧ RT cx w st'.h t v := by
  intro k i t hk
  rw [List.getElem?_map, Option.map_eq_some_iff] at hk
  obtain ⟨⟨j, x⟩, hx, hxe⟩ := hk
  simp only [Prod.mk.injEq] at hxe
  obtain ⟨rfl, rfl⟩ := hxe
  have hmem := List.mem_of_getElem? hx
  refine ⟨a.eval x, by rw [Array.toList_map, List.getElem?_map, hx]; rfl, ?_⟩
  have h1 := hr.ev (x := x) (List.all_eq_true.1 hok _ hmem)
  rw [KI ha (hm _ hmem)] at h1
  exact h1
theorem DL {h : Z9 → Option Bk} {zs : List Value} {z : Value} (hz : z.cells.toList = zs) (hat : zs.all Jj = true) : RL cx w h (zs.map fun v => .p (.v v)) z.cells := by
  subst hz
  refine ⟨by simp, fun i c hi => ?_⟩
  rw [List.getElem?_map, Option.map_eq_some_iff] at hi
  obtain ⟨v, hv, rfl⟩ := hi
  have hat' := List.all_eq_true.1 hat v (List.mem_of_getElem? hv)
  exact ⟨v, by simpa using hv, KG hat', .v v hat'⟩
theorem CC {parts : Array (Nat × Operand)} {t : Nat} {tt : TE} {fs pl : List (Nat × Nat)} {zs : List Value} {cs : List CV} (ht : ZZ T.ty t = some tt) (hk : tt.kd = .struct fs) (hpl : IJ T.ty fs = some pl) (hz : tt.zero.cells.toList = zs) (hat : zs.all Jj = true)
    (hf : DK (fun i => pl[i]?) (zs.map fun v => .p (.v v)) (parts.toList.map fun x => (x.1, st.ev x.2)) = some cs) (hok : parts.toList.all (fun x => Zw x.2) = true) :
    KF E N P ops ⟨some d, .build t parts, ty, pos, af, gd⟩ st ⟨[], []⟩ ⟨.agg cs, []⟩ :=
  Zi fun st' cx a w ha hr => by
    obtain ⟨F, hu, hF⟩ := Fc ht hk
    obtain ⟨dd, i, h1, h2, h3, h4, h5, h6⟩ := JX (T.ok _ _ ht)
    have hm : ∀ x ∈ parts.toList, x.2 ∈ (Op.build t parts).operands.toList := fun x hx => by
      simp only [Op.operands, Array.toList_map, List.mem_map]; exact ⟨x, hx, rfl⟩
    obtain ⟨cells', h7, h8⟩ := Bq (cx := cx) (w := w) (h := st'.h) hf (DL hz hat) (vs := (parts.map fun (i, x) => (i, a.eval x)).toList) (by simp) (UR hr ha (fun x hx => hm x hx) hok)
    refine ⟨.agg cells', ?_, cells', rfl, h8⟩
    simp only [execOp, Sem.run_bind]
    rw [run_build w t _ cells' (by
      unfold Program.built
      rw [h2, hu]
      simp only [h6, Ic F.toList hpl hF]
      simpa using h7)]
    rfl
theorem CE {parts : Array (Nat × Operand)} {t n e : Nat} {tt te : TE} {zs : List Value} {cs : List CV} (ht : ZZ T.ty t = some tt) (hk : tt.kd = .array n e) (hel : ZZ T.ty e = some te) (hz : tt.zero.cells.toList = zs) (hat : zs.all Jj = true)
    (hf : DK (fun i => some (i * te.size, te.size)) (zs.map fun v => .p (.v v)) (parts.toList.map fun x => (x.1, st.ev x.2)) = some cs) (hok : parts.toList.all (fun x => Zw x.2) = true) :
    KF E N P ops ⟨some d, .build t parts, ty, pos, af, gd⟩ st ⟨[], []⟩ ⟨.agg cs, []⟩ :=
  Zi fun st' cx a w ha hr => by
    have hu := Gk ht hk
    obtain ⟨dd, i, h1, h2, h3, h4, h5, h6⟩ := JX (T.ok _ _ ht)
    obtain ⟨dd', i', h1', h2', h3', h4', h5', h6'⟩ := JX (T.ok _ _ hel)
    have hm : ∀ x ∈ parts.toList, x.2 ∈ (Op.build t parts).operands.toList := fun x hx => by
      simp only [Op.operands, Array.toList_map, List.mem_map]; exact ⟨x, hx, rfl⟩
    obtain ⟨cells', h7, h8⟩ := Bq (cx := cx) (w := w) (h := st'.h) hf (DL hz hat) (vs := (parts.map fun (i, x) => (i, a.eval x)).toList) (by simp) (UR hr ha (fun x hx => hm x hx) hok)
    refine ⟨.agg cells', ?_, cells', rfl, h8⟩
    simp only [execOp, Sem.run_bind]
    rw [run_build w t _ cells' (by
      unfold Program.built
      rw [h2, hu]
      simp only [h6, h2', h4']
      exact h7)]
    rfl
def pvs : List CV → Option (List PV)
  | [] => some []
  | .p x :: r => match pvs r with
    | some l => some (x :: l)
    | none => none
  | _ => none
def Uo (e : Nat) : Nat → List PV → List (List PV)
  | 0, _ => []
  | n + 1, l => l.take e :: Uo e n (l.drop e)
theorem HH : ∀ {cs : List CV} {ps : List PV}, pvs cs = some ps → cs = ps.map .p
  | [], ps, h => by simp only [pvs, Option.some.injEq] at h; subst h; rfl
  | .p x :: r, ps, h => by
    simp only [pvs] at h
    split at h
    · rename_i l hl
      cases h
      rw [HH hl]; rfl
    · cases h
  | .any :: r, ps, h => by cases h
  | .ptr _ _ _ :: r, ps, h => by cases h
  | .sl _ _ _ :: r, ps, h => by cases h
  | .ep _ _ :: r, ps, h => by cases h
theorem AC (e : Nat) : ∀ (n : Nat) (l : List PV), l.length = n * e → (Uo e n l).length = n ∧ (∀ r ∈ Uo e n l, r.length = e) ∧ ∀ (i : Nat) (r : List PV) (k : Nat) (p : PV), (Uo e n l)[i]? = some r → r[k]? = some p → l[i * e + k]? = some p
  | 0, l, _ => ⟨rfl, by simp [Uo], by simp [Uo]⟩
  | n + 1, l, hl => by
    rw [Nat.succ_mul] at hl
    obtain ⟨h1, h2, h3⟩ := AC e n (l.drop e) (by rw [List.length_drop]; omega)
    refine ⟨by simp [Uo, h1], fun r hr => ?_, fun i r k p hi hk => ?_⟩
    · rcases List.mem_cons.1 hr with rfl | hr
      · rw [List.length_take]; omega
      · exact h2 r hr
    · cases i with
      | zero =>
        simp only [Uo, List.getElem?_cons_zero, Option.some.injEq] at hi
        subst hi
        rw [List.getElem?_take] at hk
        split at hk
        · rw [Nat.zero_mul, Nat.zero_add]; exact hk
        · cases hk
      | succ i =>
        simp only [Uo, List.getElem?_cons_succ] at hi
        have := h3 i r k p hi hk
        rw [List.getElem?_drop] at this
        rw [Nat.succ_mul, show i * e + e + k = e + (i * e + k) by omega]; exact this
theorem BZ {pl : Nat → Option (Nat × Nat)} : ∀ {vs : List (Nat × Value)} {cells cells' : Array Value}, Instr.fill pl cells vs = some cells' → cells'.size = cells.size
  | [], cells, cells', h => by cases h; rfl
  | (i, v) :: vs, cells, cells', h => by
    unfold Instr.fill at h
    split at h
    · cases h
    · split at h
      · cases h
      · rw [BZ h, ← Array.foldl_toList, Array.toList_zipIdx]
        exact (Great.foldl_set _ _ _ _).1
theorem Br {parts : Array (Nat × Operand)} {t e n sz : Nat} {tt te : TE} {zs : List Value} {cs : List CV} {ps : List PV} {rows : List (List PV)} (ht : ZZ T.ty t = some tt) (hk : tt.kd = .slice e) (hel : ZZ T.ty e = some te) (hsz : te.size = sz) (hpos : Nat.blt 0 (n * sz) = true) (hsm : Nat.ble (n * sz) 16777216 = true)
    (hz : te.zero.cells.toList = zs) (hat : zs.all Jj = true) (hf : DK (fun i => some (i * sz, sz)) ((List.range (n * sz)).map fun i => .p (.v (zs.getD (i % zs.length) undef))) (parts.toList.map fun x => (x.1, st.ev x.2)) = some cs) (hps : pvs cs = some ps) (hrows : Uo sz n ps = rows)
    (hzl : zs.length = sz) (hok : parts.toList.all (fun x => Zw x.2) = true) :
    KF E N P ops ⟨some d, .buildSlice t n parts, ty, pos, af, gd⟩ st ⟨[], [(d, 0)]⟩ ⟨.c (.sl (d, 0) 0 n), [((d, 0), some (.row sz rows true))]⟩ := by
  intro st' ha hfr hd cx a w Q hr
  have hpos := Nat.le_of_ble_eq_true hpos
  have hsm := Nat.le_of_ble_eq_true hsm
  have hn0 : 0 < n := Nat.pos_of_ne_zero (fun h => by rw [h] at hpos; omega)
  have hsz0 : 0 < sz := Nat.pos_of_ne_zero (fun h => by rw [h] at hpos; omega)
  have hu := KJ ht hk
  obtain ⟨dd', i', h1', h2', h3', h4', h5', h6'⟩ := JX (T.ok _ _ hel)
  have hm : ∀ x ∈ parts.toList, x.2 ∈ (Op.buildSlice t n parts).operands.toList := fun x hx => by
    simp only [Op.operands, Array.toList_map, List.mem_map]; exact ⟨x, hx, rfl⟩
  have hz0 : RL cx w st'.h ((List.range (n * sz)).map fun i => .p (.v (zs.getD (i % zs.length) undef))) ((Array.range (n * te.size)).map (te.zero.cells[· % te.zero.cells.size]!)) := by
    have hzs : te.zero.cells.size = sz := by rw [← hzl, ← hz]; simp
    refine ⟨by simp [hsz], fun i c hi => ?_⟩
    rw [List.getElem?_map, Option.map_eq_some_iff] at hi
    obtain ⟨j, hj, rfl⟩ := hi
    have hil : i < n * sz := by simpa using (List.getElem?_eq_some_iff.1 hj).1
    rw [List.getElem?_range hil] at hj
    cases hj
    have hmod : i % sz < sz := Nat.mod_lt _ hsz0
    have hat' : Jj (zs.getD (i % zs.length) undef) = true := by
      rw [hzl, List.getD_eq_getElem?_getD, List.getElem?_eq_getElem (by omega)]
      exact List.all_eq_true.1 hat _ (List.getElem_mem _)
    refine ⟨zs.getD (i % zs.length) undef, ?_, KG hat', .v _ hat'⟩
    rw [Array.getElem?_map, Array.getElem?_range, hsz, if_pos hil, Option.map_some, hzs, hzl]
    congr 1
    have hbd : i % sz < te.zero.cells.size := by rw [hzs]; exact hmod
    have hg : zs[i % sz]? = some (te.zero.cells[i % sz]'hbd) := by rw [← hz, Array.getElem?_toList, Array.getElem?_eq_getElem]
    rw [getElem!_pos te.zero.cells _ hbd, List.getD_eq_getElem?_getD, hg]
    rfl
  obtain ⟨cells', h7, h8⟩ := Bq (cx := cx) (w := w) (h := st'.h) hf hz0 (vs := (parts.map fun (i, x) => (i, a.eval x)).toList) (by simp) (UR hr ha (fun x hx => hm x hx) hok)
  have hcs := HH hps
  have hlen : cells'.size = n * sz := by
    rw [BZ h7]; simp [hsz]
  have hpl : ps.length = n * sz := by
    have := h8.1; rw [hcs, List.length_map] at this; omega
  obtain ⟨c1, c2, c3⟩ := AC sz n ps hpl
  rw [hrows] at c1 c2 c3
  have hrun := run_buildSlice (P := P) w t e n (parts.map fun (i, x) => (i, a.eval x)) cells' i' te.zero hu h2' h6' (by rw [h4', hsz]; omega) (by rw [h4', hsz]; omega) (by rw [h4', hsz]; rw [hsz] at h7; exact h7)
  refine Yt (v := .slice (some ⟨w.heap.size, 0, none⟩) n n) (w' := w.alloc (.cells cells' e)) (by simp only [execOp, Sem.run_bind, hrun]; rfl) ⟨_, YE (w' := w.alloc (.cells cells' e)) (bk := .row sz rows true) (t := .c (.sl (d, 0) 0 n)) hr hd (b := (d, 0)) (hd d rfl) (hfr (d, 0) (by simp)) (ob := .cells cells' e) rfl rfl rfl rfl ?_ ?_⟩
  · refine ⟨hsz0, c2, ?_⟩
    simp only [Cx.upd, if_true]
    refine ⟨trivial, cells', e, (0, 0), n, Vz rfl, fun _ => ⟨rfl, fun h => ?_⟩, (fun h => by cases h), hlen, by omega, by unfold maxLen; have := Nat.le_mul_of_pos_right n hsz0; omega, fun i r k p hi hk => ?_⟩
    · have := (hr.A _ h).1; omega
    · have hp := c3 i r k p hi hk
      obtain ⟨u, hu, h9, h10⟩ := h8.2 (i * sz + k) (.p p) (by rw [hcs, List.getElem?_map, hp]; rfl)
      exact ⟨u, by simpa using hu, RP.keeps h10 (fun _ h => h) (Vy rfl)⟩
  · refine ⟨.inr rfl, fun bk hbk => ?_⟩
    rw [VZ, if_pos rfl] at hbk
    cases hbk
    refine ⟨_, n, rfl, Nat.le_refl _, by unfold maxLen; have := Nat.le_mul_of_pos_right n hsz0; omega, by simp [Bk.len, c1], .inr ⟨w.heap.size, cells', e, (0, 0), by simp [Cx.upd], by simp [Bk.e], Vz rfl, fun _ => by simp [Bk.e, hlen]⟩⟩
end
def gt : Bool → TV → TV
  | true, t => t
  | false, _ => .tup []
theorem Ql {g : Bool} {t : TV} (h : g = true) : gt g t = t := by subst h; rfl
theorem Qb {b : Bool} : (b == true) = b := by cases b <;> rfl
theorem Qg {b : Bool} : (b == false) = !b := by cases b <;> rfl
section
variable {E : En} {N : Nat} {P : Program} {T : Tb P} {ops : Array Oper} {o : Oper} {st : St} {r : List Oper} {acc : List (Fp × Ef)} {K : List (Fp × Ef) → St → Prop} {d : Nat} {ty : Nat} {pos : String} {af : Array Edge} {gd : Option (Nat × Bool)} {op : Op} {f : Fp} {t : TV} {fr : List (Nat × TV)} {H : List (Z9 × Option Bk)}
theorem QR {j dj : Nat} {want b g g0 : Bool} (hj : (ops[j]?).bind (·.dst) = some dj) (hb : (⟨fr, H⟩ : St).g dj = gt g0 (.c (.p (.v (.bool b))))) (hg : (g0 && (b == want)) = g) (hop : g = true → KF E N P ops ⟨some d, op, ty, pos, af, some (j, want)⟩ ⟨fr, H⟩ f ⟨t, []⟩)
    (h : W5 E N P ops r ((f, ⟨gt g t, []⟩) :: acc) ⟨(d, gt g t) :: fr, H⟩ K) : W5 E N P ops (⟨some d, op, ty, pos, af, some (j, want)⟩ :: r) acc ⟨fr, H⟩ K := by
  refine ⟨f, ⟨gt g t, []⟩, ?_, h⟩
  have hw : wn ops ⟨some d, op, ty, pos, af, some (j, want)⟩ ⟨fr, H⟩ = some g := by
    unfold wn
    simp only [hj, hb]
    subst hg
    cases g0
    · rfl
    · simp [gt]
  cases g with
  | true => exact .inl ⟨hw, hop rfl⟩
  | false => exact .inr ⟨hw, trivial, rfl⟩
theorem Q5 {j dj : Nat} {want b g : Bool} (hj : (ops[j]?).bind (·.dst) = some dj) (hb : (⟨fr, H⟩ : St).g dj = .c (.p (.v (.bool b)))) (hg : (b == want) = g) (hop : g = true → KF E N P ops ⟨some d, op, ty, pos, af, some (j, want)⟩ ⟨fr, H⟩ f ⟨t, []⟩)
    (h : W5 E N P ops r ((f, ⟨gt g t, []⟩) :: acc) ⟨(d, gt g t) :: fr, H⟩ K) : W5 E N P ops (⟨some d, op, ty, pos, af, some (j, want)⟩ :: r) acc ⟨fr, H⟩ K := QR (g0 := true) hj hb (by simpa using hg) hop h
theorem Qu {c x y : Operand} {b g : Bool} {v w : Value} {u : Value} (hv : st.ev c = .c (.p (.v (.bool b)))) (hx : st.ev x = gt g (.c (.p (.v v)))) (hg : (b == true) = g) (hy : st.ev y = .c (.p (.v w))) (hu : (bif b then v else w) = u) (hb : Zw c = true) (h1 : Zw x = true) (h2 : Zw y = true) :
    KF E N P ops ⟨some d, .pick c x y, ty, pos, af, gd⟩ st ⟨[], []⟩ ⟨.c (.p (.v u)), []⟩ := by
  refine Bi hb h1 h2 hv ?_
  subst hg hu
  cases b
  · rw [if_neg (by simp)]; exact hy
  · rw [if_pos rfl]; exact hx
theorem Qy {c x y : Operand} {b g : Bool} {v w : Value} {u : Value} (hv : st.ev c = .c (.p (.v (.bool b)))) (hx : st.ev x = .c (.p (.v v))) (hg : (b == false) = g) (hy : st.ev y = gt g (.c (.p (.v w)))) (hu : (bif b then v else w) = u) (hb : Zw c = true) (h1 : Zw x = true) (h2 : Zw y = true) :
    KF E N P ops ⟨some d, .pick c x y, ty, pos, af, gd⟩ st ⟨[], []⟩ ⟨.c (.p (.v u)), []⟩ := by
  refine Bi hb h1 h2 hv ?_
  subst hg hu
  cases b
  · rw [if_neg (by simp)]; exact hy
  · rw [if_pos rfl]; exact hx
theorem QH {b x y : Bool} : (bif b then Value.bool x else Value.bool y) = .bool (bif b then x else y) := by cases b <;> rfl
end
def QL (st st' : St) : Prop := ∀ (E : En) (N : Nat) (cx : Cx) (a : Act) (w : World), V8 E N cx st a w → ∃ cx', V8 E N cx' st' a w
def jn {α : Type} (k : α → Prop) (m : (α → Prop) → Prop) : Prop := m k
def lp {σ : Type} (step : (σ → Prop) → σ → Prop) (s : σ) : Prop := ∀ X : σ → Prop, (∀ s, step X s → X s) → X s
def ix {α : Type} (l : List α) (n : Int) (x : α) : Prop := 0 ≤ n ∧ l[n.toNat]? = some x
def FJ (P : Program) (c : Code) (Q : Exit → Act → World → Prop) (a : Act) (w : World) : Prop :=
  ∀ (b : Frame) (kk : List Item) (cs : List Frame), ∃ e a' w', Q e a' w' ∧ Arrives P (lone (b.at a (.code c :: .inLoop c :: kk)) cs w) b kk cs e a' w'
theorem HI {P : Program} {c : Code} {Q : Exit → Act → World → Prop} {a : Act} {w : World} (h : FJ P c Q a w) : (Code.loop c).wp P Q a w := by
  intro b kk cs
  obtain ⟨e, a', w', hq, harr⟩ := h b kk cs
  exact ⟨e, a', w', hq, .of_steps (.one step_loop) harr⟩
theorem LD {P : Program} {c : Code} {Q : Exit → Act → World → Prop} {a : Act} {w : World} (h : c.wp P (Exit.then (FJ P c Q) Q) a w) : FJ P c Q a w := by
  intro b kk cs
  obtain ⟨e, a₁, w₁, hq, harr⟩ := h b (.inLoop c :: kk) cs
  cases e with
  | normal =>
    obtain ⟨e₂, a₂, w₂, hq₂, harr₂⟩ := hq b kk cs
    exact ⟨e₂, a₂, w₂, hq₂, .of_steps (Steps.trans harr (.one step_inLoop)) harr₂⟩
  | exit id => exact ⟨_, a₁, w₁, hq, .pass (x := .inLoop c) rfl (fun _ _ => .inl (by simp)) harr⟩
  | goto l => exact ⟨_, a₁, w₁, hq, .pass (x := .inLoop c) rfl (fun _ _ => .inl (by simp)) harr⟩
  | ret => exact ⟨_, a₁, w₁, hq, .pass (x := .inLoop c) rfl (fun _ _ => .inl (by simp)) harr⟩
  | panic ch => exact ⟨_, a₁, w₁, hq, .pass (x := .inLoop c) rfl (fun _ _ => .inl (by simp)) harr⟩
  | outgrown => exact ⟨_, a₁, w₁, hq, .pass (x := .inLoop c) rfl (fun _ _ => .inl (by simp)) harr⟩
section
variable {E : En} {N : Nat} {P : Program} {T : Tb P} {Q : Exit → St → Prop} {st st' st2 : St}
theorem QL.refl (st : St) : QL st st := fun _ _ cx _ _ h => ⟨cx, h⟩
theorem QL.trans (h : QL st st') (h2 : QL st' st2) : QL st st2 := fun E N cx a w hr => let ⟨cx', hr'⟩ := h E N cx a w hr; h2 E N cx' a w hr'
theorem QL.nm (ks : List Nat) (σ : List (Z9 × Z9)) (h1 : okS σ = true) (h : st.norm ks σ = st') : QL st st' := fun E N cx a w hr => by subst h; exact hr.norm h1
theorem Zc {c : Code} (h : QL st st') (h2 : AW E N P c Q st') : AW E N P c Q st := fun cx a w hr => let ⟨cx', hr'⟩ := h E N cx a w hr; h2 cx' a w hr'
def AL (E : En) (N : Nat) (P : Program) (c : Code) (Q : Exit → St → Prop) (st : St) : Prop :=
  ∀ cx a w, V8 E N cx st a w → FJ P c (fun e a' w' => ∃ st' cx', Q e st' ∧ V8 E N cx' st' a' w') a w
theorem LE {c : Code} (h : AL E N P c Q st) : AW E N P (.loop c) Q st := fun cx a w hr => HI (h cx a w hr)
theorem LF {c : Code} (h : AW E N P c (Fh Q (AL E N P c Q)) st) : AL E N P c Q st := by
  intro cx a w hr
  refine LD (wp_mono (h cx a w hr) ?_)
  rintro e a' w' ⟨st', cx', h1, h2⟩
  cases e with
  | normal => exact h1 cx' a' w' h2
  | _ => exact ⟨st', cx', h1, h2⟩
theorem N0 {c : Code} (h : QL st st') (h2 : AL E N P c Q st') : AL E N P c Q st := fun cx a w hr => let ⟨cx', hr'⟩ := h E N cx a w hr; h2 cx' a w hr'
theorem ZE {σ : Type} {c : Code} {step : (σ → Prop) → σ → Prop} {s0 : σ} (S : σ → St) (h : lp step s0) (hs : QL st (S s0))
    (hb : ∀ (X : σ → Prop) (L : St → Prop), (∀ p st, X p → QL st (S p) → L st) → ∀ s, step X s → AW E N P c (Fh Q L) (S s)) : AW E N P (.loop c) Q st :=
  LE (h (fun s => ∀ st, QL st (S s) → AL E N P c Q st) (fun s hstep st hst => N0 hst (LF (hb _ _ (fun p st hp hst => hp st hst) s hstep))) st hs)
theorem Zb {α : Type} {x y : Code} {k : α → Prop} {m : (α → Prop) → Prop} (S : α → St) (h : jn k m) (hk : ∀ p, k p → AW E N P y Q (S p))
    (hm : ∀ (J : α → Prop) (L : St → Prop), (∀ p st, J p → QL st (S p) → L st) → m J → AW E N P x (Fh Q L) st) : AW E N P (.seq x y) Q st :=
  Ls (hm k _ (fun p st hp hst => Zc hst (hk p hp)) h)
theorem Zg {c : Code} {Q0 : Exit → St → Prop} (h : ∀ Q : Exit → St → Prop, (∀ e st, Q0 e st → Q e st) → AW E N P c Q st) : AW E N P c Q0 st := h _ fun _ _ h => h
end
theorem DN (b b' : Z9) (x : Option Bk) (fr : List (Nat × TV)) (H : List (Z9 × Option Bk)) : (⟨fr, (b, x) :: H⟩ : St).h b' = if b' = b then x else (⟨fr, H⟩ : St).h b' := by
  show (U4 ((b, x) :: H) b').getD none = _
  simp only [U4]
  by_cases h : b' = b
  · subst h; rw [ZX.2 rfl, if_pos rfl]; rfl
  · have : XI b b' = false := by
      cases hb : XI b b' with
      | false => rfl
      | true => exact absurd (ZX.1 hb).symm h
    rw [this, if_neg h]; rfl
theorem N1 (s s' : Nat) (t : TV) (fr : List (Nat × TV)) (H : List (Z9 × Option Bk)) : (⟨(s, t) :: fr, H⟩ : St).g s' = if s' = s then t else (⟨fr, H⟩ : St).g s' := by
  show (ZZ ((s, t) :: fr) s').getD (.c .any) = _
  simp only [ZZ]
  by_cases h : s' = s
  · subst h; simp
  · have : Nat.beq s s' = false := by
      cases hb : Nat.beq s s' with
      | false => rfl
      | true => exact absurd (Nat.eq_of_beq_eq_true hb).symm h
    rw [this, if_neg h]; rfl
section
variable {E : En} {N : Nat} {P : Program} {T : Tb P} {Q : Exit → St → Prop} {st st' st2 : St} {cx : Cx} {a : Act} {w : World} {fr : List (Nat × TV)} {H : List (Z9 × Option Bk)}
theorem QL.blk (b : Z9) (e : Nat) (he : Nat.blt 0 e = true) (hb0 : Nat.blt b.1 65536 = true) (hf : FC b ⟨fr, H⟩ = true) : QL ⟨fr, H⟩ ⟨fr, (b, some (.row e [] true)) :: H⟩ := by
  intro E N cx a w hr
  have hf := Cy hf
  have hh := DN b (x := some (.row e [] true)) (fr := fr) (H := H)
  have hcmp : ∀ b', b' ≠ b → Ix cx w (⟨fr, H⟩ : St).h (cx.upd b none) w (⟨fr, (b, some (.row e [] true)) :: H⟩ : St).h b' := by
    intro b' hne bk' hb
    rw [hh, if_neg hne] at hb
    exact ⟨bk', hb, rfl, Nat.le_refl _, by simp [Cx.upd, hne], fun g o c el fz _ h => ⟨c, el, fz, h, fun _ => rfl⟩⟩
  have hk : JS cx.A w w := JS.refl _ _
  refine ⟨cx.upd b none, hr.defers, hr.size, fun s' => ?_, fun b' bk hb => ?_, fun b1 b2 g o g' o' h1 h2 h3 h4 hne => ?_, fun b1 g o h1 h2 => ?_, hr.A, hr.A0, hr.kept, hr.sz, hr.os, hr.tape, hr.output, hr.hN, (Dj (Nat.le_of_ble_eq_true hb0)).trans hr.pin⟩
  · refine RT.tr (cx := cx) (fun _ h => h) hk (fun b' hb' => hcmp b' ?_) (hr.fr s')
    rintro rfl
    exact hf.2.1 s' hb'
  · rw [hh] at hb
    by_cases h : b' = b
    · rw [if_pos h] at hb
      cases hb
      subst h
      exact ⟨Nat.le_of_ble_eq_true he, by simp, by simp [Cx.upd]⟩
    · rw [if_neg h] at hb
      refine RB.tr (cx := cx) (fun _ h => h) hk (fun b2 hb2 => hcmp b2 ?_) (by simp [Cx.upd, h]) (fun g o _ => ⟨rfl, fun h => h⟩) (hr.bl b' bk hb)
      rintro rfl
      exact hf.2.2 b' bk hb hb2
  · rw [hh] at h1 h2
    simp only [Cx.upd] at h3 h4
    by_cases e1 : b1 = b
    · rw [if_pos e1] at h3; cases h3
    · by_cases e2 : b2 = b
      · rw [if_pos e2] at h4; cases h4
      · rw [if_neg e1] at h1 h3; rw [if_neg e2] at h2 h4
        exact hr.inj b1 b2 g o g' o' h1 h2 h3 h4 hne
  · rw [hh] at h1
    simp only [Cx.upd] at h2
    by_cases e1 : b1 = b
    · rw [if_pos e1] at h2; cases h2
    · rw [if_neg e1] at h1 h2
      exact hr.own b1 g o h1 h2
theorem V8.frz {b : Z9} {e : Nat} {rows : List (List PV)} {mu : Bool} (hb : st.h b = some (.row e rows mu)) (hr : V8 E N cx st a w) : ∃ cx', (∀ x, cx.A x → cx'.A x) ∧ cx'.ι = cx.ι ∧ V8 E N cx' ⟨st.fr, (b, some (.row e rows false)) :: st.H⟩ a w := by
  have hh := DN b (x := some (.row e rows false)) (fr := st.fr) (H := st.H)
  let cx' : Cx := ⟨cx.ι, fun x => cx.A x ∨ ∃ q, cx.ι b = some (x, q)⟩
  have hA : ∀ x, cx.A x → cx'.A x := fun x h => .inl h
  have hk : JS cx.A w w := JS.refl _ _
  have hcmp : ∀ b', Ix cx w st.h cx' w (⟨st.fr, (b, some (.row e rows false)) :: st.H⟩ : St).h b' := by
    intro b' bk' hb'
    rw [hh] at hb'
    by_cases h : b' = b
    · rw [if_pos h] at hb'
      cases hb'
      subst h
      exact ⟨_, hb, rfl, Nat.le_refl _, rfl, fun g o c el fz _ h => ⟨c, el, fz, h, fun _ => rfl⟩⟩
    · rw [if_neg h] at hb'
      exact ⟨bk', hb', rfl, Nat.le_refl _, rfl, fun g o c el fz _ h => ⟨c, el, fz, h, fun _ => rfl⟩⟩
  have hlive : ∀ b', (⟨st.fr, (b, some (.row e rows false)) :: st.H⟩ : St).h b' ≠ none → st.h b' ≠ none := by
    intro b' h1
    rw [hh] at h1
    by_cases h : b' = b
    · rw [h, hb]; simp
    · rwa [if_neg h] at h1
  refine ⟨cx', hA, rfl, hr.defers, hr.size, fun s' => ?_, fun b' bk hb' => ?_, fun b1 b2 g o g' o' h1 h2 h3 h4 hne => ?_, fun b1 g o h1 h2 => ?_, fun g hg => ?_, fun g hg => hA g (hr.A0 g hg), hr.kept, hr.sz, hr.os, hr.tape, hr.output, hr.hN, hr.pin⟩
  · exact RT.tr (cx := cx) hA hk (fun b' _ => hcmp b') (hr.fr s')
  · rw [hh] at hb'
    by_cases h : b' = b
    · rw [if_pos h] at hb'
      cases hb'
      subst h
      obtain ⟨h1, h2, h3⟩ := hr.bl b' _ hb
      refine ⟨h1, h2, ?_⟩
      revert h3
      show (match cx.ι b' with | none => _ | some (g, o) => _) → (match cx.ι b' with | none => _ | some (g, o) => _)
      cases hι : cx.ι b' with
      | none => exact fun h => h
      | some x =>
        obtain ⟨g, o⟩ := x
        rintro ⟨h3, c, el, fz, capR, h4, h5, h6, h7, h8, h9, h10⟩
        exact ⟨h3, c, el, fz, capR, h4, (fun h => by cases h), fun _ => .inr ⟨o, hι⟩, h7, h8, h9, fun i r k p hi hk' => let ⟨cv, hc, hp⟩ := h10 i r k p hi hk'; ⟨cv, hc, hp.mono hA (Nat.le_refl _) (fun _ _ _ => rfl)⟩⟩
    · rw [if_neg h] at hb'
      refine RB.tr (cx := cx) hA hk (fun b2 _ => hcmp b2) rfl (fun g o hg => ⟨rfl, fun hn hA' => ?_⟩) (hr.bl b' bk hb')
      rcases hA' with hA' | ⟨q, hq⟩
      · exact hn hA'
      · exact hr.inj b' b g o g q (by rw [hb']; simp) (by rw [hb]; simp) hg hq h rfl
  · exact hr.inj b1 b2 g o g' o' (hlive b1 h1) (hlive b2 h2) h3 h4 hne
  · exact hr.own b1 g o (hlive b1 h1) h2
  · rcases hg with hg | ⟨q, hq⟩
    · exact hr.A g hg
    · obtain ⟨h1, h2⟩ := hr.own b g q (by rw [hb]; simp) hq
      exact ⟨h1, h2.elim (fun h => .inr (.inl h)) (fun h => .inr (.inr h))⟩
theorem QL.frz (b : Z9) {e : Nat} {rows : List (List PV)} {mu : Bool} (hb : (⟨fr, H⟩ : St).h b = some (.row e rows mu)) : QL ⟨fr, H⟩ ⟨fr, (b, some (.row e rows false)) :: H⟩ := fun E N cx a w hr =>
  let ⟨cx', _, _, h⟩ := hr.frz hb; ⟨cx', h⟩
inductive Ct (st : St) : CV → CV → Prop
  | k (c : CV) : Ct st c c
  | any (c : CV) : Ct st c .any
  | nil (e : Nat) : Ct st (.p (.v (.slice none 0 0))) (.p (.l e []))
  | nilo {b : Z9} {bk : Bk} (hb : st.h b = some bk) : Ct st (.p (.v (.slice none 0 0))) (.sl b 0 0)
  | n {b : Z9} {off n n' : Nat} (h : n = n') : Ct st (.sl b off n) (.sl b off n')
  | fr {b : Z9} {e off n : Nat} {rows rows' : List (List PV)} (hb : st.h b = some (.row e rows false)) (hr : (rows.drop off).take n = rows') : Ct st (.sl b off n) (.p (.l e rows'))
theorem LG {c c' : CV} {v : Value} (hr : V8 E N cx st a w) (h : Ct st c c') (hc : RC cx w st.h c v) : RC cx w st.h c' v := by
  cases h with
  | k => exact hc
  | any => trivial
  | nil e => cases hc with | v _ _ => exact Lu e
  | n h => subst h; exact hc
  | nilo hb =>
    cases hc with
    | v _ _ =>
      intro bk hbk
      exact ⟨none, 0, rfl, Nat.le_refl _, Nat.zero_le _, Nat.zero_le _, .inl rfl⟩
  | @fr b e off n rows rows' hb hr' =>
    have hA : ∀ b' ∈ [b], ∀ g q, cx.ι b' = some (g, q) → cx.A g := by
      intro b' hb' g q hg
      rw [List.mem_singleton.1 hb'] at hg
      obtain ⟨_, _, h3⟩ := hr.bl b _ hb
      rw [hg] at h3
      obtain ⟨_, c, el, fz, capR, _, _, h6, _⟩ := h3
      exact h6 rfl
    exact FE (x := .p (.l e rows')) (o := none) hr (.fr hb hr') hc (fun _ h => h) hA (fun b h => by cases h)
inductive IK (st : St) : List CV → List CV → Prop
  | nil : IK st [] []
  | cons {c c' : CV} {cs cs' : List CV} (h : Ct st c c') (hs : IK st cs cs') : IK st (c :: cs) (c' :: cs')
theorem IK.k (cs : List CV) : IK st cs cs := by
  induction cs with
  | nil => exact .nil
  | cons c cs ih => exact .cons (.k c) ih
theorem IK.at {cs cs' : List CV} (h : IK st cs cs') : cs'.length = cs.length ∧ ∀ (k : Nat) (c' : CV), cs'[k]? = some c' → ∃ c, cs[k]? = some c ∧ Ct st c c' := by
  induction h with
  | nil => exact ⟨rfl, fun k c' h => by simp at h⟩
  | cons h hs ih =>
    refine ⟨by simp [ih.1], fun k c' hk => ?_⟩
    cases k with
    | zero => rw [List.getElem?_cons_zero] at hk; cases hk; exact ⟨_, rfl, h⟩
    | succ k => rw [List.getElem?_cons_succ] at hk; obtain ⟨c, h1, h2⟩ := ih.2 k c' hk; exact ⟨c, by rw [List.getElem?_cons_succ]; exact h1, h2⟩
theorem N2 {cs cs' : List CV} {vs : Array Value} (hr : V8 E N cx st a w) (h : IK st cs cs') (hc : RL cx w st.h cs vs) : RL cx w st.h cs' vs := by
  obtain ⟨h1, h2⟩ := h.at
  refine ⟨by rw [h1]; exact hc.1, fun i c hi => ?_⟩
  obtain ⟨c0, h3, h4⟩ := h2 i c hi
  obtain ⟨u, hu, h5, h6⟩ := hc.2 i c0 h3
  exact ⟨u, hu, h5, LG hr h4 h6⟩
theorem V8.re (hr : V8 E N cx st a w) {s : Nat} {t : TV} (ht : RT cx w st.h t (a.tmps.getD s undef)) : V8 E N cx ⟨(s, t) :: st.fr, st.H⟩ a w := by
  refine ⟨hr.defers, hr.size, fun s' => ?_, hr.bl, hr.inj, hr.own, hr.A, hr.A0, hr.kept, hr.sz, hr.os, hr.tape, hr.output, hr.hN, hr.pin⟩
  rw [N1]
  by_cases h : s' = s
  · rw [if_pos h, h]; exact ht
  · rw [if_neg h]; exact hr.fr s'
theorem QL.slot (s : Nat) {c c' : CV} (hs : (⟨fr, H⟩ : St).g s = .c c) (hc : Ct ⟨fr, H⟩ c c') : QL ⟨fr, H⟩ ⟨(s, .c c') :: fr, H⟩ := by
  intro E N cx a w hr
  refine ⟨cx, hr.re ?_⟩
  have := hr.fr s
  rw [hs] at this
  refine ⟨?_, LG hr hc this.2⟩
  rcases this.1 with h | h
  · subst h; cases hc <;> exact .inl rfl
  · exact .inr h
theorem QL.cells (b : Z9) {cs cs' : List CV} (hb : (⟨fr, H⟩ : St).h b = some (.box cs)) (hc : IK ⟨fr, H⟩ cs cs') : QL ⟨fr, H⟩ ⟨fr, (b, some (.box cs')) :: H⟩ := by
  intro E N cx a w hr
  have hh := DN b (x := some (.box cs')) (fr := fr) (H := H)
  obtain ⟨hl, hat⟩ := hc.at
  have hcmp : ∀ b', Ix cx w (⟨fr, H⟩ : St).h cx w (⟨fr, (b, some (.box cs')) :: H⟩ : St).h b' := by
    intro b' bk' hb'
    rw [hh] at hb'
    by_cases h : b' = b
    · rw [if_pos h] at hb'
      cases hb'
      subst h
      exact ⟨_, hb, rfl, Nat.le_refl _, rfl, fun g o c el fz _ h => ⟨c, el, fz, h, fun _ => rfl⟩⟩
    · rw [if_neg h] at hb'
      exact ⟨bk', hb', rfl, Nat.le_refl _, rfl, fun g o c el fz _ h => ⟨c, el, fz, h, fun _ => rfl⟩⟩
  have hk : JS cx.A w w := JS.refl _ _
  have hlive : ∀ b', (⟨fr, (b, some (.box cs')) :: H⟩ : St).h b' ≠ none → (⟨fr, H⟩ : St).h b' ≠ none := by
    intro b' h1
    rw [hh] at h1
    by_cases h : b' = b
    · rw [h, hb]; simp
    · rwa [if_neg h] at h1
  refine ⟨cx, hr.defers, hr.size, fun s' => ?_, fun b' bk hb' => ?_, fun b1 b2 g o g' o' h1 h2 h3 h4 hne => ?_, fun b1 g o h1 h2 => ?_, hr.A, hr.A0, hr.kept, hr.sz, hr.os, hr.tape, hr.output, hr.hN, hr.pin⟩
  · exact RT.tr (cx := cx) (fun _ h => h) hk (fun b' _ => hcmp b') (hr.fr s')
  · rw [hh] at hb'
    by_cases h : b' = b
    · rw [if_pos h] at hb'
      cases hb'
      subst h
      obtain ⟨g, o, c, el, h1, h2, h3, h4, h5⟩ := hr.bl b' _ hb
      refine ⟨g, o, c, el, h1, h2, h3, by rw [hl]; exact h4, fun k x hx => ?_⟩
      obtain ⟨x0, h6, h7⟩ := hat k x hx
      obtain ⟨cv, h8, h9, h10⟩ := h5 k x0 h6
      exact ⟨cv, h8, h9, RC.tr (cx := cx) (fun _ h => h) hk (fun b' _ => hcmp b') (LG hr h7 h10)⟩
    · rw [if_neg h] at hb'
      exact RB.tr (cx := cx) (fun _ h => h) hk (fun b2 _ => hcmp b2) rfl (fun g o _ => ⟨rfl, fun h => h⟩) (hr.bl b' bk hb')
  · exact hr.inj b1 b2 g o g' o' (hlive b1 h1) (hlive b2 h2) h3 h4 hne
  · exact hr.own b1 g o (hlive b1 h1) h2
theorem Bs {ops : Array Oper} {o : Oper} {rb al : List Z9} {t : TV} {bl : List (Z9 × Option Bk)} {b : Z9} {e : Nat} {rows : List (List PV)} {mu : Bool} (hb : (⟨fr, H⟩ : St).h b = some (.row e rows mu)) (hal : Gg al [b] = true)
    (h : KF E N P ops o ⟨fr, (b, some (.row e rows false)) :: H⟩ ⟨rb, al⟩ ⟨t, bl⟩) : KF E N P ops o ⟨fr, H⟩ ⟨b :: rb, al⟩ ⟨t, bl ++ [(b, some (.row e rows false))]⟩ := by
  intro st' ha hf hd cx a w Q hr
  have hb' : st'.h b = some (.row e rows mu) := by rw [ha.2 b (by simp)]; exact hb
  obtain ⟨cx', hA, hι, hr'⟩ := hr.frz hb'
  have hh := DN b (x := some (.row e rows false)) (fr := st'.fr) (H := st'.H)
  refine Oper.wp_mono (fun a' w' ⟨cx2, h2⟩ => ⟨cx2, ?_⟩) (h ⟨st'.fr, (b, some (.row e rows false)) :: st'.H⟩ ⟨ha.1, fun b' hb2 => ?_⟩ (fun b' hb2 => ?_) hd cx' a w Q hr')
  · rw [hh, DN]
    by_cases hbb : b' = b
    · rw [if_pos hbb, if_pos hbb]
    · rw [if_neg hbb, if_neg hbb]; exact ha.2 b' (List.mem_cons_of_mem _ hb2)
  · obtain ⟨h1, h2, h3⟩ := hf b' hb2
    have hne : b' ≠ b := by have := XW hal b' hb2; simpa using this
    refine ⟨by rw [hh, if_neg hne]; exact h1, h2, fun b2 bk hbk => ?_⟩
    rw [hh] at hbk
    by_cases h4 : b2 = b
    · rw [if_pos h4] at hbk; cases hbk; simp [Bk.ment]
    · rw [if_neg h4] at hbk; exact h3 b2 bk hbk
  · have e1 : (Ef.ap ⟨t, bl ++ [(b, some (.row e rows false))]⟩ o st') = Ef.ap ⟨t, bl⟩ o ⟨st'.fr, (b, some (.row e rows false)) :: st'.H⟩ := by
      unfold Ef.ap; simp
    rw [e1]; exact h2
end
def eI (k : IntKind) (n : Int) : List PV := [.v (.int k n)]
def eS (s : ByteArray) : List PV := [.v (.string s)]
def bx (s : ByteArray) (n v : Int) : Prop := 0 ≤ n ∧ ∃ b : UInt8, s[n.toNat]? = some b ∧ v = (b.toNat : Int)
def bOr (k : IntKind) (a b : Int) : Int := k.wrap (BitVec.ofInt k.bits a ||| BitVec.ofInt k.bits b).toNat
def Z0 (k : IntKind) (a b : Int) : Int := k.wrap (BitVec.ofInt k.bits a &&& BitVec.ofInt k.bits b).toNat
def YH (k : IntKind) (a b : Int) : Int := k.wrap (BitVec.ofInt k.bits a ^^^ BitVec.ofInt k.bits b).toNat
def XR (k : IntKind) (a b : Int) : Int := k.wrap (a * 2 ^ (min b.toNat k.bits))
def QN (k : IntKind) (a b : Int) : Int := a.fdiv (2 ^ (min b.toNat k.bits))
def Va (a b : Int) : Int := if b < a then b else a
def K7 (a b : Int) : Int := if b > a then b else a
def eqV : Value → Value → Bool
  | .int _ a, .int _ b => a == b
  | .bool a, .bool b => a == b
  | .string a, .string b => a.toList == b.toList
  | _, _ => false
def HJ : List Value → List Value → Bool
  | [], [] => true
  | a :: l, b :: m => eqV a b && HJ l m
  | _, _ => false
section
variable {α : Type} {f : α → List PV} {L L' : List α} {E : En} {N : Nat} {P : Program} {T : Tb P} {ops : Array Oper} {o : Oper} {st : St} {d : Nat} {ty : Nat} {pos : String} {af : Array Edge} {gd : Option (Nat × Bool)} {cx : Cx} {a : Act} {w w' : World}
theorem tn {n : Int} (h : 0 ≤ n) : n = (n.toNat : Int) := (Int.toNat_of_nonneg h).symm
theorem Ie {x y : Operand} {t el e : Nat} {k : IntKind} {n : Int} {v : α} {tt te : TE} (hv : ix L n v) (h1 : st.ev x = .c (.p (.l e (L.map f)))) (h2 : st.ev y = .c (.p (.v (.int k n)))) (ht : ZZ T.ty t = some tt) (hk : tt.kd = .slice el) (hel : ZZ T.ty el = some te) (he : te.size = e) (hx : Zw x = true) (hy : Zw y = true) :
    KF E N P ops ⟨some d, .indexAddr t x y, ty, pos, af, gd⟩ st ⟨[], []⟩ ⟨.c (.ep (f v) 0), []⟩ := Gl h1 h2 (tn hv.1) (gm hv.2) ht hk hel he hx hy
theorem GE {x y : Operand} {t el e m : Nat} {b : Z9} {mu : Bool} {k : IntKind} {n : Int} {v : α} {tt te : TE} (hv : ix L n v) (h1 : st.ev x = .c (.sl b 0 m)) (hb : st.h b = some (.row e (L.map f) mu)) (hm : (L.map f).length = m) (h2 : st.ev y = .c (.p (.v (.int k n)))) (ht : ZZ T.ty t = some tt) (hk : tt.kd = .slice el) (hel : ZZ T.ty el = some te) (he : te.size = e) (hx : Zw x = true) (hy : Zw y = true) :
    KF E N P ops ⟨some d, .indexAddr t x y, ty, pos, af, gd⟩ st ⟨[b], []⟩ ⟨.c (.ptr b n.toNat 0), []⟩ :=
  Fz h1 hb h2 (tn hv.1) (by rw [← hm, List.length_map]; exact (List.getElem?_eq_some_iff.1 hv.2).1) ht hk hel he (Nat.zero_add _) hx hy
theorem CF {x y : Operand} {t : Nat} {s : ByteArray} {k : IntKind} {n v : Int} {tt : TE} (hv : bx s n v) (h1 : st.ev x = .c (.p (.v (.string s)))) (h2 : st.ev y = .c (.p (.v (.int k n)))) (ht : ZZ T.ty t = some tt) (hk : tt.kd = .string) (hx : Zw x = true) (hy : Zw y = true) :
    KF E N P ops ⟨some d, .index t x y, ty, pos, af, gd⟩ st ⟨[], []⟩ ⟨.c (.p (.v (.int .u8 v))), []⟩ := by
  obtain ⟨h0, b, hb, rfl⟩ := hv
  exact Et h1 h2 (tn h0) hb ht hk hx hy
theorem If {x : Operand} {t e : TypeId} {tt : TE} {k : Nat} (h1 : st.ev x = .c (.p (.l k (L.map f)))) (ht : ZZ T.ty t = some tt) (hk : tt.kd = .slice e) (hx : Zw x = true) :
    KF E N P ops ⟨some d, .call { callee := .builtin .len, args := #[x], argTypes := #[t] }, ty, pos, af, gd⟩ st ⟨[], []⟩ ⟨.c (.p (.v (.int .i64 (L.length : Int)))), []⟩ := by
  have := Iz (E := E) (N := N) (ops := ops) (d := d) (ty := ty) (pos := pos) (af := af) (gd := gd) h1 ht hk hx
  rwa [List.length_map] at this
theorem GF {x : Operand} {t e e' : TypeId} {tt : TE} {b : Z9} {m : Nat} {mu : Bool} (h1 : st.ev x = .c (.sl b 0 m)) (hb : st.h b = some (.row e' (L.map f) mu)) (hm : (L.map f).length = m) (ht : ZZ T.ty t = some tt) (hk : tt.kd = .slice e) (hx : Zw x = true) :
    KF E N P ops ⟨some d, .call { callee := .builtin .len, args := #[x], argTypes := #[t] }, ty, pos, af, gd⟩ st ⟨[b], []⟩ ⟨.c (.p (.v (.int .i64 (L.length : Int)))), []⟩ := by
  have := Ht (E := E) (N := N) (ops := ops) (d := d) (ty := ty) (pos := pos) (af := af) (gd := gd) h1 (by rw [hb]; rfl) ht hk hx
  rwa [← hm, List.length_map] at this
theorem GG {xt yt : TypeId} {x y : Operand} {k k' : IntKind} {a b : Int} (hb : 0 ≤ b) (h1 : st.ev x = .c (.p (.v (.int k a)))) (h2 : st.ev y = .c (.p (.v (.int k' b)))) (hx : Zw x = true) (hy : Zw y = true) :
    KF E N P ops ⟨some d, .binOp .shl xt x y yt, ty, pos, af, gd⟩ st ⟨[], []⟩ ⟨.c (.p (.v (.int k (XR k a b)))), []⟩ := Mf h1 h2 hb rfl hx hy
theorem Zh {xt yt : TypeId} {x y : Operand} {k k' : IntKind} {a b : Int} (hb : 0 ≤ b) (h1 : st.ev x = .c (.p (.v (.int k a)))) (h2 : st.ev y = .c (.p (.v (.int k' b)))) (hx : Zw x = true) (hy : Zw y = true) :
    KF E N P ops ⟨some d, .binOp .shr xt x y yt, ty, pos, af, gd⟩ st ⟨[], []⟩ ⟨.c (.p (.v (.int k (QN k a b)))), []⟩ := Mg h1 h2 hb rfl hx hy
theorem DO {xt yt : TypeId} {x y : Operand} {k : IntKind} {a b : Int} (hb : b ≠ 0) (h1 : st.ev x = .c (.p (.v (.int k a)))) (h2 : st.ev y = .c (.p (.v (.int k b)))) (hx : Zw x = true) (hy : Zw y = true) :
    KF E N P ops ⟨some d, .binOp .quo xt x y yt, ty, pos, af, gd⟩ st ⟨[], []⟩ ⟨.c (.p (.v (.int k (k.wrap (a.tdiv b))))), []⟩ := QV h1 h2 (by simp [Dv, hb]) hx hy
theorem Xw {xt yt : TypeId} {x y : Operand} {k : IntKind} {a b : Int} (hb : b ≠ 0) (h1 : st.ev x = .c (.p (.v (.int k a)))) (h2 : st.ev y = .c (.p (.v (.int k b)))) (hx : Zw x = true) (hy : Zw y = true) :
    KF E N P ops ⟨some d, .binOp .rem xt x y yt, ty, pos, af, gd⟩ st ⟨[], []⟩ ⟨.c (.p (.v (.int k (a.tmod b)))), []⟩ := QV h1 h2 (by simp [Dv, hb]) hx hy
theorem Mv {lo hi : Nat} : ((L.map f).take hi).drop lo = ((L.take hi).drop lo).map f := by simp
theorem Fo {x : Operand} {y z : Option Operand} {t el e lo hi : Nat} {tt te : TE} (h1 : st.ev x = .c (.p (.l e (L.map f)))) (hlo : Bd st y 0 lo) (hhi : Bd st z L.length hi) (hlh : lo ≤ hi) (hhl : hi ≤ L.length) (ht : ZZ T.ty t = some tt) (hk : tt.kd = .slice el) (hel : ZZ T.ty el = some te) (he : te.size = e) (hx : Zw x = true) :
    KF E N P ops ⟨some d, .slice t x y z none, ty, pos, af, gd⟩ st ⟨[], []⟩ ⟨.c (.p (.l e (((L.take hi).drop lo).map f))), []⟩ := by
  have := Gm (E := E) (N := N) (ops := ops) (d := d) (ty := ty) (pos := pos) (af := af) (gd := gd) (T := T) (lo := lo) (hi := hi) h1 hlo (by rw [List.length_map]; exact hhi) hlh (by rw [List.length_map]; exact hhl) ht hk hel he hx
  rwa [Mv] at this
theorem Dk {n : Nat} : Bd st none n n := rfl
theorem Dl {x : Operand} {k : IntKind} {z : Int} {m : Nat} (h0 : 0 ≤ z) (h : st.ev x = .c (.p (.v (.int k z)))) (hc : Zw x = true) : Bd st (some x) m z.toNat := ⟨hc, k, z, h, tn h0⟩
theorem DR {x y : Operand} {t el e : Nat} {k : IntKind} {p : Int} {tt te : TE} (hp : 0 ≤ p ∧ p ≤ L.length) (h1 : st.ev x = .c (.p (.l e (L.map f)))) (h2 : st.ev y = .c (.p (.v (.int k p)))) (ht : ZZ T.ty t = some tt) (hk : tt.kd = .slice el) (hel : ZZ T.ty el = some te) (he : te.size = e) (hx : Zw x = true) (hy : Zw y = true) :
    KF E N P ops ⟨some d, .slice t x (some y) none none, ty, pos, af, gd⟩ st ⟨[], []⟩ ⟨.c (.p (.l e ((L.drop p.toNat).map f))), []⟩ := by
  have := Fo (E := E) (N := N) (ops := ops) (d := d) (ty := ty) (pos := pos) (af := af) (gd := gd) (T := T) h1 (Dl hp.1 h2 hy) Dk (by have := hp.2; omega) (Nat.le_refl _) ht hk hel he hx
  rwa [List.take_length] at this
theorem DT {x z : Operand} {t el e : Nat} {k : IntKind} {q : Int} {tt te : TE} (hp : 0 ≤ q ∧ q ≤ L.length) (h1 : st.ev x = .c (.p (.l e (L.map f)))) (h2 : st.ev z = .c (.p (.v (.int k q)))) (ht : ZZ T.ty t = some tt) (hk : tt.kd = .slice el) (hel : ZZ T.ty el = some te) (he : te.size = e) (hx : Zw x = true) (hy : Zw z = true) :
    KF E N P ops ⟨some d, .slice t x none (some z) none, ty, pos, af, gd⟩ st ⟨[], []⟩ ⟨.c (.p (.l e ((L.take q.toNat).map f))), []⟩ := by
  have := Fo (E := E) (N := N) (ops := ops) (d := d) (ty := ty) (pos := pos) (af := af) (gd := gd) (T := T) h1 Dk (Dl hp.1 h2 hy) (Nat.zero_le _) (by have := hp.2; omega) ht hk hel he hx
  simpa using this
theorem Ig {x y : Operand} {t el e off m : Nat} {b : Z9} {mu : Bool} {rows : List (List PV)} {k : IntKind} {p : Int} {tt te : TE} (hp : 0 ≤ p ∧ p ≤ m) (h1 : st.ev x = .c (.sl b off m)) (hb : st.h b = some (.row e rows mu)) (h2 : st.ev y = .c (.p (.v (.int k p)))) (ht : ZZ T.ty t = some tt) (hk : tt.kd = .slice el) (hel : ZZ T.ty el = some te) (he : te.size = e) (hx : Zw x = true) (hy : Zw y = true) :
    KF E N P ops ⟨some d, .slice t x (some y) none none, ty, pos, af, gd⟩ st ⟨[b], []⟩ ⟨.c (.sl b (off + p.toNat) (m - p.toNat)), []⟩ := Bn h1 hb (Dl hp.1 h2 hy) Dk (by have := hp.2; omega) (Nat.le_refl _) ht hk hel he rfl rfl hx
theorem Ih {x z : Operand} {t el e off m : Nat} {b : Z9} {mu : Bool} {rows : List (List PV)} {k : IntKind} {q : Int} {tt te : TE} (hp : 0 ≤ q ∧ q ≤ m) (h1 : st.ev x = .c (.sl b off m)) (hb : st.h b = some (.row e rows mu)) (h2 : st.ev z = .c (.p (.v (.int k q)))) (ht : ZZ T.ty t = some tt) (hk : tt.kd = .slice el) (hel : ZZ T.ty el = some te) (he : te.size = e) (hx : Zw x = true) (hy : Zw z = true) :
    KF E N P ops ⟨some d, .slice t x none (some z) none, ty, pos, af, gd⟩ st ⟨[b], []⟩ ⟨.c (.sl b off q.toNat), []⟩ := Bn h1 hb Dk (Dl hp.1 h2 hy) (Nat.zero_le _) (by have := hp.2; omega) ht hk hel he (Nat.add_zero _) (Nat.sub_zero _) hx
def LH (E : En) (N : Nat) (P : Program) (ops : Array Oper) (o : Oper) (st : St) (rb : List Z9) (tx : TypeId) (e : Nat) (y : Operand) (f : α → List PV) (L : List α) : Prop := IA E N P ops o st rb tx e y (L.map f)
theorem LI {y : Operand} {tx e' : TypeId} {e : Nat} {tt : TE} (hm : y ∈ o.op.operands.toList) (hy : Zw y = true) (h1 : st.ev y = .c (.p (.l e (L.map f)))) (he : Nat.blt 0 e = true) (ht : ZZ T.ty tx = some tt) (hk : tt.kd = .slice e') : LH E N P ops o st [] tx e y f L := MW hm hy h1 (Nat.le_of_ble_eq_true he) ht hk
theorem Ii {y : Operand} {tx e' : TypeId} {e m : Nat} {b : Z9} {tt : TE} {mu : Bool} (hm : y ∈ o.op.operands.toList) (hy : Zw y = true) (h1 : st.ev y = .c (.sl b 0 m)) (hb : st.h b = some (.row e (L.map f) mu)) (hl : (L.map f).length = m) (ht : ZZ T.ty tx = some tt) (hk : tt.kd = .slice e') : LH E N P ops o st [b] tx e y f L := by
  have := Mj (E := E) (N := N) (P := P) (ops := ops) hm hy h1 hb ht hk
  rw [List.drop_zero, ← hl, List.take_length] at this
  exact this
theorem GH {y : Operand} {tx : TypeId} {tt : TE} {s : ByteArray} (hm : y ∈ o.op.operands.toList) (hy : Zw y = true) (h1 : st.ev y = .c (.p (.v (.string s)))) (ht : ZZ T.ty tx = some tt) (hk : tt.kd = .string) : LH E N P ops o st [] tx 1 y (eI .u8) (sI s) := Lr hm hy h1 ht hk
theorem Fq {x y : Operand} {t tx el : TypeId} {te tt : TE} {e by' : Nat} {rb : List Z9} (hb : L.length * by' ≤ 140737488355328) (hx : st.ev x = .c (.p (.v (.slice none 0 0)))) (hcx : Zw x = true) (ht : ZZ T.ty t = some tt) (hk : tt.kd = .slice el) (hel : ZZ T.ty el = some te) (hes : te.size = e) (hbt : te.bytes = by') (hpos : Nat.blt 0 by' = true) (he : Nat.blt 0 e = true) (hz : te.zero.cells.size = e)
    (hsrc : LH E N P ops ⟨some d, .call { callee := .builtin .append, args := #[x, y], argTypes := #[t, tx] }, ty, pos, af, gd⟩ st rb tx e y f L) :
    KF E N P ops ⟨some d, .call { callee := .builtin .append, args := #[x, y], argTypes := #[t, tx] }, ty, pos, af, gd⟩ st ⟨rb, [(d, 0)]⟩ ⟨.c (.sl (d, 0) 0 (L.map f).length), [((d, 0), some (.row e (L.map f) true))]⟩ :=
  Gr hx hcx ht hk hel hes (Nat.le_of_ble_eq_true he) hz hsrc (by rw [List.length_map]; exact Nat.le_trans (Nat.le_mul_of_pos_right _ (Nat.le_of_ble_eq_true hpos)) hb) (by rw [List.length_map, hbt]; exact hb)
theorem GI {x y : Operand} {t tx el : TypeId} {te tt : TE} {e m by' : Nat} {b : Z9} {rb : List Z9} (hby : (L.length + L'.length) * by' ≤ 140737488355328) (hx : st.ev x = .c (.sl b 0 m)) (hcx : Zw x = true) (hb : st.h b = some (.row e (L.map f) true)) (hm : (L.map f).length = m) (ht : ZZ T.ty t = some tt) (hk : tt.kd = .slice el) (hel : ZZ T.ty el = some te) (hes : te.size = e) (hbt : te.bytes = by') (hpos : Nat.blt 0 by' = true) (hz : te.zero.cells.size = e)
    (hsrc : LH E N P ops ⟨some d, .call { callee := .builtin .append, args := #[x, y], argTypes := #[t, tx] }, ty, pos, af, gd⟩ st rb tx e y f L') :
    KF E N P ops ⟨some d, .call { callee := .builtin .append, args := #[x, y], argTypes := #[t, tx] }, ty, pos, af, gd⟩ st ⟨b :: rb, [(d, 0)]⟩ ⟨.c (.sl (d, 0) 0 ((L ++ L').map f).length), [((d, 0), some (.row e ((L ++ L').map f) true)), (b, none)]⟩ := by
  have hb2 : L.length + L'.length ≤ 140737488355328 := Nat.le_trans (Nat.le_mul_of_pos_right _ (Nat.le_of_ble_eq_true hpos)) hby
  exact HA hx hcx hb hm ht hk hel hes hz hsrc (List.map_append).symm (by rw [← hm]; simp) (by simpa using hb2) (by rw [hbt]; simpa using hby)
theorem CG {x : Operand} {s t e : TypeId} {ts te tt : TE} {b : Z9} {m : Nat} {mu : Bool} {l : List Int} (h1 : st.ev x = .c (.sl b 0 m)) (hb : st.h b = some (.row 1 (l.map (eI .u8)) mu)) (hm : (l.map (eI .u8)).length = m) (hs : ZZ T.ty s = some ts) (hsk : ts.kd = .slice e) (he : ZZ T.ty e = some te) (hek : te.kd = .int .u8) (ht : ZZ T.ty t = some tt) (htk : tt.kd = .string) (hx : Zw x = true) :
    KF E N P ops ⟨some d, .convert s t x, ty, pos, af, gd⟩ st ⟨[b], []⟩ ⟨.c (.p (.v (.string (strOfNums l)))), []⟩ := by
  have := Eu (E := E) (N := N) (ops := ops) (d := d) (ty := ty) (pos := pos) (af := af) (gd := gd) (T := T) h1 hb rfl hs hsk he hek ht htk hx
  rw [List.length_map] at hm
  rwa [List.drop_zero, ← hm, List.take_length] at this
theorem Ij {n : Nat} {x : α} : (L.map f).set n (f x) = (L.set n x).map f := by rw [List.map_set]
theorem US {n : Nat} {x y : α} (h : L[n]? = some y) : (L.set n x)[n]? = some x := by
  rw [List.getElem?_set, if_pos rfl, if_pos (List.getElem?_eq_some_iff.1 h).1]
theorem CH {x y : Operand} {t : TypeId} {te : TE} {b : Z9} {i k e : Nat} {x0 x1 : α} {ps : List PV} {v : TV} {dst : Option Nat} (hi : L[i]? = some x0) (hx : st.ev x = .c (.ptr b i k)) (hb : st.h b = some (.row e (L.map f) true)) (hv : st.ev y = v) (hk : v.known = true) (hps : pvs v.cells = some ps)
    (ht : ZZ T.ty t = some te) (hsz : ps.length = te.size) (hin : Nat.ble (k + ps.length) e = true) (hr' : setAt (f x0) k ps = f x1) (hcx : Zw x = true) (hcy : Zw y = true) :
    KF E N P ops ⟨dst, .store t x y, ty, pos, af, gd⟩ st ⟨[b], []⟩ ⟨.c .any, [(b, some (.row e ((L.set i x1).map f) true))]⟩ :=
  Ev hx hb (gm hi) hv hk (HH hps) ht hsz (Nat.le_of_ble_eq_true hin) hr' Ij hcx hcy
end
theorem Zd {α : Type} {l : List α} {n : Nat} (h : l.length = n) : (l.drop 0).take n = l := by subst h; simp
theorem N3 {α β : Type} {f : α → β} {l : List α} {i n : Nat} : ((l.map f).drop i).take n = ((l.drop i).take n).map f := by simp
theorem Ik {α β : Type} {f : α → β} {l : List α} {n : Nat} : ((l.map f).drop 0).take n = (l.take n).map f := by simp
theorem Zo {st : St} {g : Bool} {t : TV} {x : AV} {bs : List Z9} (hg : g = true) (h : ToA st t x bs) : ToA st (gt g t) x bs := by rw [Ql hg]; exact h
theorem QZ {a b : Bool} : (a && (b == true)) = (a && b) := by cases b <;> simp
theorem X0 {a b : Bool} : (a && (b == false)) = (a && !b) := by cases b <;> simp
theorem JY {a b : Bool} (h : a = true) : (b == true) = (a && b) := by subst h; cases b <;> rfl
theorem FK {a b : Bool} (h : a = true) : (b == false) = (a && !b) := by subst h; cases b <;> rfl
theorem QY {x y : Operand} {ats : Array TypeId} : y ∈ (Op.call { callee := .builtin .append, args := #[x, y], argTypes := ats }).operands.toList := by simp [Op.operands, Call.operands]
def eL {α : Type} (e : Nat) (f : α → List PV) (l : List α) : List PV := [.l e (l.map f)]
theorem MO {k : IntKind} (n : Int) : (eI k n).all M7 = true := rfl
theorem nl_eS (s : ByteArray) : (eS s).all M7 = true := rfl
theorem WH {α : Type} {f : α → List PV} (h : ∀ x, (f x).all M7 = true) {L : List α} : ∀ r ∈ L.map f, ∀ p ∈ r, M7 p = true := by
  intro r hr p hp
  obtain ⟨x, _, rfl⟩ := List.mem_map.1 hr
  exact List.all_eq_true.1 (h x) p hp
inductive N4 : RV → Prop
  | p {x : PV} (h : M7 x = true) : N4 (.p x)
  | o {e : Nat} {rows : List (List PV)} (h : ∀ r ∈ rows, ∀ p ∈ r, M7 p = true) : N4 (.own e rows)
inductive K5 : List RV → Prop
  | nil : K5 []
  | cons {x : RV} {l : List RV} (h : N4 x) (hs : K5 l) : K5 (x :: l)
theorem XZ {cs : List RV} (h : K5 cs) : NoLs cs := by
  induction h with
  | nil => exact fun x hx => by cases hx
  | cons h hs ih =>
    intro x hx
    rcases List.mem_cons.1 hx with rfl | hx
    · cases h with
      | p h => exact h
      | o h => exact h
    · exact ih x hx
section
variable {P : Program} {T : Tb P} {st : St} {k0 : Nat}
theorem Ew.p {x : PV} (h : st.g k0 = .c (.p x)) : Ew T st (.tmp k0) (.c (.p x)) := .tmpc h (by simp)
theorem Ew.s {b : Z9} {off n : Nat} (h : st.g k0 = .c (.sl b off n)) : Ew T st (.tmp k0) (.c (.sl b off n)) := .tmpc h (by simp)
end
section
variable {α : Type} {f : α → List PV} {L L' : List α} {E : En} {N : Nat} {P : Program} {T : Tb P} {ops : Array Oper} {o : Oper} {st : St} {d : Nat} {ty : Nat} {pos : String} {af : Array Edge} {gd : Option (Nat × Bool)} {cx : Cx} {a : Act} {w w' : World} {fr : List (Nat × TV)} {H : List (Z9 × Option Bk)}
theorem Q6 {f : FuncId} {xs : Array Operand} {tys : Array TypeId} {avs : List AV} {r : List RS} {t : TV} (hcon : Qq P f avs r []) (hn : avs.any AV.isRef = false) (hok : xs.toList.all Zw = true) (hargs : Ex st (xs.toList.map st.ev) avs []) (hids : (BX d 0 (ZD r)).map (·.1) = []) (hbl : BX d 0 (ZD r) ++ UW st [] = []) (ht : Lc d r = t) :
    KF E N P ops ⟨some d, .call { callee := .value (.func f), args := xs, argTypes := tys }, ty, pos, af, gd⟩ st ⟨[], []⟩ ⟨t, []⟩ := QP hcon hn hok hargs hids hbl ht
theorem LJ {xt yt : TypeId} {x y : Operand} {b c : Bool} {te : TE} (h1 : st.ev x = .c (.p (.v (.bool b)))) (h2 : st.ev y = .c (.p (.v (.bool c)))) (ht : ZZ T.ty xt = some te) (hk : te.kd = .bool) (hx : Zw x = true) (hy : Zw y = true) :
    KF E N P ops ⟨some d, .binOp .eql xt x y yt, ty, pos, af, gd⟩ st ⟨[], []⟩ ⟨.c (.p (.v (.bool (b == c)))), []⟩ :=
  Zi fun st' cx a' w ha hr => by
    obtain ⟨e1, w1⟩ := Bb h1 hx ha (by simp [Op.operands]) hr
    obtain ⟨e2, w2⟩ := Bb h2 hy ha (by simp [Op.operands]) hr
    obtain ⟨dd, i, g1, g2, g3, g4, g5, g6⟩ := JX (T.ok _ _ ht)
    have hu : P.underlying xt = some .bool := by rw [g1]; rw [hk] at g3; cases dd <;> simp_all [Du]
    refine ⟨.bool (b == c), ?_, .inr rfl, .v _ rfl⟩
    simp only [execOp, e1, e2, Sem.run_bind, Um, Result.andThen_ok, binOp, Op.equal, Op.maxDepth, run_equalIn_bool' w _ _ _ _ hu, Sem.run_pure]
theorem LK {xt yt : TypeId} {x y : Operand} {b c : Bool} {te : TE} (h1 : st.ev x = .c (.p (.v (.bool b)))) (h2 : st.ev y = .c (.p (.v (.bool c)))) (ht : ZZ T.ty xt = some te) (hk : te.kd = .bool) (hx : Zw x = true) (hy : Zw y = true) :
    KF E N P ops ⟨some d, .binOp .neq xt x y yt, ty, pos, af, gd⟩ st ⟨[], []⟩ ⟨.c (.p (.v (.bool (!(b == c))))), []⟩ :=
  Zi fun st' cx a' w ha hr => by
    obtain ⟨e1, w1⟩ := Bb h1 hx ha (by simp [Op.operands]) hr
    obtain ⟨e2, w2⟩ := Bb h2 hy ha (by simp [Op.operands]) hr
    obtain ⟨dd, i, g1, g2, g3, g4, g5, g6⟩ := JX (T.ok _ _ ht)
    have hu : P.underlying xt = some .bool := by rw [g1]; rw [hk] at g3; cases dd <;> simp_all [Du]
    refine ⟨.bool (!(b == c)), ?_, .inr rfl, .v _ rfl⟩
    simp only [execOp, e1, e2, Sem.run_bind, Um, Result.andThen_ok, binOp, Op.equal, Op.maxDepth, run_equalIn_bool' w _ _ _ _ hu, Sem.run_pure]
def AD (P : Program) : Nat → List Field → List Value → List Value → Bool
  | _, [], [], [] => true
  | i, f :: fs, x :: xs, y :: ys => f.name != "_" && Nat.beq f.offset i && (match P.underlying f.type, x, y with
    | some (.int _), .int k _, .int k' _ => decide (k = k')
    | some .bool, .bool _, .bool _ => true
    | some .string, .string _, .string _ => true
    | _, _, _ => false) && AD P (i + 1) fs xs ys
  | _, _, _, _ => false
def Il (P : Program) (t : TypeId) (xs ys : List Value) : Bool := match P.underlying t with
  | some (.struct fs) => AD P 0 fs.toList xs ys && !P.stoodInHeld t && !P.eqGuardType P.depth t
  | _ => false
def HK : TypeDesc → Bool
  | .int _ | .bool | .string => true
  | _ => false
theorem Fs {e : TypeId} {dsc : TypeDesc} (hu : P.underlying e = some dsc) (ha : HK dsc = true) {xs : Array Value} {i : Nat} {v : Value} (hx : xs[i]? = some v) : (part e xs i).run P w = .ok v w := by
  cases dsc <;> simp [HK] at ha <;> simp [part, isAgg, run_underlying hu, hx]
theorem FL {xs ys : Array Value} : ∀ (fs : List Field) (i : Nat) (us vs : List Value), AD P i fs us vs = true → xs.toList.drop i = us → ys.toList.drop i = vs → (Op.eqFields 9999 xs ys fs).run P w = .ok (HJ us vs) w := by
  intro fs
  induction fs with
  | nil =>
    intro i us vs h h1 h2
    cases us <;> cases vs <;> simp [AD] at h
    simp [Op.eqFields, HJ, Sem.run_pure]
  | cons f fs ih =>
    intro i us vs h h1 h2
    cases us with
    | nil => simp [AD] at h
    | cons u us =>
      cases vs with
      | nil => simp [AD] at h
      | cons v vs =>
        simp only [AD, Bool.and_eq_true] at h
        obtain ⟨⟨⟨hn, hi⟩, hk⟩, hr⟩ := h
        have hi := Nat.eq_of_beq_eq_true hi
        have hu : xs[i]? = some u := by have := congrArg (·[0]?) h1; simpa [List.getElem?_drop] using this
        have hv : ys[i]? = some v := by have := congrArg (·[0]?) h2; simpa [List.getElem?_drop] using this
        have h1' : xs.toList.drop (i + 1) = us := by rw [← List.drop_drop, h1]; rfl
        have h2' : ys.toList.drop (i + 1) = vs := by rw [← List.drop_drop, h2]; rfl
        have hih := ih (i + 1) us vs hr h1' h2'
        have hne : f.name ≠ "_" := by simpa using hn
        have key : ∃ dsc, P.underlying f.type = some dsc ∧ HK dsc = true ∧ (Op.equalIn 9999 f.type u v).run P w = .ok (eqV u v) w := by
          split at hk
          · rename_i k0 k a k' b hd
            have := of_decide_eq_true hk; subst this
            exact ⟨_, hd, rfl, run_equalIn_int w 9998 _ _ _ _ _ hd⟩
          · rename_i a b hd
            exact ⟨_, hd, rfl, run_equalIn_bool' w 9998 _ _ _ hd⟩
          · rename_i a b hd
            exact ⟨_, hd, rfl, run_equalIn_string w 9998 _ _ _ hd⟩
          · cases hk
        obtain ⟨dsc, hd, ha, he⟩ := key
        simp only [Op.eqFields, if_pos hne, Sem.run_bind, hi, Fs hd ha hu, Fs hd ha hv, Result.andThen_ok, he, HJ]
        cases heq : eqV u v
        · simp [Sem.run_pure]
        · simp [hih]
theorem Im {t : TypeId} {us vs : List Value} (h : Il P t us vs = true) : (Op.equalIn 10000 t (.agg us.toArray) (.agg vs.toArray)).run P w = .ok (HJ us vs) w ∧ P.eqGuardType P.depth t = false := by
  unfold Il at h
  split at h
  · rename_i fs hu
    simp only [Bool.and_eq_true, Bool.not_eq_true'] at h
    obtain ⟨⟨h1, h2⟩, h3⟩ := h
    have hfo : P.fieldsOf t = fs := by unfold Program.fieldsOf; rw [hu]
    refine ⟨?_, h3⟩
    rw [run_equalIn_struct w 9999 t _ _ (by rw [hfo]; exact hu) h2, hfo]
    exact FL fs.toList 0 us vs h1 rfl rfl
  · cases h
theorem Bt {st' : St} {x : Operand} {us : List Value} {f : Fp} (hx : st.ev x = .agg (us.map fun v => .p (.v v))) (hc : Zw x = true) (ha : Agree ops o f st st') (hm : x ∈ o.op.operands.toList) (hr : V8 E N cx st' a w) : a.eval x = .agg us.toArray := by
  have := hr.ev hc
  rw [KI ha hm, hx] at this
  obtain ⟨vs, h1, h2, h3⟩ := this
  rw [h1]
  have key : vs = us.toArray := by
    apply Array.ext_getElem?
    intro i
    cases hu : us[i]? with
    | none =>
      have h4 : us.length ≤ i := by simpa using hu
      rw [Array.getElem?_eq_none (by rw [h2]; simpa using h4), List.getElem?_toArray, hu]
    | some u =>
      obtain ⟨v, h5, h6, h7⟩ := h3 i (.p (.v u)) (by rw [List.getElem?_map, hu]; rfl)
      rw [h5, List.getElem?_toArray, hu]
      cases h7 with | v _ _ => rfl
  rw [key]
theorem LL {xt yt : TypeId} {x y : Operand} {us vs : List Value} {c : Bool} {cx1 cy1 : List CV} (h1 : st.ev x = .agg cx1) (h2 : st.ev y = .agg cy1) (hf : Il P xt us vs = true) (he : HJ us vs = c) (hcx : cx1 = us.map fun v => .p (.v v)) (hcy : cy1 = vs.map fun v => .p (.v v)) (hx : Zw x = true) (hy : Zw y = true) (htr : true = true) :
    KF E N P ops ⟨some d, .binOp .eql xt x y yt, ty, pos, af, gd⟩ st ⟨[], []⟩ ⟨.c (.p (.v (.bool c))), []⟩ :=
  Zi fun st' cx a' w ha hr => by
    subst hcx hcy he
    have e1 := Bt h1 hx ha (by simp [Op.operands]) hr
    have e2 := Bt h2 hy ha (by simp [Op.operands]) hr
    obtain ⟨h3, h4⟩ := Im (w := w) hf
    refine ⟨_, ?_, .inr rfl, .v _ rfl⟩
    simp only [execOp, e1, e2, Sem.run_bind, run_eqGuard_agg w _ _ _ _ _ _ h4, Result.andThen_ok, run_eql_struct, h3, Sem.run_pure]
theorem FM {xt yt : TypeId} {x y : Operand} {us vs : List Value} {c : Bool} {cx1 cy1 : List CV} (h1 : st.ev x = .agg cx1) (h2 : st.ev y = .agg cy1) (hf : Il P xt us vs = true) (he : (!HJ us vs) = c) (hcx : cx1 = us.map fun v => .p (.v v)) (hcy : cy1 = vs.map fun v => .p (.v v)) (hx : Zw x = true) (hy : Zw y = true) (htr : true = true) :
    KF E N P ops ⟨some d, .binOp .neq xt x y yt, ty, pos, af, gd⟩ st ⟨[], []⟩ ⟨.c (.p (.v (.bool c))), []⟩ :=
  Zi fun st' cx a' w ha hr => by
    subst hcx hcy he
    have e1 := Bt h1 hx ha (by simp [Op.operands]) hr
    have e2 := Bt h2 hy ha (by simp [Op.operands]) hr
    obtain ⟨h3, h4⟩ := Im (w := w) hf
    refine ⟨_, ?_, .inr rfl, .v _ rfl⟩
    simp only [execOp, e1, e2, Sem.run_bind, run_eqGuard_agg w _ _ _ _ _ _ h4, Result.andThen_ok, run_neq_struct, h3, Sem.run_pure]
end
inductive Cr (st : St) : CV → PV → Prop
  | k (x : PV) : Cr st (.p x) x
  | nil (e : Nat) : Cr st (.p (.v (.slice none 0 0))) (.l e [])
  | fr {b : Z9} {e off n : Nat} {rows rows' : List (List PV)} (hb : st.h b = some (.row e rows false)) (hr : (rows.drop off).take n = rows') : Cr st (.sl b off n) (.l e rows')
inductive FN (st : St) : List CV → List PV → Prop
  | nil : FN st [] []
  | cons {c : CV} {x : PV} {cs : List CV} {xs : List PV} (h : Cr st c x) (hs : FN st cs xs) : FN st (c :: cs) (x :: xs)
theorem FN.agree {st st' : St} {cs : List CV} {xs : List PV} (h : FN st cs xs) (ha : ∀ b ∈ XT cs, st'.h b = st.h b) : FN st' cs xs := by
  induction h with
  | nil => exact .nil
  | @cons c x cs xs h hs ih =>
    have h1 : ∀ b ∈ c.ment, st'.h b = st.h b := fun b hb => ha b (by unfold XT; rw [List.flatMap_cons]; exact List.mem_append_left _ hb)
    refine .cons ?_ (ih fun b hb => ha b (by unfold XT at hb ⊢; rw [List.flatMap_cons]; exact List.mem_append_right _ hb))
    cases h with
    | k => exact .k _
    | nil e => exact .nil e
    | @fr b e off n rows rows' hb hr => exact .fr (by rw [h1 b (by simp [CV.ment])]; exact hb) hr
theorem FN.cts {st : St} {cs : List CV} {xs : List PV} (h : FN st cs xs) : IK st cs (xs.map .p) := by
  induction h with
  | nil => exact .nil
  | cons h hs ih =>
    refine .cons ?_ ih
    cases h with
    | k => exact .k _
    | nil e => exact .nil e
    | fr hb hr => exact .fr hb hr
section
variable {E : En} {N : Nat} {P : Program} {T : Tb P} {ops : Array Oper} {o : Oper} {st : St} {d : Nat} {ty : Nat} {pos : String} {af : Array Edge} {gd : Option (Nat × Bool)} {cx : Cx} {a : Act} {w w' : World}
theorem HM {cs : List CV} {xs : List PV} {vs : Array Value} (hr : V8 E N cx st a w) (h : FN st cs xs) (hc : RL cx w st.h cs vs) : RL cx w st.h (xs.map .p) vs := N2 hr h.cts hc
theorem CI {parts : Array (Nat × Operand)} {t e n sz : Nat} {tt te : TE} {zs : List Value} {cs : List CV} {ps : List PV} {rows : List (List PV)} (ht : ZZ T.ty t = some tt) (hk : tt.kd = .slice e) (hel : ZZ T.ty e = some te) (hsz : te.size = sz) (hpos : Nat.blt 0 (n * sz) = true) (hsm : Nat.ble (n * sz) 16777216 = true)
    (hz : te.zero.cells.toList = zs) (hat : zs.all Jj = true) (hf : DK (fun i => some (i * sz, sz)) ((List.range (n * sz)).map fun i => .p (.v (zs.getD (i % zs.length) undef))) (parts.toList.map fun x => (x.1, st.ev x.2)) = some cs) (hct : FN st cs ps) (hrows : Uo sz n ps = rows)
    (hzl : zs.length = sz) (hok : parts.toList.all (fun x => Zw x.2) = true) :
    KF E N P ops ⟨some d, .buildSlice t n parts, ty, pos, af, gd⟩ st ⟨XT cs, [(d, 0)]⟩ ⟨.c (.sl (d, 0) 0 n), [((d, 0), some (.row sz rows true))]⟩ := by
  intro st' ha hfr hd cx a w Q hr
  have hpos := Nat.le_of_ble_eq_true hpos
  have hsm := Nat.le_of_ble_eq_true hsm
  have hn0 : 0 < n := Nat.pos_of_ne_zero (fun h => by rw [h] at hpos; omega)
  have hsz0 : 0 < sz := Nat.pos_of_ne_zero (fun h => by rw [h] at hpos; omega)
  have hu := KJ ht hk
  obtain ⟨dd', i', h1', h2', h3', h4', h5', h6'⟩ := JX (T.ok _ _ hel)
  have hm : ∀ x ∈ parts.toList, x.2 ∈ (Op.buildSlice t n parts).operands.toList := fun x hx => by
    simp only [Op.operands, Array.toList_map, List.mem_map]; exact ⟨x, hx, rfl⟩
  have hz0 : RL cx w st'.h ((List.range (n * sz)).map fun i => .p (.v (zs.getD (i % zs.length) undef))) ((Array.range (n * te.size)).map (te.zero.cells[· % te.zero.cells.size]!)) := by
    have hzs : te.zero.cells.size = sz := by rw [← hzl, ← hz]; simp
    refine ⟨by simp [hsz], fun i c hi => ?_⟩
    rw [List.getElem?_map, Option.map_eq_some_iff] at hi
    obtain ⟨j, hj, rfl⟩ := hi
    have hil : i < n * sz := by simpa using (List.getElem?_eq_some_iff.1 hj).1
    rw [List.getElem?_range hil] at hj
    cases hj
    have hmod : i % sz < sz := Nat.mod_lt _ hsz0
    have hat' : Jj (zs.getD (i % zs.length) undef) = true := by
      rw [hzl, List.getD_eq_getElem?_getD, List.getElem?_eq_getElem (by omega)]
      exact List.all_eq_true.1 hat _ (List.getElem_mem _)
    refine ⟨zs.getD (i % zs.length) undef, ?_, KG hat', .v _ hat'⟩
    rw [Array.getElem?_map, Array.getElem?_range, hsz, if_pos hil, Option.map_some, hzs, hzl]
    congr 1
    have hbd : i % sz < te.zero.cells.size := by rw [hzs]; exact hmod
    have hg : zs[i % sz]? = some (te.zero.cells[i % sz]'hbd) := by rw [← hz, Array.getElem?_toList, Array.getElem?_eq_getElem]
    rw [getElem!_pos te.zero.cells _ hbd, List.getD_eq_getElem?_getD, hg]
    rfl
  obtain ⟨cells', h7, h8⟩ := Bq (cx := cx) (w := w) (h := st'.h) hf hz0 (vs := (parts.map fun (i, x) => (i, a.eval x)).toList) (by simp) (UR hr ha (fun x hx => hm x hx) hok)
  replace h8 := HM hr (hct.agree ha.2) h8
  have hlen : cells'.size = n * sz := by
    rw [BZ h7]; simp [hsz]
  have hpl : ps.length = n * sz := by
    have := h8.1; rw [List.length_map] at this; omega
  obtain ⟨c1, c2, c3⟩ := AC sz n ps hpl
  rw [hrows] at c1 c2 c3
  have hrun := run_buildSlice (P := P) w t e n (parts.map fun (i, x) => (i, a.eval x)) cells' i' te.zero hu h2' h6' (by rw [h4', hsz]; omega) (by rw [h4', hsz]; omega) (by rw [h4', hsz]; rw [hsz] at h7; exact h7)
  refine Yt (v := .slice (some ⟨w.heap.size, 0, none⟩) n n) (w' := w.alloc (.cells cells' e)) (by simp only [execOp, Sem.run_bind, hrun]; rfl) ⟨_, YE (w' := w.alloc (.cells cells' e)) (bk := .row sz rows true) (t := .c (.sl (d, 0) 0 n)) hr hd (b := (d, 0)) (hd d rfl) (hfr (d, 0) (by simp)) (ob := .cells cells' e) rfl rfl rfl rfl ?_ ?_⟩
  · refine ⟨hsz0, c2, ?_⟩
    simp only [Cx.upd, if_true]
    refine ⟨trivial, cells', e, (0, 0), n, Vz rfl, fun _ => ⟨rfl, fun h => ?_⟩, (fun h => by cases h), hlen, by omega, by unfold maxLen; have := Nat.le_mul_of_pos_right n hsz0; omega, fun i r k p hi hk => ?_⟩
    · have := (hr.A _ h).1; omega
    · have hp := c3 i r k p hi hk
      obtain ⟨u, hu, h9, h10⟩ := h8.2 (i * sz + k) (.p p) (by rw [List.getElem?_map, hp]; rfl)
      exact ⟨u, by simpa using hu, RP.keeps h10 (fun _ h => h) (Vy rfl)⟩
  · refine ⟨.inr rfl, fun bk hbk => ?_⟩
    rw [VZ, if_pos rfl] at hbk
    cases hbk
    refine ⟨_, n, rfl, Nat.le_refl _, by unfold maxLen; have := Nat.le_mul_of_pos_right n hsz0; omega, by simp [Bk.len, c1], .inr ⟨w.heap.size, cells', e, (0, 0), by simp [Cx.upd], by simp [Bk.e], Vz rfl, fun _ => by simp [Bk.e, hlen]⟩⟩
theorem DU {x y : Operand} {t : TypeId} {te : TE} {b : Z9} {i k e : Nat} {rows rows' : List (List PV)} {r r' ps : List PV} {v : TV} {dst : Option Nat} (hx : st.ev x = .c (.ptr b i k)) (hb : st.h b = some (.row e rows true)) (hi : rows[i]? = some r) (hv : st.ev y = v) (hk : v.known = true) (hct : FN st v.cells ps)
    (ht : ZZ T.ty t = some te) (hsz : ps.length = te.size) (hin : k + ps.length ≤ e) (hr' : setAt r k ps = r') (hrows : rows.set i r' = rows') (hcx : Zw x = true) (hcy : Zw y = true) :
    KF E N P ops ⟨dst, .store t x y, ty, pos, af, gd⟩ st ⟨b :: XT v.cells, []⟩ ⟨.c .any, [(b, some (.row e rows' true))]⟩ := by
  intro st' ha hf hd cx a w Q hr
  have he := hr.ev hcy
  rw [KI ha (by simp [Op.operands]), hv] at he
  have hrl := Wv hk he
  replace hrl := HM hr (hct.agree fun b' hb' => ha.2 b' (List.mem_cons_of_mem _ hb')) hrl
  obtain ⟨-, h4⟩ := Fb hx hcx ha (by simp [Op.operands]) hr
  have hb' : st'.h b = some (.row e rows true) := by rw [ha.2 b (by simp)]; exact hb
  obtain ⟨g, q, h5, h6⟩ := h4 _ hb'
  have hbl := hr.bl b _ hb'
  obtain ⟨h7, h8, h9⟩ := hbl
  rw [h5] at h9
  obtain ⟨rfl, c, el, fz, capR, h10, h11, h12, h13, h14, h15, h16⟩ := h9
  obtain ⟨rfl, hnA⟩ := h11 rfl
  have hil := (List.getElem?_eq_some_iff.1 hi).1
  have hrl2 := h8 r (List.mem_of_getElem? hi)
  have h6' : a.eval x = .pointer (some ⟨g, i * e + k, none⟩) := by simpa [Bk.e] using h6
  have hcl : (a.eval y).cells.size = ps.length := by have := hrl.1; simpa using this
  have hbig : i * e + e ≤ c.size := by
    have : (i + 1) * e ≤ capR * e := Nat.mul_le_mul_right e (by omega)
    rw [Nat.add_mul] at this
    omega
  have hrun := WG (w := w) (g := g) (q := i * e + k) (u := a.eval y) ht (by rw [hcl, hsz]) h10 (by omega) (Hy hrl)
  obtain ⟨c2, hc2⟩ : ∃ c2, c2 = (c.toList.take (i * e + k) ++ (a.eval y).cells.toList ++ c.toList.drop (i * e + k + (a.eval y).cells.size)).toArray := ⟨_, rfl⟩
  rw [← hc2] at hrun
  have hlen : c2.size = c.size := by rw [hc2]; simp; omega
  refine upon_skip (w' := w.setRow g c2) (by simp only [execOp, h6', Sem.run_bind, Instr.storeAt, Instr.sureAddr, Sem.run_pure, Result.andThen_ok, hrun]) ⟨cx, ?_⟩
  have hkeep : JS cx.A w (w.setRow g c2) := ⟨by simp, fun g' hA _ => setRow_other w g g' c2 (fun e => hnA (e ▸ hA))⟩
  have hr'l : r'.length = e := by rw [← hr', UQ r k ps (by omega)]; exact hrl2
  refine Az (t := .c .any) (bk' := .row e rows' true) hr hd hb' rfl (by simp [Bk.len, ← hrows]) h5 hnA h10 rfl hlen ⟨h7, ?_, ?_⟩ ⟨.inl rfl, trivial⟩
  · intro r2 hr2
    rw [← hrows] at hr2
    rcases List.mem_or_eq_of_mem_set hr2 with h | h
    · exact h8 r2 h
    · rw [h]; exact hr'l
  · rw [h5]
    refine ⟨rfl, c2, el, (0, 0), capR, setRow_heap w g c c2 el _ h10, fun _ => ⟨rfl, hnA⟩, (fun h => by cases h), by rw [hlen]; exact h13, by rw [← hrows]; simpa using h14, h15, fun i2 r2 k2 p2 hi2 hk2 => ?_⟩
    have hidx : ∀ j, c2[j]? = if j < i * e + k ∨ i * e + k + ps.length ≤ j then c[j]? else (a.eval y).cells[j - (i * e + k)]? := by
      intro j
      have h17 := YF c.toList (i * e + k) (a.eval y).cells.toList (by simp; omega)
      rw [hc2, show i * e + k + (a.eval y).cells.size = i * e + k + (a.eval y).cells.toList.length by simp, ← h17, List.getElem?_toArray, YG _ _ _ (by simp; omega)]
      simp only [Array.length_toList, hcl, Array.getElem?_toList]
    have hk2l : k2 < e := by
      have h1 := (List.getElem?_eq_some_iff.1 hk2).1
      have : r2.length = e := by
        rw [← hrows] at hi2
        rcases List.mem_or_eq_of_mem_set (List.mem_of_getElem? hi2) with h | h
        · exact h8 r2 h
        · rw [h]; exact hr'l
      omega
    rw [← hrows, List.getElem?_set] at hi2
    rw [hidx]
    by_cases e1 : i = i2
    · rw [if_pos e1, if_pos hil] at hi2
      cases hi2
      subst e1
      rw [← hr', YG r k ps (by omega)] at hk2
      by_cases h17 : k2 < k ∨ k + ps.length ≤ k2
      · rw [if_pos h17] at hk2
        rw [if_pos (by omega)]
        obtain ⟨cv, h18, h19⟩ := h16 i r k2 p2 hi hk2
        exact ⟨cv, h18, h19.keeps (fun _ h => h) hkeep⟩
      · rw [if_neg h17] at hk2
        rw [if_neg (by omega)]
        obtain ⟨u, h18, h19, h20⟩ := hrl.2 (k2 - k) (.p p2) (by rw [List.getElem?_map, hk2]; rfl)
        refine ⟨u, ?_, RP.keeps h20 (fun _ h => h) hkeep⟩
        rw [← h18]
        congr 1
        omega
    · rw [if_neg e1] at hi2
      have hi2l := (List.getElem?_eq_some_iff.1 hi2).1
      have hout : i2 * e + k2 < i * e + k ∨ i * e + k + ps.length ≤ i2 * e + k2 := by
        rcases Nat.lt_or_gt_of_ne e1 with h | h
        · right
          have : (i + 1) * e ≤ i2 * e := Nat.mul_le_mul_right e h
          rw [Nat.add_mul] at this
          omega
        · left
          have : (i2 + 1) * e ≤ i * e := Nat.mul_le_mul_right e h
          rw [Nat.add_mul] at this
          omega
      rw [if_pos hout]
      obtain ⟨cv, h18, h19⟩ := h16 i2 r2 k2 p2 hi2 hk2
      exact ⟨cv, h18, h19.keeps (fun _ h => h) hkeep⟩
theorem Bu {α : Type} {f : α → List PV} {L : List α} {x y : Operand} {t : TypeId} {te : TE} {b : Z9} {i k e : Nat} {x0 x1 : α} {ps : List PV} {v : TV} {dst : Option Nat} (hi : L[i]? = some x0) (hx : st.ev x = .c (.ptr b i k)) (hb : st.h b = some (.row e (L.map f) true)) (hv : st.ev y = v) (hk : v.known = true) (hct : FN st v.cells ps)
    (ht : ZZ T.ty t = some te) (hsz : ps.length = te.size) (hin : Nat.ble (k + ps.length) e = true) (hr' : setAt (f x0) k ps = f x1) (hcx : Zw x = true) (hcy : Zw y = true) :
    KF E N P ops ⟨dst, .store t x y, ty, pos, af, gd⟩ st ⟨b :: XT v.cells, []⟩ ⟨.c .any, [(b, some (.row e ((L.set i x1).map f) true))]⟩ :=
  DU hx hb (gm hi) hv hk hct ht hsz (Nat.le_of_ble_eq_true hin) hr' Ij hcx hcy
theorem LM {α : Type} {f : α → List PV} {z : α} {x y : Operand} {t el e by' : Nat} {tt te : TE} {k k' : IntKind} {n : Int} {zs : List Value} (hn : 0 ≤ n ∧ n * (by' : Nat) ≤ 140737488355328) (h1 : st.ev x = .c (.p (.v (.int k n)))) (h2 : st.ev y = .c (.p (.v (.int k' n)))) (ht : ZZ T.ty t = some tt) (hk : tt.kd = .slice el) (hel : ZZ T.ty el = some te) (hes : te.size = e) (hbt : te.bytes = by') (hpos : (Nat.blt 0 by' && Nat.blt 0 e) = true) (hz : te.zero.cells.toList = zs)
    (hct : FN (⟨[], []⟩ : St) (zs.map fun v => .p (.v v)) (f z)) (hat : zs.all Jj = true) (hok : (Zw x && Zw y && Nat.beq zs.length e) = true) :
    KF E N P ops ⟨some d, .makeSlice t x y, ty, pos, af, gd⟩ st ⟨[], [(d, 0)]⟩ ⟨.c (.sl (d, 0) 0 ((List.replicate n.toNat z).map f).length), [((d, 0), some (.row e ((List.replicate n.toNat z).map f) true))]⟩ := by
  intro st' ha hfr hd cx a w Q hr
  simp only [Bool.and_eq_true] at hok hpos
  have he0 : 0 < e := Nat.le_of_ble_eq_true hpos.2
  have hb0 : 0 < by' := Nat.le_of_ble_eq_true hpos.1
  have e1 := (Bb h1 hok.1.1 ha (by simp [Op.operands]) hr).1
  have e2 := (Bb h2 hok.1.2 ha (by simp [Op.operands]) hr).1
  obtain ⟨i, hi1, hi2, hi3, hi4⟩ := FB hel
  have hzl : te.zero.cells.size = e := by have := Nat.eq_of_beq_eq_true hok.2; rw [← hz] at this; simpa using this
  have hnb : n ≤ 140737488355328 := by
    have h3 : n * 1 ≤ n * (by' : Nat) := Int.mul_le_mul_of_nonneg_left (by omega) hn.1
    omega
  have hrun := run_make (P := P) (w := w) t el i te.zero (KJ ht hk) hi1 hi4 k k' n n hn.1 (Int.le_refl _) (by rw [hi3, hbt, Int.mul_comm]; omega) (by omega)
  rw [hi2, hes] at hrun
  have hct' : FN st' (zs.map fun v => .p (.v v)) (f z) := by
    refine (FN.agree hct (fun b hb => ?_) : FN st' _ _)
    simp only [XT, List.mem_flatMap, List.mem_map] at hb
    obtain ⟨c, ⟨y, _, rfl⟩, h2⟩ := hb
    simp [CV.ment] at h2
  have hrz := HM hr hct' (DL (cx := cx) (w := w) (h := st'.h) hz hat)
  have hfl : (f z).length = e := by have := hrz.1; rw [List.length_map] at this; omega
  have hmk : ∀ (i : Nat) (r : List PV) (k : Nat) (p : PV), ((List.replicate n.toNat z).map f)[i]? = some r → r[k]? = some p → ∃ cv, (madeCells te.zero.cells (n.toNat * e))[i * e + k]? = some cv ∧ RP w cx.A p cv := by
    intro i r k p hi hk
    rw [List.getElem?_map, Option.map_eq_some_iff] at hi
    obtain ⟨z', hz', rfl⟩ := hi
    have hil : i < n.toNat := by have := (List.getElem?_eq_some_iff.1 hz').1; simpa using this
    have : z' = z := by have := List.mem_of_getElem? hz'; exact (List.mem_replicate.1 this).2
    subst this
    obtain ⟨u, hu, h3, h4⟩ := hrz.2 k (.p p) (by rw [List.getElem?_map, hk]; rfl)
    have hkl : k < e := by have := (List.getElem?_eq_some_iff.1 hk).1; omega
    refine ⟨u, ?_, h4⟩
    have hlt : i * e + k < n.toNat * e := by
      have : (i + 1) * e ≤ n.toNat * e := Nat.mul_le_mul_right e hil
      rw [Nat.add_mul] at this
      omega
    have hmod : (i * e + k) % e = k := by rw [Nat.mul_comm, Nat.mul_add_mod]; exact Nat.mod_eq_of_lt hkl
    unfold madeCells
    rw [Array.getElem?_map, Array.getElem?_range, if_pos hlt, Option.map_some, hzl, hmod, ← hu]
    have hb : k < te.zero.cells.size := by omega
    rw [getElem!_pos te.zero.cells _ hb, Array.getElem?_eq_getElem hb]
  have hsz : (madeCells te.zero.cells (n.toNat * e)).size = n.toNat * e := size_madeCells _ _
  have hlen : ((List.replicate n.toNat z).map f).length = n.toNat := by simp
  refine Yt (v := .slice (some ⟨w.heap.size, 0, none⟩) n.toNat n.toNat) (w' := w.alloc (.cells (madeCells te.zero.cells (n.toNat * e)) el)) (by simp only [execOp, e1, e2, Sem.run_bind, hrun]; rfl) ⟨_, YE (w' := w.alloc (.cells (madeCells te.zero.cells (n.toNat * e)) el)) (bk := .row e ((List.replicate n.toNat z).map f) true) (t := .c (.sl (d, 0) 0 ((List.replicate n.toNat z).map f).length)) hr hd (b := (d, 0)) (hd d rfl) (hfr (d, 0) (by simp)) (ob := .cells (madeCells te.zero.cells (n.toNat * e)) el) rfl rfl rfl rfl ?_ ?_⟩
  · refine ⟨he0, fun r hr' => ?_, ?_⟩
    · obtain ⟨z', hz', rfl⟩ := List.mem_map.1 hr'
      rw [(List.mem_replicate.1 hz').2]; exact hfl
    · simp only [Cx.upd, if_true]
      refine ⟨trivial, _, el, (0, 0), n.toNat, Vz rfl, fun _ => ⟨rfl, fun h => ?_⟩, (fun h => by cases h), hsz, by rw [hlen]; exact Nat.le_refl _, by unfold maxLen; omega, fun i r k p hi hk => ?_⟩
      · have := (hr.A _ h).1; omega
      · obtain ⟨cv, h3, h4⟩ := hmk i r k p hi hk
        exact ⟨cv, h3, RP.keeps h4 (fun _ h => h) (Vy rfl)⟩
  · refine ⟨.inr rfl, fun bk hbk => ?_⟩
    rw [VZ, if_pos rfl] at hbk
    cases hbk
    refine ⟨_, n.toNat, by rw [hlen], by rw [hlen]; exact Nat.le_refl _, by unfold maxLen; omega, by simp [Bk.len], .inr ⟨w.heap.size, _, el, (0, 0), by simp [Cx.upd], by simp [Bk.e], Vz rfl, fun _ => by simp [Bk.e, hsz]⟩⟩
theorem LN {op : Op} {f : Fp} {t : TV} {fr : List (Nat × TV)} {H : List (Z9 × Option Bk)} {bl : List (Z9 × Option Bk)} {r : List Oper} {acc : List (Fp × Ef)} {K : List (Fp × Ef) → St → Prop} (hw : wn ops ⟨none, op, ty, pos, af, gd⟩ ⟨fr, H⟩ = some true) (hop : KF E N P ops ⟨none, op, ty, pos, af, gd⟩ ⟨fr, H⟩ f ⟨t, bl⟩) (h : W5 E N P ops r ((f, ⟨t, bl⟩) :: acc) ⟨fr, bl ++ H⟩ K) : W5 E N P ops (⟨none, op, ty, pos, af, gd⟩ :: r) acc ⟨fr, H⟩ K := ⟨f, ⟨t, bl⟩, .inl ⟨hw, hop⟩, h⟩
end
section
variable {E : En} {N : Nat} {P : Program} {Q : Exit → St → Prop} {st : St}
end
section
variable {P : Program} {w w' : World}
theorem LO {A : Nat → Prop} {gs : Nat → Option Nat} {g q g' q' : Nat} (hg : w.grownBy w' none) (hA : ∀ x, A x → x < w.heap.size) : ∀ {avs : List AV} {vs : List Value}, avs.any AV.isRef = false → Lb w A gs g q avs vs → Lb w' A gs g' q' avs vs := by
  intro avs
  induction avs with
  | nil => intro vs _ h; cases vs with | nil => trivial | cons v vs => exact h.elim
  | cons a avs ih =>
    intro vs hn h
    cases vs with
    | nil => exact h.elim
    | cons v vs =>
      simp only [List.any_cons, Bool.or_eq_false_iff] at hn
      refine ⟨?_, ih hn.2 h.2⟩
      have hm : ∀ {p : PV} {u : Value}, RP w A p u → RP w' A p u := fun h => h.mono (fun _ h => h) hg.size (fun x hx hl => hg.block x hl (by simp))
      have hcs : ∀ {n : Nat} {xs : List PV} {us : List Value}, Ep w A (fun _ => none) n (xs.map .p) us → Ep w' A (fun _ => none) n (xs.map .p) us := by
        intro n xs
        induction xs generalizing n with
        | nil => intro us h; cases us with | nil => trivial | cons u us => exact h.elim
        | cons x xs ih2 =>
          intro us h
          cases us with
          | nil => exact h.elim
          | cons u us => exact ⟨h.1, hm h.2.1, ih2 h.2.2⟩
      cases a with
      | c x => exact hm h.1
      | agg xs => obtain ⟨us, h1, h2⟩ := h.1; exact ⟨us, h1, hcs h2⟩
      | ref cs => exact absurd hn.1 (by simp [AV.isRef])
theorem Bv {f : FuncId} {avs : List AV} {x : Value} {vs : Array Value} {A : Nat → Prop} {g q : Nat} (hc : Qq P f avs [.c (.p (.v x))] []) (hn : avs.any AV.isRef = false) (hA : ∀ x, A x → x < w.heap.size) (hR : Lb w A (fun _ => none) g q avs vs.toList) :
    Calls P f vs w fun e w' => e = .returned x ∧ w.grownBy w' none := by
  refine (hc.run A (fun _ => none) w.heap.size 0 w vs hA (fun n m x h => by cases h) (fun n x h => by cases h) (fun _ => ⟨fun _ => rfl, rfl⟩) (LO ⟨rfl, rfl, rfl, Nat.le_refl _, fun _ _ _ => rfl⟩ hA hn hR)).mono ?_
  rintro e w' ⟨v, A', gs', h1, h2, h3, h4, h5, h6, h7, h8, h9, h10, h11, h12⟩
  have hv : v = x := by
    have := h11.2.1
    cases this with | v _ _ => rfl
  subst hv
  exact ⟨h1, h6, h7, h8, h4, fun k hk _ => h5 k hk (by omega) (fun n h => by cases h)⟩
end
end Go.Proofs.YthpbblhpapnbfaaGreat
namespace Go.Proofs.YthpbblhpapnbfaaGreat
open Go.RowKit Go.ChangeShapes Go.WideShapes
end Go.Proofs.YthpbblhpapnbfaaGreat
namespace Go.Proofs.YthpbblhpapnbfaaGreat
open Go.RowKit Go.ChangeShapes Go.WideShapes
theorem Kh {σ : Type} {step : (σ → Prop) → σ → Prop} (I : Nat → σ → Prop) (h : ∀ k s, I k s → ∀ X : σ → Prop, (∀ k' s', k' < k → I k' s' → X s') → step X s) {k : Nat} {s : σ} (h0 : I k s) : lp step s := by
  intro X hX
  have key : ∀ k s, I k s → X s := by
    intro k
    induction k using Nat.strongRecOn with
    | _ k ih => exact fun s hs => hX s (h k s hs X fun k' s' hk hs' => ih k' hk s' hs')
  exact key k s h0
theorem JU {α : Type} {l : List α} {n : Int} {j : Nat} {x : α} (hn : n = (j : Int)) (h : l[j]? = some x) : ix l n x := by
  subst hn; exact ⟨by omega, by simpa using h⟩
theorem bx_of {s : ByteArray} {n v : Int} {j : Nat} (hn : n = (j : Int)) (hj : j < s.size) (h : v = (s[j].toNat : Int)) : bx s n v := by
  subst hn; exact ⟨by omega, s[j], by simp [hj], h⟩
theorem Zl {n : Int} (h : -9223372036854775808 ≤ n ∧ n ≤ 9223372036854775807) : IntKind.i64.wrap n = n := by rw [IntKind.wrap_i64]; omega
def wI (n lo hi : Int) : Bool := decide (lo ≤ n ∧ n ≤ hi)
def GM {R : Type} (G G' : (R → Prop) → Prop) : Prop := ∀ Post : R → Prop, G Post → ∃ r, G' (fun x => r = x) ∧ Post r
section
variable {R α σ : Type}
theorem GM.ret (e : R) : GM (fun Q => Q e) (fun Q => Q e) := fun Post h => ⟨e, rfl, h⟩
theorem GM.and {p : Prop} {G G' : (R → Prop) → Prop} (h : GM G G') : GM (fun Q => p ∧ G Q) (fun Q => p ∧ G' Q) := fun Post ⟨hp, hg⟩ => let ⟨r, h1, h2⟩ := h Post hg; ⟨r, ⟨hp, h1⟩, h2⟩
theorem GM.ex {p : α → Prop} {G G' : α → (R → Prop) → Prop} (h : ∀ a, GM (G a) (G' a)) : GM (fun Q => ∃ a, p a ∧ G a Q) (fun Q => ∃ a, p a ∧ G' a Q) := fun Post ⟨a, hp, hg⟩ => let ⟨r, h1, h2⟩ := h a Post hg; ⟨r, ⟨a, hp, h1⟩, h2⟩
theorem GM.cond {c : Bool} {A A' B B' : (R → Prop) → Prop} (h1 : GM A A') (h2 : GM B B') : GM (fun Q => (c = true → A Q) ∧ (c = false → B Q)) (fun Q => (c = true → A' Q) ∧ (c = false → B' Q)) := fun Post h => by
  cases c with
  | true => obtain ⟨r, h3, h4⟩ := h1 Post (h.1 rfl); exact ⟨r, ⟨fun _ => h3, (fun h => by cases h)⟩, h4⟩
  | false => obtain ⟨r, h3, h4⟩ := h2 Post (h.2 rfl); exact ⟨r, ⟨(fun h => by cases h), fun _ => h3⟩, h4⟩
theorem GM.join {k k' : α → (R → Prop) → Prop} {m m' : (α → Prop) → (R → Prop) → Prop} (h1 : ∀ p, GM (k p) (k' p)) (h2 : ∀ K K' : α → (R → Prop) → Prop, (∀ p, GM (K p) (K' p)) → GM (fun Q => m (fun p => K p Q) Q) (fun Q => m' (fun p => K' p Q) Q)) :
    GM (fun Q => jn (fun p => k p Q) (fun J => m J Q)) (fun Q => jn (fun p => k' p Q) (fun J => m' J Q)) := h2 k k' h1
theorem GM.loop {step step' : (σ → Prop) → σ → (R → Prop) → Prop} {s0 : σ} (hm : ∀ (X Y : σ → Prop) (Q : R → Prop) (s : σ), (∀ s, X s → Y s) → step' X s Q → step' Y s Q)
    (h : ∀ K K' : σ → (R → Prop) → Prop, (∀ s, GM (K s) (K' s)) → ∀ s, GM (fun Q => step (fun s => K s Q) s Q) (fun Q => step' (fun s => K' s Q) s Q)) :
    GM (fun Q => lp (fun (X : σ → Prop) (s : σ) => step X s Q) s0) (fun Q => lp (fun (X : σ → Prop) (s : σ) => step' X s Q) s0) := by
  intro Post hl
  have hl : lp (fun (X : σ → Prop) (s : σ) => step X s Post) s0 := hl
  refine hl (fun (s : σ) => ∃ r, lp (fun (X : σ → Prop) (s : σ) => step' X s (fun x => r = x)) s ∧ Post r) fun s hs => ?_
  obtain ⟨r, h1, h2⟩ := h (fun s Q => ∃ r, lp (fun (X : σ → Prop) (s : σ) => step' X s (fun x => r = x)) s ∧ Q r) (fun s Q => lp (fun (X : σ → Prop) (s : σ) => step' X s Q) s) (fun s P ⟨r, h1, h2⟩ => ⟨r, h1, h2⟩) s Post hs
  exact ⟨r, fun X hX => hX s (hm _ _ _ s (fun s' h' => h' X hX) h1), h2⟩
end
theorem Xn {α : Type} {k k' : α → Prop} {m m' : (α → Prop) → Prop} (h : jn k m) (h1 : ∀ p, k p → k' p) (h2 : ∀ J J' : α → Prop, (∀ p, J p → J' p) → m J → m' J') : jn k' m' := h2 k k' h1 h
theorem AE {σ : Type} {step step' : (σ → Prop) → σ → Prop} {s0 : σ} (h : lp step s0) (hi : ∀ X Y : σ → Prop, (∀ s, X s → Y s) → ∀ s, step X s → step' Y s) : lp step' s0 := fun Y hY => h Y fun s hs => hY s (hi Y Y (fun _ h => h) s hs)
section
variable {E : En} {N : Nat} {P : Program} {T : Tb P} {ops : Array Oper} {o : Oper} {st : St} {r : List Oper} {acc : List (Fp × Ef)} {K : List (Fp × Ef) → St → Prop} {d : Nat} {ty : Nat} {pos : String} {af : Array Edge} {op : Op} {f : Fp} {t : TV} {fr : List (Nat × TV)} {H : List (Z9 × Option Bk)} {Q : Exit → St → Prop}
theorem u0 (hop : KF E N P ops ⟨some d, op, ty, pos, af, none⟩ ⟨fr, H⟩ f ⟨t, []⟩) (h : W5 E N P ops r ((f, ⟨t, []⟩) :: acc) ⟨(d, t) :: fr, H⟩ K) : W5 E N P ops (⟨some d, op, ty, pos, af, none⟩ :: r) acc ⟨fr, H⟩ K := Bh rfl hop h
theorem u1 {b1 : Z9 × Option Bk} (hop : KF E N P ops ⟨some d, op, ty, pos, af, none⟩ ⟨fr, H⟩ f ⟨t, [b1]⟩) (h : W5 E N P ops r ((f, ⟨t, [b1]⟩) :: acc) ⟨(d, t) :: fr, b1 :: H⟩ K) : W5 E N P ops (⟨some d, op, ty, pos, af, none⟩ :: r) acc ⟨fr, H⟩ K := Ma rfl hop h
theorem un {b1 : Z9 × Option Bk} (hop : KF E N P ops ⟨none, op, ty, pos, af, none⟩ ⟨fr, H⟩ f ⟨t, [b1]⟩) (h : W5 E N P ops r ((f, ⟨t, [b1]⟩) :: acc) ⟨fr, b1 :: H⟩ K) : W5 E N P ops (⟨none, op, ty, pos, af, none⟩ :: r) acc ⟨fr, H⟩ K := Mb rfl hop h
theorem ul {bl : List (Z9 × Option Bk)} (hop : KF E N P ops ⟨some d, op, ty, pos, af, none⟩ ⟨fr, H⟩ f ⟨t, bl⟩) (h : W5 E N P ops r ((f, ⟨t, bl⟩) :: acc) ⟨(d, t) :: fr, bl ++ H⟩ K) : W5 E N P ops (⟨some d, op, ty, pos, af, none⟩ :: r) acc ⟨fr, H⟩ K := FG rfl hop h
theorem mv {k : Nat} {y : CV} (hx : (⟨fr, H⟩ : St).ev (.tmp k) = .c y) (h : W5 E N P ops r ((⟨[], []⟩, ⟨.c y, []⟩) :: acc) ⟨(d, .c y) :: fr, H⟩ K) : W5 E N P ops (⟨some d, .move (.tmp k), ty, pos, af, none⟩ :: r) acc ⟨fr, H⟩ K := Bh rfl (Qm hx rfl) h
theorem Qj {x : Operand} {y : CV} (hx : (⟨fr, H⟩ : St).ev x = .c y) (hc : Zw x = true) (h : W5 E N P ops r ((⟨[], []⟩, ⟨.c y, []⟩) :: acc) ⟨(d, .c y) :: fr, H⟩ K) : W5 E N P ops (⟨some d, .assign x, ty, pos, af, none⟩ :: r) acc ⟨fr, H⟩ K := Bh rfl (FH hx hc) h
theorem rt {L : St → Prop} (h : L st) (h1 : Ho acc.reverse = true := by kernel_rfl) {st0 : St} (h2 : XY st0 acc = true := by kernel_rfl) : W5 E N P ops [] acc st fun acc st' => Ho acc.reverse = true ∧ XY st0 acc = true ∧ L st' := I4 ⟨h1, h2, h⟩
theorem rd {L : St → Prop} {l : List Oper} (h : L st) (h1 : Hn l acc.reverse = true := by kernel_rfl) {st0 : St} (h2 : XY st0 acc = true := by kernel_rfl) : W5 E N P ops [] acc st fun acc st' => Hn l acc.reverse = true ∧ XY st0 acc = true ∧ L st' := I4 ⟨h1, h2, h⟩
theorem tk {x : List Oper} {id : Nat} {y : Code} (h : ∀ L : St → Prop, (∀ st, AW E N P y Q st → L st) → W5 E N P x.toArray x [] st fun acc st' => Ho acc.reverse = true ∧ XY st acc = true ∧ L st') (hN : Lk N x = true := by kernel_rfl) : AW E N P (.seq (.region id x.toArray false) y) Q st := LB hN h
theorem dk (hm : P.follows .mixedOrders = true) {x : List Oper} {id : Nat} {y : Code} (h : ∀ L : St → Prop, (∀ st, AW E N P y Q st → L st) → W5 E N P x.toArray x [] st fun acc st' => Hn x acc.reverse = true ∧ XY st acc = true ∧ L st') (hS : Li N x = true := by kernel_rfl) : AW E N P (.seq (.region id x.toArray true) y) Q st := LC hm hS h
theorem tl {x : List Oper} {id : Nat} (h : ∀ L : St → Prop, (∀ st, Q .normal st → L st) → W5 E N P x.toArray x [] st fun acc st' => Ho acc.reverse = true ∧ XY st acc = true ∧ L st') (hN : Lk N x = true := by kernel_rfl) : AW E N P (.region id x.toArray false) Q st := I9 hN (h _ fun _ h => h)
theorem dl (hm : P.follows .mixedOrders = true) {x : List Oper} {id : Nat} (h : ∀ L : St → Prop, (∀ st, Q .normal st → L st) → W5 E N P x.toArray x [] st fun acc st' => Hn x acc.reverse = true ∧ XY st acc = true ∧ L st') (hS : Li N x = true := by kernel_rfl) : AW E N P (.region id x.toArray true) Q st := I8 hm hS (h _ fun _ h => h)
theorem sk {x y : Code} (h : ∀ K : St → Prop, (∀ st, AW E N P y Q st → K st) → AW E N P x (Fh Q K) st) : AW E N P (.seq x y) Q st := FI h
theorem Z2 {c : Operand} {x y : Code} {b : Bool} {A B : Prop} (hb : st.ev c = .c (.p (.v (.bool b)))) (h : (b = true → A) ∧ (b = false → B)) (ht : A → AW E N P x Q st) (hf : B → AW E N P y Q st) (hc : Zw c = true := by rfl) : AW E N P (.cond c x y) Q st := Ml hb hc (fun e => ht (h.1 e)) (fun e => hf (h.2 e))
end
structure QD where
  ff : Int
  f3 : ByteArray
  fw : Int
  fb6 : Int
  fb3 : Int
def CJ (x : QD) : List PV := [.v (.int .i64 (x.ff)), .v (.string (x.f3)), .v (.int .i64 (x.fw)), .v (.int .i64 (x.fb6)), .v (.int .i64 (x.fb3))]
structure Qf where
  ff : Int
  fg : Int
  fm : Int
  fo : Int
def Yv (x : Qf) : List PV := [.v (.int .i64 (x.ff)), .v (.int .i64 (x.fg)), .v (.int .i64 (x.fm)), .v (.int .u64 (x.fo))]
structure Qh where
  f3 : ByteArray
  f4 : Int
def Z5 (x : Qh) : List PV := [.v (.string (x.f3)), .v (.int .i64 (x.f4))]
structure QB where
  ff : Int
  fb4 : ByteArray
  f6 : ByteArray
  f7 : (List ByteArray)
  fa : Qf
  fv : (List Qh)
  fa8 : (List Int)
  f9 : Int
  fa7 : Int
  fa4 : Int
  fa9 : Int
  fa5 : Int
  fw : Int
  f0 : QD
  fa6 : (List Int)
def KA (x : QB) : List PV := [.v (.int .i64 (x.ff)), .v (.string (x.fb4)), .v (.string (x.f6)), .l 1 (List.map eS (x.f7)), .v (.int .i64 (x.fa.ff)), .v (.int .i64 (x.fa.fg)), .v (.int .i64 (x.fa.fm)), .v (.int .u64 (x.fa.fo)), .l 2 (List.map Z5 (x.fv)), .l 1 (List.map (eI .u8) (x.fa8)), .v (.int .i64 (x.f9)), .v (.int .i64 (x.fa7)), .v (.int .i64 (x.fa4)), .v (.int .i64 (x.fa9)), .v (.int .i64 (x.fa5)), .v (.int .i64 (x.fw)), .v (.int .i64 (x.f0.ff)), .v (.string (x.f0.f3)), .v (.int .i64 (x.f0.fw)), .v (.int .i64 (x.f0.fb6)), .v (.int .i64 (x.f0.fb3)), .l 1 (List.map (eI .u8) (x.fa6))]
structure QA where
  fh : Int
  fv : Int
  fb : Bool
def Yc (x : QA) : List PV := [.v (.int .i64 (x.fh)), .v (.int .i64 (x.fv)), .v (.bool (x.fb))]
structure Qi where
  fm : Int
  fg : Int
  fo : Int
  f5 : (List Int)
  fb : Bool
def ZY (x : Qi) : List PV := [.v (.int .i64 (x.fm)), .v (.int .i64 (x.fg)), .v (.int .u64 (x.fo)), .l 1 (List.map (eI .i64) (x.f5)), .v (.bool (x.fb))]
structure Qv where
  fx : Int
  fo : Int
  fp : (List Int)
def JZ (x : Qv) : List PV := [.v (.int .i64 (x.fx)), .v (.int .u64 (x.fo)), .l 1 (List.map (eI .i64) (x.fp))]
structure Q3 where
  f3 : ByteArray
  fw : Int
  fa3 : Int
def Q8 (x : Q3) : List PV := [.v (.string (x.f3)), .v (.int .i64 (x.fw)), .v (.int .i64 (x.fa3))]
theorem Yw (x : Q3) : (Q8 x).all M7 = true := rfl
structure QE where
  fg : Int
  fh : Int
  fc : (List Q3)
  fb : Bool
def Jk (x : QE) : List PV := [.v (.int .i64 (x.fg)), .v (.int .i64 (x.fh)), .l 3 (List.map Q8 (x.fc)), .v (.bool (x.fb))]
structure Qn where
  fg : Int
  fh : Int
  fa2 : Int
  fc : (List Q3)
  fb : Bool
def K8 (x : Qn) : List PV := [.v (.int .i64 (x.fg)), .v (.int .i64 (x.fh)), .v (.int .i64 (x.fa2)), .l 3 (List.map Q8 (x.fc)), .v (.bool (x.fb))]
structure Qx where
  fg : Int
  fh : Int
  f8 : Int
  fk : (List (List ByteArray))
  fb : Bool
def Z3 (x : Qx) : List PV := [.v (.int .i64 (x.fg)), .v (.int .i64 (x.fh)), .v (.int .i64 (x.f8)), .l 1 (List.map (eL 1 eS) (x.fk)), .v (.bool (x.fb))]
structure Qk where
  fa : Qf
  fq : QA
  fi : Qi
  f2 : Qv
  fa0 : QE
  fj : Qn
  fy : Qx
def KO (x : Qk) : List PV := [.v (.int .i64 (x.fa.ff)), .v (.int .i64 (x.fa.fg)), .v (.int .i64 (x.fa.fm)), .v (.int .u64 (x.fa.fo)), .v (.int .i64 (x.fq.fh)), .v (.int .i64 (x.fq.fv)), .v (.bool (x.fq.fb)), .v (.int .i64 (x.fi.fm)), .v (.int .i64 (x.fi.fg)), .v (.int .u64 (x.fi.fo)), .l 1 (List.map (eI .i64) (x.fi.f5)), .v (.bool (x.fi.fb)), .v (.int .i64 (x.f2.fx)), .v (.int .u64 (x.f2.fo)), .l 1 (List.map (eI .i64) (x.f2.fp)), .v (.int .i64 (x.fa0.fg)), .v (.int .i64 (x.fa0.fh)), .l 3 (List.map Q8 (x.fa0.fc)), .v (.bool (x.fa0.fb)), .v (.int .i64 (x.fj.fg)), .v (.int .i64 (x.fj.fh)), .v (.int .i64 (x.fj.fa2)), .l 3 (List.map Q8 (x.fj.fc)), .v (.bool (x.fj.fb)), .v (.int .i64 (x.fy.fg)), .v (.int .i64 (x.fy.fh)), .v (.int .i64 (x.fy.f8)), .l 1 (List.map (eL 1 eS) (x.fy.fk)), .v (.bool (x.fy.fb))]
structure QS where
  fc0 : Int
  f7 : Int
  fc5 : Int
  fb2 : Int
  fc9 : Int
  fc3 : Int
  fb0 : Int
def ZM (x : QS) : List PV := [.v (.int .i64 (x.fc0)), .v (.int .i64 (x.f7)), .v (.int .i64 (x.fc5)), .v (.int .i64 (x.fb2)), .v (.int .i64 (x.fc9)), .v (.int .i64 (x.fc3)), .v (.int .i64 (x.fb0))]
structure Jt where
  fc1 : Int
  fd1 : Int
structure Kz where
  fd0 : Int
  fd2 : Int
  fc7 : Bool
  fc4 : (List Int)
  fc1 : Int
  fa1 : Qk
  f6 : Qk
  fd3 : Int
  fd4 : Int
  fa4 : Int
  fa5 : Int
  fAt : Jt
  fa6 : (List Int)
  fc8 : Bool
structure KX where
  fc6 : Bool
  fc2 : Int
  f7 : (List ByteArray)
def Up (x : KX) : List PV := [.v (.bool (x.fc6)), .v (.int .i64 (x.fc2)), .l 1 (List.map eS (x.f7))]
structure V0 where
  fc6 : Bool
  fc2 : Int
  fb4 : ByteArray
  fd5 : Int
def Bw (x : V0) : List PV := [.v (.bool (x.fc6)), .v (.int .i64 (x.fc2)), .v (.string (x.fb4)), .v (.int .i64 (x.fd5))]
structure Qo where
  fb7 : Bool
  fOp : QB
  fu : Kz
  fb8 : Int
  fb1 : (List KX)
  fb5 : (List V0)
def QU (x : Qo) : List PV := [.v (.bool (x.fb7)), .v (.int .i64 (x.fOp.ff)), .v (.string (x.fOp.fb4)), .v (.string (x.fOp.f6)), .l 1 (List.map eS (x.fOp.f7)), .v (.int .i64 (x.fOp.fa.ff)), .v (.int .i64 (x.fOp.fa.fg)), .v (.int .i64 (x.fOp.fa.fm)), .v (.int .u64 (x.fOp.fa.fo)), .l 2 (List.map Z5 (x.fOp.fv)), .l 1 (List.map (eI .u8) (x.fOp.fa8)), .v (.int .i64 (x.fOp.f9)), .v (.int .i64 (x.fOp.fa7)), .v (.int .i64 (x.fOp.fa4)), .v (.int .i64 (x.fOp.fa9)), .v (.int .i64 (x.fOp.fa5)), .v (.int .i64 (x.fOp.fw)), .v (.int .i64 (x.fOp.f0.ff)), .v (.string (x.fOp.f0.f3)), .v (.int .i64 (x.fOp.f0.fw)), .v (.int .i64 (x.fOp.f0.fb6)), .v (.int .i64 (x.fOp.f0.fb3)), .l 1 (List.map (eI .u8) (x.fOp.fa6)), .v (.int .i64 (x.fu.fd0)), .v (.int .i64 (x.fu.fd2)), .v (.bool (x.fu.fc7)), .l 1 (List.map (eI .i64) (x.fu.fc4)), .v (.int .i64 (x.fu.fc1)), .v (.int .i64 (x.fu.fa1.fa.ff)), .v (.int .i64 (x.fu.fa1.fa.fg)), .v (.int .i64 (x.fu.fa1.fa.fm)), .v (.int .u64 (x.fu.fa1.fa.fo)), .v (.int .i64 (x.fu.fa1.fq.fh)), .v (.int .i64 (x.fu.fa1.fq.fv)), .v (.bool (x.fu.fa1.fq.fb)), .v (.int .i64 (x.fu.fa1.fi.fm)), .v (.int .i64 (x.fu.fa1.fi.fg)), .v (.int .u64 (x.fu.fa1.fi.fo)), .l 1 (List.map (eI .i64) (x.fu.fa1.fi.f5)), .v (.bool (x.fu.fa1.fi.fb)), .v (.int .i64 (x.fu.fa1.f2.fx)), .v (.int .u64 (x.fu.fa1.f2.fo)), .l 1 (List.map (eI .i64) (x.fu.fa1.f2.fp)), .v (.int .i64 (x.fu.fa1.fa0.fg)), .v (.int .i64 (x.fu.fa1.fa0.fh)), .l 3 (List.map Q8 (x.fu.fa1.fa0.fc)), .v (.bool (x.fu.fa1.fa0.fb)), .v (.int .i64 (x.fu.fa1.fj.fg)), .v (.int .i64 (x.fu.fa1.fj.fh)), .v (.int .i64 (x.fu.fa1.fj.fa2)), .l 3 (List.map Q8 (x.fu.fa1.fj.fc)), .v (.bool (x.fu.fa1.fj.fb)), .v (.int .i64 (x.fu.fa1.fy.fg)), .v (.int .i64 (x.fu.fa1.fy.fh)), .v (.int .i64 (x.fu.fa1.fy.f8)), .l 1 (List.map (eL 1 eS) (x.fu.fa1.fy.fk)), .v (.bool (x.fu.fa1.fy.fb)), .v (.int .i64 (x.fu.f6.fa.ff)), .v (.int .i64 (x.fu.f6.fa.fg)), .v (.int .i64 (x.fu.f6.fa.fm)), .v (.int .u64 (x.fu.f6.fa.fo)), .v (.int .i64 (x.fu.f6.fq.fh)), .v (.int .i64 (x.fu.f6.fq.fv)), .v (.bool (x.fu.f6.fq.fb)), .v (.int .i64 (x.fu.f6.fi.fm)), .v (.int .i64 (x.fu.f6.fi.fg)), .v (.int .u64 (x.fu.f6.fi.fo)), .l 1 (List.map (eI .i64) (x.fu.f6.fi.f5)), .v (.bool (x.fu.f6.fi.fb)), .v (.int .i64 (x.fu.f6.f2.fx)), .v (.int .u64 (x.fu.f6.f2.fo)), .l 1 (List.map (eI .i64) (x.fu.f6.f2.fp)), .v (.int .i64 (x.fu.f6.fa0.fg)), .v (.int .i64 (x.fu.f6.fa0.fh)), .l 3 (List.map Q8 (x.fu.f6.fa0.fc)), .v (.bool (x.fu.f6.fa0.fb)), .v (.int .i64 (x.fu.f6.fj.fg)), .v (.int .i64 (x.fu.f6.fj.fh)), .v (.int .i64 (x.fu.f6.fj.fa2)), .l 3 (List.map Q8 (x.fu.f6.fj.fc)), .v (.bool (x.fu.f6.fj.fb)), .v (.int .i64 (x.fu.f6.fy.fg)), .v (.int .i64 (x.fu.f6.fy.fh)), .v (.int .i64 (x.fu.f6.fy.f8)), .l 1 (List.map (eL 1 eS) (x.fu.f6.fy.fk)), .v (.bool (x.fu.f6.fy.fb)), .v (.int .i64 (x.fu.fd3)), .v (.int .i64 (x.fu.fd4)), .v (.int .i64 (x.fu.fa4)), .v (.int .i64 (x.fu.fa5)), .v (.int .i64 (x.fu.fAt.fc1)), .v (.int .i64 (x.fu.fAt.fd1)), .l 1 (List.map (eI .u8) (x.fu.fa6)), .v (.bool (x.fu.fc8)), .v (.int .i64 (x.fb8)), .l 3 (List.map Up (x.fb1)), .l 4 (List.map Bw (x.fb5))]
structure K9 where
  fe0 : Bool
  fe1 : Bool
  fe2 : Bool
  fe3 : Bool
  fe4 : Bool
  fe5 : Bool
  fe6 : Bool
  fe7 : Bool
  fe8 : Bool
  fe9 : Bool
  fe10 : Bool
  fe11 : Bool
  fe12 : Bool
def Xo (x : K9) : List PV := [.v (.bool (x.fe0)), .v (.bool (x.fe1)), .v (.bool (x.fe2)), .v (.bool (x.fe3)), .v (.bool (x.fe4)), .v (.bool (x.fe5)), .v (.bool (x.fe6)), .v (.bool (x.fe7)), .v (.bool (x.fe8)), .v (.bool (x.fe9)), .v (.bool (x.fe10)), .v (.bool (x.fe11)), .v (.bool (x.fe12))]
set_option maxRecDepth 20000
theorem te_2 : Zm Tryz.prog 2 = some ⟨.int .i64, 1, 8, .int .i64 0⟩ := by kernel_rfl
theorem te_3 : Zm Tryz.prog 3 = some ⟨.int .i64, 1, 8, .int .i64 0⟩ := by kernel_rfl
theorem te_4 : Zm Tryz.prog 4 = some ⟨.bool, 1, 1, .bool false⟩ := by kernel_rfl
theorem te_5 : Zm Tryz.prog 5 = some ⟨.int .u8, 1, 1, .int .u8 0⟩ := by kernel_rfl
theorem te_6 : Zm Tryz.prog 6 = some ⟨.int .u8, 1, 1, .int .u8 0⟩ := by kernel_rfl
theorem te_7 : Zm Tryz.prog 7 = some ⟨.struct [(0, 2), (1, 3), (2, 4), (3, 6)], 4, 24, .agg #[.int .i64 0, .int .i64 0, .bool false, .int .u8 0]⟩ := by kernel_rfl
theorem te_8 : Zm Tryz.prog 8 = some ⟨.struct [(0, 2), (1, 3), (2, 4), (3, 6)], 4, 24, .agg #[.int .i64 0, .int .i64 0, .bool false, .int .u8 0]⟩ := by kernel_rfl
theorem te_9 : Zm Tryz.prog 9 = some ⟨.string, 1, 16, .string ByteArray.empty⟩ := by kernel_rfl
theorem te_10 : Zm Tryz.prog 10 = some ⟨.string, 1, 16, .string ByteArray.empty⟩ := by kernel_rfl
theorem te_11 : Zm Tryz.prog 11 = some ⟨.string, 1, 16, .string ByteArray.empty⟩ := by kernel_rfl
theorem te_12 : Zm Tryz.prog 12 = some ⟨.int .u64, 1, 8, .int .u64 0⟩ := by kernel_rfl
theorem te_13 : Zm Tryz.prog 13 = some ⟨.struct [(0, 9), (1, 12)], 2, 24, .agg #[.string ByteArray.empty, .int .u64 0]⟩ := by kernel_rfl
theorem te_14 : Zm Tryz.prog 14 = some ⟨.struct [(0, 9), (1, 12)], 2, 24, .agg #[.string ByteArray.empty, .int .u64 0]⟩ := by kernel_rfl
theorem te_15 : Zm Tryz.prog 15 = some ⟨.ptr 195, 1, 8, .pointer none⟩ := by kernel_rfl
theorem te_16 : Zm Tryz.prog 16 = some ⟨.ptr 198, 1, 8, .pointer none⟩ := by kernel_rfl
theorem te_17 : Zm Tryz.prog 17 = some ⟨.ptr 207, 1, 8, .pointer none⟩ := by kernel_rfl
theorem te_18 : Zm Tryz.prog 18 = some ⟨.struct [(0, 17)], 1, 8, .agg #[.pointer none]⟩ := by kernel_rfl
theorem te_19 : Zm Tryz.prog 19 = some ⟨.struct [(0, 17)], 1, 8, .agg #[.pointer none]⟩ := by kernel_rfl
theorem te_21 : Zm Tryz.prog 21 = some ⟨.int .i32, 1, 4, .int .i32 0⟩ := by kernel_rfl
theorem te_22 : Zm Tryz.prog 22 = some ⟨.slice 3, 1, 24, .slice none 0 0⟩ := by kernel_rfl
theorem te_23 : Zm Tryz.prog 23 = some ⟨.struct [(0, 3), (1, 3), (2, 3), (3, 3), (4, 3), (5, 3), (6, 3)], 7, 56, .agg #[.int .i64 0, .int .i64 0, .int .i64 0, .int .i64 0, .int .i64 0, .int .i64 0, .int .i64 0]⟩ := by kernel_rfl
theorem te_24 : Zm Tryz.prog 24 = some ⟨.struct [(0, 3), (1, 3), (2, 3), (3, 3), (4, 3), (5, 3), (6, 3)], 7, 56, .agg #[.int .i64 0, .int .i64 0, .int .i64 0, .int .i64 0, .int .i64 0, .int .i64 0, .int .i64 0]⟩ := by kernel_rfl
theorem te_25 : Zm Tryz.prog 25 = some ⟨.slice 9, 1, 24, .slice none 0 0⟩ := by kernel_rfl
theorem te_26 : Zm Tryz.prog 26 = some ⟨.int .u64, 1, 8, .int .u64 0⟩ := by kernel_rfl
theorem te_27 : Zm Tryz.prog 27 = some ⟨.struct [(0, 3), (1, 3), (2, 3), (3, 26)], 4, 32, .agg #[.int .i64 0, .int .i64 0, .int .i64 0, .int .u64 0]⟩ := by kernel_rfl
theorem te_28 : Zm Tryz.prog 28 = some ⟨.struct [(0, 3), (1, 3), (2, 3), (3, 26)], 4, 32, .agg #[.int .i64 0, .int .i64 0, .int .i64 0, .int .u64 0]⟩ := by kernel_rfl
theorem te_29 : Zm Tryz.prog 29 = some ⟨.slice 51, 1, 24, .slice none 0 0⟩ := by kernel_rfl
theorem te_30 : Zm Tryz.prog 30 = some ⟨.slice 5, 1, 24, .slice none 0 0⟩ := by kernel_rfl
theorem te_31 : Zm Tryz.prog 31 = some ⟨.struct [(0, 3), (1, 9), (2, 3), (3, 3), (4, 3)], 5, 48, .agg #[.int .i64 0, .string ByteArray.empty, .int .i64 0, .int .i64 0, .int .i64 0]⟩ := by kernel_rfl
theorem te_32 : Zm Tryz.prog 32 = some ⟨.struct [(0, 3), (1, 9), (2, 3), (3, 3), (4, 3)], 5, 48, .agg #[.int .i64 0, .string ByteArray.empty, .int .i64 0, .int .i64 0, .int .i64 0]⟩ := by kernel_rfl
theorem te_33 : Zm Tryz.prog 33 = some ⟨.struct [(0, 3), (1, 9), (2, 9), (3, 25), (4, 28), (8, 29), (9, 30), (10, 3), (11, 3), (12, 3), (13, 3), (14, 3), (15, 3), (16, 32), (21, 30)], 22, 264, .agg #[.int .i64 0, .string ByteArray.empty, .string ByteArray.empty, .slice none 0 0, .int .i64 0, .int .i64 0, .int .i64 0, .int .u64 0, .slice none 0 0, .slice none 0 0, .int .i64 0, .int .i64 0, .int .i64 0, .int .i64 0, .int .i64 0, .int .i64 0, .int .i64 0, .string ByteArray.empty, .int .i64 0, .int .i64 0, .int .i64 0, .slice none 0 0]⟩ := by kernel_rfl
theorem te_34 : Zm Tryz.prog 34 = some ⟨.struct [(0, 3), (1, 9), (2, 9), (3, 25), (4, 28), (8, 29), (9, 30), (10, 3), (11, 3), (12, 3), (13, 3), (14, 3), (15, 3), (16, 32), (21, 30)], 22, 264, .agg #[.int .i64 0, .string ByteArray.empty, .string ByteArray.empty, .slice none 0 0, .int .i64 0, .int .i64 0, .int .i64 0, .int .u64 0, .slice none 0 0, .slice none 0 0, .int .i64 0, .int .i64 0, .int .i64 0, .int .i64 0, .int .i64 0, .int .i64 0, .int .i64 0, .string ByteArray.empty, .int .i64 0, .int .i64 0, .int .i64 0, .slice none 0 0]⟩ := by kernel_rfl
theorem te_41 : Zm Tryz.prog 41 = some ⟨.slice 89, 1, 24, .slice none 0 0⟩ := by kernel_rfl
theorem te_42 : Zm Tryz.prog 42 = some ⟨.int .i64, 1, 8, .int .i64 0⟩ := by kernel_rfl
theorem te_48 : Zm Tryz.prog 48 = some ⟨.int .u64, 1, 8, .int .u64 0⟩ := by kernel_rfl
theorem te_50 : Zm Tryz.prog 50 = some ⟨.struct [(0, 9), (1, 3)], 2, 24, .agg #[.string ByteArray.empty, .int .i64 0]⟩ := by kernel_rfl
theorem te_51 : Zm Tryz.prog 51 = some ⟨.struct [(0, 9), (1, 3)], 2, 24, .agg #[.string ByteArray.empty, .int .i64 0]⟩ := by kernel_rfl
theorem te_58 : Zm Tryz.prog 58 = some ⟨.struct [(0, 3), (1, 3), (2, 4)], 3, 24, .agg #[.int .i64 0, .int .i64 0, .bool false]⟩ := by kernel_rfl
theorem te_59 : Zm Tryz.prog 59 = some ⟨.struct [(0, 3), (1, 3), (2, 4)], 3, 24, .agg #[.int .i64 0, .int .i64 0, .bool false]⟩ := by kernel_rfl
theorem te_60 : Zm Tryz.prog 60 = some ⟨.struct [(0, 3), (1, 3), (2, 26), (3, 22), (4, 4)], 5, 56, .agg #[.int .i64 0, .int .i64 0, .int .u64 0, .slice none 0 0, .bool false]⟩ := by kernel_rfl
theorem te_61 : Zm Tryz.prog 61 = some ⟨.struct [(0, 3), (1, 3), (2, 26), (3, 22), (4, 4)], 5, 56, .agg #[.int .i64 0, .int .i64 0, .int .u64 0, .slice none 0 0, .bool false]⟩ := by kernel_rfl
theorem te_62 : Zm Tryz.prog 62 = some ⟨.struct [(0, 3), (1, 26), (2, 22)], 3, 40, .agg #[.int .i64 0, .int .u64 0, .slice none 0 0]⟩ := by kernel_rfl
theorem te_63 : Zm Tryz.prog 63 = some ⟨.struct [(0, 3), (1, 26), (2, 22)], 3, 40, .agg #[.int .i64 0, .int .u64 0, .slice none 0 0]⟩ := by kernel_rfl
theorem te_64 : Zm Tryz.prog 64 = some ⟨.slice 139, 1, 24, .slice none 0 0⟩ := by kernel_rfl
theorem te_65 : Zm Tryz.prog 65 = some ⟨.struct [(0, 3), (1, 3), (2, 64), (3, 4)], 4, 48, .agg #[.int .i64 0, .int .i64 0, .slice none 0 0, .bool false]⟩ := by kernel_rfl
theorem te_66 : Zm Tryz.prog 66 = some ⟨.struct [(0, 3), (1, 3), (2, 64), (3, 4)], 4, 48, .agg #[.int .i64 0, .int .i64 0, .slice none 0 0, .bool false]⟩ := by kernel_rfl
theorem te_67 : Zm Tryz.prog 67 = some ⟨.struct [(0, 3), (1, 3), (2, 3), (3, 64), (4, 4)], 5, 56, .agg #[.int .i64 0, .int .i64 0, .int .i64 0, .slice none 0 0, .bool false]⟩ := by kernel_rfl
theorem te_68 : Zm Tryz.prog 68 = some ⟨.struct [(0, 3), (1, 3), (2, 3), (3, 64), (4, 4)], 5, 56, .agg #[.int .i64 0, .int .i64 0, .int .i64 0, .slice none 0 0, .bool false]⟩ := by kernel_rfl
theorem te_69 : Zm Tryz.prog 69 = some ⟨.slice 25, 1, 24, .slice none 0 0⟩ := by kernel_rfl
theorem te_70 : Zm Tryz.prog 70 = some ⟨.struct [(0, 3), (1, 3), (2, 3), (3, 69), (4, 4)], 5, 56, .agg #[.int .i64 0, .int .i64 0, .int .i64 0, .slice none 0 0, .bool false]⟩ := by kernel_rfl
theorem te_71 : Zm Tryz.prog 71 = some ⟨.struct [(0, 3), (1, 3), (2, 3), (3, 69), (4, 4)], 5, 56, .agg #[.int .i64 0, .int .i64 0, .int .i64 0, .slice none 0 0, .bool false]⟩ := by kernel_rfl
theorem te_72 : Zm Tryz.prog 72 = some ⟨.struct [(0, 28), (4, 59), (7, 61), (12, 63), (15, 66), (19, 68), (24, 71)], 29, 312, .agg #[.int .i64 0, .int .i64 0, .int .i64 0, .int .u64 0, .int .i64 0, .int .i64 0, .bool false, .int .i64 0, .int .i64 0, .int .u64 0, .slice none 0 0, .bool false, .int .i64 0, .int .u64 0, .slice none 0 0, .int .i64 0, .int .i64 0, .slice none 0 0, .bool false, .int .i64 0, .int .i64 0, .int .i64 0, .slice none 0 0, .bool false, .int .i64 0, .int .i64 0, .int .i64 0, .slice none 0 0, .bool false]⟩ := by kernel_rfl
theorem te_73 : Zm Tryz.prog 73 = some ⟨.struct [(0, 28), (4, 59), (7, 61), (12, 63), (15, 66), (19, 68), (24, 71)], 29, 312, .agg #[.int .i64 0, .int .i64 0, .int .i64 0, .int .u64 0, .int .i64 0, .int .i64 0, .bool false, .int .i64 0, .int .i64 0, .int .u64 0, .slice none 0 0, .bool false, .int .i64 0, .int .u64 0, .slice none 0 0, .int .i64 0, .int .i64 0, .slice none 0 0, .bool false, .int .i64 0, .int .i64 0, .int .i64 0, .slice none 0 0, .bool false, .int .i64 0, .int .i64 0, .int .i64 0, .slice none 0 0, .bool false]⟩ := by kernel_rfl
theorem te_82 : Zm Tryz.prog 82 = some ⟨.slice 209, 1, 24, .slice none 0 0⟩ := by kernel_rfl
theorem te_83 : Zm Tryz.prog 83 = some ⟨.slice 211, 1, 24, .slice none 0 0⟩ := by kernel_rfl
theorem te_84 : Zm Tryz.prog 84 = some ⟨.struct [(0, 3), (1, 3)], 2, 16, .agg #[.int .i64 0, .int .i64 0]⟩ := by kernel_rfl
theorem te_85 : Zm Tryz.prog 85 = some ⟨.struct [(0, 3), (1, 3)], 2, 16, .agg #[.int .i64 0, .int .i64 0]⟩ := by kernel_rfl
theorem te_86 : Zm Tryz.prog 86 = some ⟨.struct [(0, 3), (1, 3), (2, 4), (3, 22), (4, 3), (5, 73), (34, 73), (63, 3), (64, 3), (65, 3), (66, 3), (67, 85), (69, 30), (70, 4)], 71, 760, .agg #[.int .i64 0, .int .i64 0, .bool false, .slice none 0 0, .int .i64 0, .int .i64 0, .int .i64 0, .int .i64 0, .int .u64 0, .int .i64 0, .int .i64 0, .bool false, .int .i64 0, .int .i64 0, .int .u64 0, .slice none 0 0, .bool false, .int .i64 0, .int .u64 0, .slice none 0 0, .int .i64 0, .int .i64 0, .slice none 0 0, .bool false, .int .i64 0, .int .i64 0, .int .i64 0, .slice none 0 0, .bool false, .int .i64 0, .int .i64 0, .int .i64 0, .slice none 0 0, .bool false, .int .i64 0, .int .i64 0, .int .i64 0, .int .u64 0, .int .i64 0, .int .i64 0, .bool false, .int .i64 0, .int .i64 0, .int .u64 0, .slice none 0 0, .bool false, .int .i64 0, .int .u64 0, .slice none 0 0, .int .i64 0, .int .i64 0, .slice none 0 0, .bool false, .int .i64 0, .int .i64 0, .int .i64 0, .slice none 0 0, .bool false, .int .i64 0, .int .i64 0, .int .i64 0, .slice none 0 0, .bool false, .int .i64 0, .int .i64 0, .int .i64 0, .int .i64 0, .int .i64 0, .int .i64 0, .slice none 0 0, .bool false]⟩ := by kernel_rfl
theorem te_87 : Zm Tryz.prog 87 = some ⟨.struct [(0, 3), (1, 3), (2, 4), (3, 22), (4, 3), (5, 73), (34, 73), (63, 3), (64, 3), (65, 3), (66, 3), (67, 85), (69, 30), (70, 4)], 71, 760, .agg #[.int .i64 0, .int .i64 0, .bool false, .slice none 0 0, .int .i64 0, .int .i64 0, .int .i64 0, .int .i64 0, .int .u64 0, .int .i64 0, .int .i64 0, .bool false, .int .i64 0, .int .i64 0, .int .u64 0, .slice none 0 0, .bool false, .int .i64 0, .int .u64 0, .slice none 0 0, .int .i64 0, .int .i64 0, .slice none 0 0, .bool false, .int .i64 0, .int .i64 0, .int .i64 0, .slice none 0 0, .bool false, .int .i64 0, .int .i64 0, .int .i64 0, .slice none 0 0, .bool false, .int .i64 0, .int .i64 0, .int .i64 0, .int .u64 0, .int .i64 0, .int .i64 0, .bool false, .int .i64 0, .int .i64 0, .int .u64 0, .slice none 0 0, .bool false, .int .i64 0, .int .u64 0, .slice none 0 0, .int .i64 0, .int .i64 0, .slice none 0 0, .bool false, .int .i64 0, .int .i64 0, .int .i64 0, .slice none 0 0, .bool false, .int .i64 0, .int .i64 0, .int .i64 0, .slice none 0 0, .bool false, .int .i64 0, .int .i64 0, .int .i64 0, .int .i64 0, .int .i64 0, .int .i64 0, .slice none 0 0, .bool false]⟩ := by kernel_rfl
theorem te_88 : Zm Tryz.prog 88 = some ⟨.struct [(0, 4), (1, 34), (23, 87), (94, 3), (95, 82), (96, 83)], 97, 1088, .agg #[.bool false, .int .i64 0, .string ByteArray.empty, .string ByteArray.empty, .slice none 0 0, .int .i64 0, .int .i64 0, .int .i64 0, .int .u64 0, .slice none 0 0, .slice none 0 0, .int .i64 0, .int .i64 0, .int .i64 0, .int .i64 0, .int .i64 0, .int .i64 0, .int .i64 0, .string ByteArray.empty, .int .i64 0, .int .i64 0, .int .i64 0, .slice none 0 0, .int .i64 0, .int .i64 0, .bool false, .slice none 0 0, .int .i64 0, .int .i64 0, .int .i64 0, .int .i64 0, .int .u64 0, .int .i64 0, .int .i64 0, .bool false, .int .i64 0, .int .i64 0, .int .u64 0, .slice none 0 0, .bool false, .int .i64 0, .int .u64 0, .slice none 0 0, .int .i64 0, .int .i64 0, .slice none 0 0, .bool false, .int .i64 0, .int .i64 0, .int .i64 0, .slice none 0 0, .bool false, .int .i64 0, .int .i64 0, .int .i64 0, .slice none 0 0, .bool false, .int .i64 0, .int .i64 0, .int .i64 0, .int .u64 0, .int .i64 0, .int .i64 0, .bool false, .int .i64 0, .int .i64 0, .int .u64 0, .slice none 0 0, .bool false, .int .i64 0, .int .u64 0, .slice none 0 0, .int .i64 0, .int .i64 0, .slice none 0 0, .bool false, .int .i64 0, .int .i64 0, .int .i64 0, .slice none 0 0, .bool false, .int .i64 0, .int .i64 0, .int .i64 0, .slice none 0 0, .bool false, .int .i64 0, .int .i64 0, .int .i64 0, .int .i64 0, .int .i64 0, .int .i64 0, .slice none 0 0, .bool false, .int .i64 0, .slice none 0 0, .slice none 0 0]⟩ := by kernel_rfl
theorem te_89 : Zm Tryz.prog 89 = some ⟨.struct [(0, 4), (1, 34), (23, 87), (94, 3), (95, 82), (96, 83)], 97, 1088, .agg #[.bool false, .int .i64 0, .string ByteArray.empty, .string ByteArray.empty, .slice none 0 0, .int .i64 0, .int .i64 0, .int .i64 0, .int .u64 0, .slice none 0 0, .slice none 0 0, .int .i64 0, .int .i64 0, .int .i64 0, .int .i64 0, .int .i64 0, .int .i64 0, .int .i64 0, .string ByteArray.empty, .int .i64 0, .int .i64 0, .int .i64 0, .slice none 0 0, .int .i64 0, .int .i64 0, .bool false, .slice none 0 0, .int .i64 0, .int .i64 0, .int .i64 0, .int .i64 0, .int .u64 0, .int .i64 0, .int .i64 0, .bool false, .int .i64 0, .int .i64 0, .int .u64 0, .slice none 0 0, .bool false, .int .i64 0, .int .u64 0, .slice none 0 0, .int .i64 0, .int .i64 0, .slice none 0 0, .bool false, .int .i64 0, .int .i64 0, .int .i64 0, .slice none 0 0, .bool false, .int .i64 0, .int .i64 0, .int .i64 0, .slice none 0 0, .bool false, .int .i64 0, .int .i64 0, .int .i64 0, .int .u64 0, .int .i64 0, .int .i64 0, .bool false, .int .i64 0, .int .i64 0, .int .u64 0, .slice none 0 0, .bool false, .int .i64 0, .int .u64 0, .slice none 0 0, .int .i64 0, .int .i64 0, .slice none 0 0, .bool false, .int .i64 0, .int .i64 0, .int .i64 0, .slice none 0 0, .bool false, .int .i64 0, .int .i64 0, .int .i64 0, .slice none 0 0, .bool false, .int .i64 0, .int .i64 0, .int .i64 0, .int .i64 0, .int .i64 0, .int .i64 0, .slice none 0 0, .bool false, .int .i64 0, .slice none 0 0, .slice none 0 0]⟩ := by kernel_rfl
theorem te_91 : Zm Tryz.prog 91 = some ⟨.ptr 89, 1, 8, .pointer none⟩ := by kernel_rfl
theorem N5 : Zm Tryz.prog 102 = some ⟨.struct [(0, 26), (1, 26)], 2, 16, .agg #[.int .u64 0, .int .u64 0]⟩ := by kernel_rfl
theorem N6 : Zm Tryz.prog 103 = some ⟨.struct [(0, 26), (1, 26)], 2, 16, .agg #[.int .u64 0, .int .u64 0]⟩ := by kernel_rfl
theorem N7 : Zm Tryz.prog 105 = some ⟨.array 13 4, 13, 13, .agg #[.bool false, .bool false, .bool false, .bool false, .bool false, .bool false, .bool false, .bool false, .bool false, .bool false, .bool false, .bool false, .bool false]⟩ := by kernel_rfl
theorem N8 : Zm Tryz.prog 138 = some ⟨.struct [(0, 9), (1, 3), (2, 3)], 3, 32, .agg #[.string ByteArray.empty, .int .i64 0, .int .i64 0]⟩ := by kernel_rfl
theorem N9 : Zm Tryz.prog 139 = some ⟨.struct [(0, 9), (1, 3), (2, 3)], 3, 32, .agg #[.string ByteArray.empty, .int .i64 0, .int .i64 0]⟩ := by kernel_rfl
theorem Na : Zm Tryz.prog 140 = some ⟨.int .u32, 1, 4, .int .u32 0⟩ := by kernel_rfl
theorem Nb : Zm Tryz.prog 187 = some ⟨.slice 26, 1, 24, .slice none 0 0⟩ := by kernel_rfl
theorem Nc : Zm Tryz.prog 194 = some ⟨.struct [(0, 17), (1, 17), (2, 17), (3, 9)], 4, 40, .agg #[.pointer none, .pointer none, .pointer none, .string ByteArray.empty]⟩ := by kernel_rfl
theorem Nf : Zm Tryz.prog 195 = some ⟨.struct [(0, 17), (1, 17), (2, 17), (3, 9)], 4, 40, .agg #[.pointer none, .pointer none, .pointer none, .string ByteArray.empty]⟩ := by kernel_rfl
theorem Ng : Zm Tryz.prog 196 = some ⟨.array 0 16, 0, 0, .agg #[]⟩ := by kernel_rfl
theorem Nh : Zm Tryz.prog 197 = some ⟨.struct [(0, 196)], 0, 0, .agg #[]⟩ := by kernel_rfl
theorem Ni : Zm Tryz.prog 198 = some ⟨.struct [(0, 196)], 0, 0, .agg #[]⟩ := by kernel_rfl
theorem Nj : Zm Tryz.prog 200 = some ⟨.int .u8, 1, 1, .int .u8 0⟩ := by kernel_rfl
theorem Nk : Zm Tryz.prog 201 = some ⟨.int .u8, 1, 1, .int .u8 0⟩ := by kernel_rfl
theorem Nl : Zm Tryz.prog 203 = some ⟨.ptr 5, 1, 8, .pointer none⟩ := by kernel_rfl
theorem Nn : Zm Tryz.prog 204 = some ⟨.int .i32, 1, 4, .int .i32 0⟩ := by kernel_rfl
theorem No : Zm Tryz.prog 205 = some ⟨.int .i32, 1, 4, .int .i32 0⟩ := by kernel_rfl
theorem Np : Zm Tryz.prog 206 = some ⟨.struct [(0, 12), (1, 12), (2, 140), (3, 200), (4, 5), (5, 5), (6, 201), (7, 202), (8, 203), (9, 204), (10, 205)], 11, 48, .agg #[.int .u64 0, .int .u64 0, .int .u32 0, .int .u8 0, .int .u8 0, .int .u8 0, .int .u8 0, .nilFunc, .pointer none, .int .i32 0, .int .i32 0]⟩ := by kernel_rfl
theorem Nq : Zm Tryz.prog 207 = some ⟨.struct [(0, 12), (1, 12), (2, 140), (3, 200), (4, 5), (5, 5), (6, 201), (7, 202), (8, 203), (9, 204), (10, 205)], 11, 48, .agg #[.int .u64 0, .int .u64 0, .int .u32 0, .int .u8 0, .int .u8 0, .int .u8 0, .int .u8 0, .nilFunc, .pointer none, .int .i32 0, .int .i32 0]⟩ := by kernel_rfl
theorem Nr : Zm Tryz.prog 208 = some ⟨.struct [(0, 4), (1, 3), (2, 25)], 3, 40, .agg #[.bool false, .int .i64 0, .slice none 0 0]⟩ := by kernel_rfl
theorem Ns : Zm Tryz.prog 209 = some ⟨.struct [(0, 4), (1, 3), (2, 25)], 3, 40, .agg #[.bool false, .int .i64 0, .slice none 0 0]⟩ := by kernel_rfl
theorem Nt : Zm Tryz.prog 210 = some ⟨.struct [(0, 4), (1, 3), (2, 9), (3, 3)], 4, 40, .agg #[.bool false, .int .i64 0, .string ByteArray.empty, .int .i64 0]⟩ := by kernel_rfl
theorem Nu : Zm Tryz.prog 211 = some ⟨.struct [(0, 4), (1, 3), (2, 9), (3, 3)], 4, 40, .agg #[.bool false, .int .i64 0, .string ByteArray.empty, .int .i64 0]⟩ := by kernel_rfl
def tbl : List (Nat × TE) := [(2, ⟨.int .i64, 1, 8, .int .i64 0⟩),
  (3, ⟨.int .i64, 1, 8, .int .i64 0⟩),
  (4, ⟨.bool, 1, 1, .bool false⟩),
  (5, ⟨.int .u8, 1, 1, .int .u8 0⟩),
  (6, ⟨.int .u8, 1, 1, .int .u8 0⟩),
  (7, ⟨.struct [(0, 2), (1, 3), (2, 4), (3, 6)], 4, 24, .agg #[.int .i64 0, .int .i64 0, .bool false, .int .u8 0]⟩),
  (8, ⟨.struct [(0, 2), (1, 3), (2, 4), (3, 6)], 4, 24, .agg #[.int .i64 0, .int .i64 0, .bool false, .int .u8 0]⟩),
  (9, ⟨.string, 1, 16, .string ByteArray.empty⟩),
  (10, ⟨.string, 1, 16, .string ByteArray.empty⟩),
  (11, ⟨.string, 1, 16, .string ByteArray.empty⟩),
  (12, ⟨.int .u64, 1, 8, .int .u64 0⟩),
  (13, ⟨.struct [(0, 9), (1, 12)], 2, 24, .agg #[.string ByteArray.empty, .int .u64 0]⟩),
  (14, ⟨.struct [(0, 9), (1, 12)], 2, 24, .agg #[.string ByteArray.empty, .int .u64 0]⟩),
  (15, ⟨.ptr 195, 1, 8, .pointer none⟩),
  (16, ⟨.ptr 198, 1, 8, .pointer none⟩),
  (17, ⟨.ptr 207, 1, 8, .pointer none⟩),
  (18, ⟨.struct [(0, 17)], 1, 8, .agg #[.pointer none]⟩),
  (19, ⟨.struct [(0, 17)], 1, 8, .agg #[.pointer none]⟩),
  (21, ⟨.int .i32, 1, 4, .int .i32 0⟩),
  (22, ⟨.slice 3, 1, 24, .slice none 0 0⟩),
  (23, ⟨.struct [(0, 3), (1, 3), (2, 3), (3, 3), (4, 3), (5, 3), (6, 3)], 7, 56, .agg #[.int .i64 0, .int .i64 0, .int .i64 0, .int .i64 0, .int .i64 0, .int .i64 0, .int .i64 0]⟩),
  (24, ⟨.struct [(0, 3), (1, 3), (2, 3), (3, 3), (4, 3), (5, 3), (6, 3)], 7, 56, .agg #[.int .i64 0, .int .i64 0, .int .i64 0, .int .i64 0, .int .i64 0, .int .i64 0, .int .i64 0]⟩),
  (25, ⟨.slice 9, 1, 24, .slice none 0 0⟩),
  (26, ⟨.int .u64, 1, 8, .int .u64 0⟩),
  (27, ⟨.struct [(0, 3), (1, 3), (2, 3), (3, 26)], 4, 32, .agg #[.int .i64 0, .int .i64 0, .int .i64 0, .int .u64 0]⟩),
  (28, ⟨.struct [(0, 3), (1, 3), (2, 3), (3, 26)], 4, 32, .agg #[.int .i64 0, .int .i64 0, .int .i64 0, .int .u64 0]⟩),
  (29, ⟨.slice 51, 1, 24, .slice none 0 0⟩),
  (30, ⟨.slice 5, 1, 24, .slice none 0 0⟩),
  (31, ⟨.struct [(0, 3), (1, 9), (2, 3), (3, 3), (4, 3)], 5, 48, .agg #[.int .i64 0, .string ByteArray.empty, .int .i64 0, .int .i64 0, .int .i64 0]⟩),
  (32, ⟨.struct [(0, 3), (1, 9), (2, 3), (3, 3), (4, 3)], 5, 48, .agg #[.int .i64 0, .string ByteArray.empty, .int .i64 0, .int .i64 0, .int .i64 0]⟩),
  (33, ⟨.struct [(0, 3), (1, 9), (2, 9), (3, 25), (4, 28), (8, 29), (9, 30), (10, 3), (11, 3), (12, 3), (13, 3), (14, 3), (15, 3), (16, 32), (21, 30)], 22, 264, .agg #[.int .i64 0, .string ByteArray.empty, .string ByteArray.empty, .slice none 0 0, .int .i64 0, .int .i64 0, .int .i64 0, .int .u64 0, .slice none 0 0, .slice none 0 0, .int .i64 0, .int .i64 0, .int .i64 0, .int .i64 0, .int .i64 0, .int .i64 0, .int .i64 0, .string ByteArray.empty, .int .i64 0, .int .i64 0, .int .i64 0, .slice none 0 0]⟩),
  (34, ⟨.struct [(0, 3), (1, 9), (2, 9), (3, 25), (4, 28), (8, 29), (9, 30), (10, 3), (11, 3), (12, 3), (13, 3), (14, 3), (15, 3), (16, 32), (21, 30)], 22, 264, .agg #[.int .i64 0, .string ByteArray.empty, .string ByteArray.empty, .slice none 0 0, .int .i64 0, .int .i64 0, .int .i64 0, .int .u64 0, .slice none 0 0, .slice none 0 0, .int .i64 0, .int .i64 0, .int .i64 0, .int .i64 0, .int .i64 0, .int .i64 0, .int .i64 0, .string ByteArray.empty, .int .i64 0, .int .i64 0, .int .i64 0, .slice none 0 0]⟩),
  (41, ⟨.slice 89, 1, 24, .slice none 0 0⟩),
  (42, ⟨.int .i64, 1, 8, .int .i64 0⟩),
  (48, ⟨.int .u64, 1, 8, .int .u64 0⟩),
  (50, ⟨.struct [(0, 9), (1, 3)], 2, 24, .agg #[.string ByteArray.empty, .int .i64 0]⟩),
  (51, ⟨.struct [(0, 9), (1, 3)], 2, 24, .agg #[.string ByteArray.empty, .int .i64 0]⟩),
  (58, ⟨.struct [(0, 3), (1, 3), (2, 4)], 3, 24, .agg #[.int .i64 0, .int .i64 0, .bool false]⟩),
  (59, ⟨.struct [(0, 3), (1, 3), (2, 4)], 3, 24, .agg #[.int .i64 0, .int .i64 0, .bool false]⟩),
  (60, ⟨.struct [(0, 3), (1, 3), (2, 26), (3, 22), (4, 4)], 5, 56, .agg #[.int .i64 0, .int .i64 0, .int .u64 0, .slice none 0 0, .bool false]⟩),
  (61, ⟨.struct [(0, 3), (1, 3), (2, 26), (3, 22), (4, 4)], 5, 56, .agg #[.int .i64 0, .int .i64 0, .int .u64 0, .slice none 0 0, .bool false]⟩),
  (62, ⟨.struct [(0, 3), (1, 26), (2, 22)], 3, 40, .agg #[.int .i64 0, .int .u64 0, .slice none 0 0]⟩),
  (63, ⟨.struct [(0, 3), (1, 26), (2, 22)], 3, 40, .agg #[.int .i64 0, .int .u64 0, .slice none 0 0]⟩),
  (64, ⟨.slice 139, 1, 24, .slice none 0 0⟩),
  (65, ⟨.struct [(0, 3), (1, 3), (2, 64), (3, 4)], 4, 48, .agg #[.int .i64 0, .int .i64 0, .slice none 0 0, .bool false]⟩),
  (66, ⟨.struct [(0, 3), (1, 3), (2, 64), (3, 4)], 4, 48, .agg #[.int .i64 0, .int .i64 0, .slice none 0 0, .bool false]⟩),
  (67, ⟨.struct [(0, 3), (1, 3), (2, 3), (3, 64), (4, 4)], 5, 56, .agg #[.int .i64 0, .int .i64 0, .int .i64 0, .slice none 0 0, .bool false]⟩),
  (68, ⟨.struct [(0, 3), (1, 3), (2, 3), (3, 64), (4, 4)], 5, 56, .agg #[.int .i64 0, .int .i64 0, .int .i64 0, .slice none 0 0, .bool false]⟩),
  (69, ⟨.slice 25, 1, 24, .slice none 0 0⟩),
  (70, ⟨.struct [(0, 3), (1, 3), (2, 3), (3, 69), (4, 4)], 5, 56, .agg #[.int .i64 0, .int .i64 0, .int .i64 0, .slice none 0 0, .bool false]⟩),
  (71, ⟨.struct [(0, 3), (1, 3), (2, 3), (3, 69), (4, 4)], 5, 56, .agg #[.int .i64 0, .int .i64 0, .int .i64 0, .slice none 0 0, .bool false]⟩),
  (72, ⟨.struct [(0, 28), (4, 59), (7, 61), (12, 63), (15, 66), (19, 68), (24, 71)], 29, 312, .agg #[.int .i64 0, .int .i64 0, .int .i64 0, .int .u64 0, .int .i64 0, .int .i64 0, .bool false, .int .i64 0, .int .i64 0, .int .u64 0, .slice none 0 0, .bool false, .int .i64 0, .int .u64 0, .slice none 0 0, .int .i64 0, .int .i64 0, .slice none 0 0, .bool false, .int .i64 0, .int .i64 0, .int .i64 0, .slice none 0 0, .bool false, .int .i64 0, .int .i64 0, .int .i64 0, .slice none 0 0, .bool false]⟩),
  (73, ⟨.struct [(0, 28), (4, 59), (7, 61), (12, 63), (15, 66), (19, 68), (24, 71)], 29, 312, .agg #[.int .i64 0, .int .i64 0, .int .i64 0, .int .u64 0, .int .i64 0, .int .i64 0, .bool false, .int .i64 0, .int .i64 0, .int .u64 0, .slice none 0 0, .bool false, .int .i64 0, .int .u64 0, .slice none 0 0, .int .i64 0, .int .i64 0, .slice none 0 0, .bool false, .int .i64 0, .int .i64 0, .int .i64 0, .slice none 0 0, .bool false, .int .i64 0, .int .i64 0, .int .i64 0, .slice none 0 0, .bool false]⟩),
  (82, ⟨.slice 209, 1, 24, .slice none 0 0⟩),
  (83, ⟨.slice 211, 1, 24, .slice none 0 0⟩),
  (84, ⟨.struct [(0, 3), (1, 3)], 2, 16, .agg #[.int .i64 0, .int .i64 0]⟩),
  (85, ⟨.struct [(0, 3), (1, 3)], 2, 16, .agg #[.int .i64 0, .int .i64 0]⟩),
  (86, ⟨.struct [(0, 3), (1, 3), (2, 4), (3, 22), (4, 3), (5, 73), (34, 73), (63, 3), (64, 3), (65, 3), (66, 3), (67, 85), (69, 30), (70, 4)], 71, 760, .agg #[.int .i64 0, .int .i64 0, .bool false, .slice none 0 0, .int .i64 0, .int .i64 0, .int .i64 0, .int .i64 0, .int .u64 0, .int .i64 0, .int .i64 0, .bool false, .int .i64 0, .int .i64 0, .int .u64 0, .slice none 0 0, .bool false, .int .i64 0, .int .u64 0, .slice none 0 0, .int .i64 0, .int .i64 0, .slice none 0 0, .bool false, .int .i64 0, .int .i64 0, .int .i64 0, .slice none 0 0, .bool false, .int .i64 0, .int .i64 0, .int .i64 0, .slice none 0 0, .bool false, .int .i64 0, .int .i64 0, .int .i64 0, .int .u64 0, .int .i64 0, .int .i64 0, .bool false, .int .i64 0, .int .i64 0, .int .u64 0, .slice none 0 0, .bool false, .int .i64 0, .int .u64 0, .slice none 0 0, .int .i64 0, .int .i64 0, .slice none 0 0, .bool false, .int .i64 0, .int .i64 0, .int .i64 0, .slice none 0 0, .bool false, .int .i64 0, .int .i64 0, .int .i64 0, .slice none 0 0, .bool false, .int .i64 0, .int .i64 0, .int .i64 0, .int .i64 0, .int .i64 0, .int .i64 0, .slice none 0 0, .bool false]⟩),
  (87, ⟨.struct [(0, 3), (1, 3), (2, 4), (3, 22), (4, 3), (5, 73), (34, 73), (63, 3), (64, 3), (65, 3), (66, 3), (67, 85), (69, 30), (70, 4)], 71, 760, .agg #[.int .i64 0, .int .i64 0, .bool false, .slice none 0 0, .int .i64 0, .int .i64 0, .int .i64 0, .int .i64 0, .int .u64 0, .int .i64 0, .int .i64 0, .bool false, .int .i64 0, .int .i64 0, .int .u64 0, .slice none 0 0, .bool false, .int .i64 0, .int .u64 0, .slice none 0 0, .int .i64 0, .int .i64 0, .slice none 0 0, .bool false, .int .i64 0, .int .i64 0, .int .i64 0, .slice none 0 0, .bool false, .int .i64 0, .int .i64 0, .int .i64 0, .slice none 0 0, .bool false, .int .i64 0, .int .i64 0, .int .i64 0, .int .u64 0, .int .i64 0, .int .i64 0, .bool false, .int .i64 0, .int .i64 0, .int .u64 0, .slice none 0 0, .bool false, .int .i64 0, .int .u64 0, .slice none 0 0, .int .i64 0, .int .i64 0, .slice none 0 0, .bool false, .int .i64 0, .int .i64 0, .int .i64 0, .slice none 0 0, .bool false, .int .i64 0, .int .i64 0, .int .i64 0, .slice none 0 0, .bool false, .int .i64 0, .int .i64 0, .int .i64 0, .int .i64 0, .int .i64 0, .int .i64 0, .slice none 0 0, .bool false]⟩),
  (88, ⟨.struct [(0, 4), (1, 34), (23, 87), (94, 3), (95, 82), (96, 83)], 97, 1088, .agg #[.bool false, .int .i64 0, .string ByteArray.empty, .string ByteArray.empty, .slice none 0 0, .int .i64 0, .int .i64 0, .int .i64 0, .int .u64 0, .slice none 0 0, .slice none 0 0, .int .i64 0, .int .i64 0, .int .i64 0, .int .i64 0, .int .i64 0, .int .i64 0, .int .i64 0, .string ByteArray.empty, .int .i64 0, .int .i64 0, .int .i64 0, .slice none 0 0, .int .i64 0, .int .i64 0, .bool false, .slice none 0 0, .int .i64 0, .int .i64 0, .int .i64 0, .int .i64 0, .int .u64 0, .int .i64 0, .int .i64 0, .bool false, .int .i64 0, .int .i64 0, .int .u64 0, .slice none 0 0, .bool false, .int .i64 0, .int .u64 0, .slice none 0 0, .int .i64 0, .int .i64 0, .slice none 0 0, .bool false, .int .i64 0, .int .i64 0, .int .i64 0, .slice none 0 0, .bool false, .int .i64 0, .int .i64 0, .int .i64 0, .slice none 0 0, .bool false, .int .i64 0, .int .i64 0, .int .i64 0, .int .u64 0, .int .i64 0, .int .i64 0, .bool false, .int .i64 0, .int .i64 0, .int .u64 0, .slice none 0 0, .bool false, .int .i64 0, .int .u64 0, .slice none 0 0, .int .i64 0, .int .i64 0, .slice none 0 0, .bool false, .int .i64 0, .int .i64 0, .int .i64 0, .slice none 0 0, .bool false, .int .i64 0, .int .i64 0, .int .i64 0, .slice none 0 0, .bool false, .int .i64 0, .int .i64 0, .int .i64 0, .int .i64 0, .int .i64 0, .int .i64 0, .slice none 0 0, .bool false, .int .i64 0, .slice none 0 0, .slice none 0 0]⟩),
  (89, ⟨.struct [(0, 4), (1, 34), (23, 87), (94, 3), (95, 82), (96, 83)], 97, 1088, .agg #[.bool false, .int .i64 0, .string ByteArray.empty, .string ByteArray.empty, .slice none 0 0, .int .i64 0, .int .i64 0, .int .i64 0, .int .u64 0, .slice none 0 0, .slice none 0 0, .int .i64 0, .int .i64 0, .int .i64 0, .int .i64 0, .int .i64 0, .int .i64 0, .int .i64 0, .string ByteArray.empty, .int .i64 0, .int .i64 0, .int .i64 0, .slice none 0 0, .int .i64 0, .int .i64 0, .bool false, .slice none 0 0, .int .i64 0, .int .i64 0, .int .i64 0, .int .i64 0, .int .u64 0, .int .i64 0, .int .i64 0, .bool false, .int .i64 0, .int .i64 0, .int .u64 0, .slice none 0 0, .bool false, .int .i64 0, .int .u64 0, .slice none 0 0, .int .i64 0, .int .i64 0, .slice none 0 0, .bool false, .int .i64 0, .int .i64 0, .int .i64 0, .slice none 0 0, .bool false, .int .i64 0, .int .i64 0, .int .i64 0, .slice none 0 0, .bool false, .int .i64 0, .int .i64 0, .int .i64 0, .int .u64 0, .int .i64 0, .int .i64 0, .bool false, .int .i64 0, .int .i64 0, .int .u64 0, .slice none 0 0, .bool false, .int .i64 0, .int .u64 0, .slice none 0 0, .int .i64 0, .int .i64 0, .slice none 0 0, .bool false, .int .i64 0, .int .i64 0, .int .i64 0, .slice none 0 0, .bool false, .int .i64 0, .int .i64 0, .int .i64 0, .slice none 0 0, .bool false, .int .i64 0, .int .i64 0, .int .i64 0, .int .i64 0, .int .i64 0, .int .i64 0, .slice none 0 0, .bool false, .int .i64 0, .slice none 0 0, .slice none 0 0]⟩),
  (91, ⟨.ptr 89, 1, 8, .pointer none⟩),
  (102, ⟨.struct [(0, 26), (1, 26)], 2, 16, .agg #[.int .u64 0, .int .u64 0]⟩),
  (103, ⟨.struct [(0, 26), (1, 26)], 2, 16, .agg #[.int .u64 0, .int .u64 0]⟩),
  (105, ⟨.array 13 4, 13, 13, .agg #[.bool false, .bool false, .bool false, .bool false, .bool false, .bool false, .bool false, .bool false, .bool false, .bool false, .bool false, .bool false, .bool false]⟩),
  (138, ⟨.struct [(0, 9), (1, 3), (2, 3)], 3, 32, .agg #[.string ByteArray.empty, .int .i64 0, .int .i64 0]⟩),
  (139, ⟨.struct [(0, 9), (1, 3), (2, 3)], 3, 32, .agg #[.string ByteArray.empty, .int .i64 0, .int .i64 0]⟩),
  (140, ⟨.int .u32, 1, 4, .int .u32 0⟩),
  (187, ⟨.slice 26, 1, 24, .slice none 0 0⟩),
  (194, ⟨.struct [(0, 17), (1, 17), (2, 17), (3, 9)], 4, 40, .agg #[.pointer none, .pointer none, .pointer none, .string ByteArray.empty]⟩),
  (195, ⟨.struct [(0, 17), (1, 17), (2, 17), (3, 9)], 4, 40, .agg #[.pointer none, .pointer none, .pointer none, .string ByteArray.empty]⟩),
  (196, ⟨.array 0 16, 0, 0, .agg #[]⟩),
  (197, ⟨.struct [(0, 196)], 0, 0, .agg #[]⟩),
  (198, ⟨.struct [(0, 196)], 0, 0, .agg #[]⟩),
  (200, ⟨.int .u8, 1, 1, .int .u8 0⟩),
  (201, ⟨.int .u8, 1, 1, .int .u8 0⟩),
  (203, ⟨.ptr 5, 1, 8, .pointer none⟩),
  (204, ⟨.int .i32, 1, 4, .int .i32 0⟩),
  (205, ⟨.int .i32, 1, 4, .int .i32 0⟩),
  (206, ⟨.struct [(0, 12), (1, 12), (2, 140), (3, 200), (4, 5), (5, 5), (6, 201), (7, 202), (8, 203), (9, 204), (10, 205)], 11, 48, .agg #[.int .u64 0, .int .u64 0, .int .u32 0, .int .u8 0, .int .u8 0, .int .u8 0, .int .u8 0, .nilFunc, .pointer none, .int .i32 0, .int .i32 0]⟩),
  (207, ⟨.struct [(0, 12), (1, 12), (2, 140), (3, 200), (4, 5), (5, 5), (6, 201), (7, 202), (8, 203), (9, 204), (10, 205)], 11, 48, .agg #[.int .u64 0, .int .u64 0, .int .u32 0, .int .u8 0, .int .u8 0, .int .u8 0, .int .u8 0, .nilFunc, .pointer none, .int .i32 0, .int .i32 0]⟩),
  (208, ⟨.struct [(0, 4), (1, 3), (2, 25)], 3, 40, .agg #[.bool false, .int .i64 0, .slice none 0 0]⟩),
  (209, ⟨.struct [(0, 4), (1, 3), (2, 25)], 3, 40, .agg #[.bool false, .int .i64 0, .slice none 0 0]⟩),
  (210, ⟨.struct [(0, 4), (1, 3), (2, 9), (3, 3)], 4, 40, .agg #[.bool false, .int .i64 0, .string ByteArray.empty, .int .i64 0]⟩),
  (211, ⟨.struct [(0, 4), (1, 3), (2, 9), (3, 3)], 4, 40, .agg #[.bool false, .int .i64 0, .string ByteArray.empty, .int .i64 0]⟩)]
theorem Mw : ∀ y ∈ tbl, Zm Tryz.prog y.1 = some y.2 :=
  (List.forall_mem_cons.2 ⟨te_2, (List.forall_mem_cons.2 ⟨te_3, (List.forall_mem_cons.2 ⟨te_4, (List.forall_mem_cons.2 ⟨te_5, (List.forall_mem_cons.2 ⟨te_6, (List.forall_mem_cons.2 ⟨te_7, (List.forall_mem_cons.2 ⟨te_8, (List.forall_mem_cons.2 ⟨te_9, (List.forall_mem_cons.2 ⟨te_10, (List.forall_mem_cons.2 ⟨te_11, (List.forall_mem_cons.2 ⟨te_12, (List.forall_mem_cons.2 ⟨te_13, (List.forall_mem_cons.2 ⟨te_14, (List.forall_mem_cons.2 ⟨te_15, (List.forall_mem_cons.2 ⟨te_16, (List.forall_mem_cons.2 ⟨te_17, (List.forall_mem_cons.2 ⟨te_18, (List.forall_mem_cons.2 ⟨te_19, (List.forall_mem_cons.2 ⟨te_21, (List.forall_mem_cons.2 ⟨te_22, (List.forall_mem_cons.2 ⟨te_23, (List.forall_mem_cons.2 ⟨te_24, (List.forall_mem_cons.2 ⟨te_25, (List.forall_mem_cons.2 ⟨te_26, (List.forall_mem_cons.2 ⟨te_27, (List.forall_mem_cons.2 ⟨te_28, (List.forall_mem_cons.2 ⟨te_29, (List.forall_mem_cons.2 ⟨te_30, (List.forall_mem_cons.2 ⟨te_31, (List.forall_mem_cons.2 ⟨te_32, (List.forall_mem_cons.2 ⟨te_33, (List.forall_mem_cons.2 ⟨te_34, (List.forall_mem_cons.2 ⟨te_41, (List.forall_mem_cons.2 ⟨te_42, (List.forall_mem_cons.2 ⟨te_48, (List.forall_mem_cons.2 ⟨te_50, (List.forall_mem_cons.2 ⟨te_51, (List.forall_mem_cons.2 ⟨te_58, (List.forall_mem_cons.2 ⟨te_59, (List.forall_mem_cons.2 ⟨te_60, (List.forall_mem_cons.2 ⟨te_61, (List.forall_mem_cons.2 ⟨te_62, (List.forall_mem_cons.2 ⟨te_63, (List.forall_mem_cons.2 ⟨te_64, (List.forall_mem_cons.2 ⟨te_65, (List.forall_mem_cons.2 ⟨te_66, (List.forall_mem_cons.2 ⟨te_67, (List.forall_mem_cons.2 ⟨te_68, (List.forall_mem_cons.2 ⟨te_69, (List.forall_mem_cons.2 ⟨te_70, (List.forall_mem_cons.2 ⟨te_71, (List.forall_mem_cons.2 ⟨te_72, (List.forall_mem_cons.2 ⟨te_73, (List.forall_mem_cons.2 ⟨te_82, (List.forall_mem_cons.2 ⟨te_83, (List.forall_mem_cons.2 ⟨te_84, (List.forall_mem_cons.2 ⟨te_85, (List.forall_mem_cons.2 ⟨te_86, (List.forall_mem_cons.2 ⟨te_87, (List.forall_mem_cons.2 ⟨te_88, (List.forall_mem_cons.2 ⟨te_89, (List.forall_mem_cons.2 ⟨te_91, (List.forall_mem_cons.2 ⟨N5, (List.forall_mem_cons.2 ⟨N6, (List.forall_mem_cons.2 ⟨N7, (List.forall_mem_cons.2 ⟨N8, (List.forall_mem_cons.2 ⟨N9, (List.forall_mem_cons.2 ⟨Na, (List.forall_mem_cons.2 ⟨Nb, (List.forall_mem_cons.2 ⟨Nc, (List.forall_mem_cons.2 ⟨Nf, (List.forall_mem_cons.2 ⟨Ng, (List.forall_mem_cons.2 ⟨Nh, (List.forall_mem_cons.2 ⟨Ni, (List.forall_mem_cons.2 ⟨Nj, (List.forall_mem_cons.2 ⟨Nk, (List.forall_mem_cons.2 ⟨Nl, (List.forall_mem_cons.2 ⟨Nn, (List.forall_mem_cons.2 ⟨No, (List.forall_mem_cons.2 ⟨Np, (List.forall_mem_cons.2 ⟨Nq, (List.forall_mem_cons.2 ⟨Nr, (List.forall_mem_cons.2 ⟨Ns, (List.forall_mem_cons.2 ⟨Nt, (List.forall_mem_cons.2 ⟨Nu, (by simp)⟩)⟩)⟩)⟩)⟩)⟩)⟩)⟩)⟩)⟩)⟩)⟩)⟩)⟩)⟩)⟩)⟩)⟩)⟩)⟩)⟩)⟩)⟩)⟩)⟩)⟩)⟩)⟩)⟩)⟩)⟩)⟩)⟩)⟩)⟩)⟩)⟩)⟩)⟩)⟩)⟩)⟩)⟩)⟩)⟩)⟩)⟩)⟩)⟩)⟩)⟩)⟩)⟩)⟩)⟩)⟩)⟩)⟩)⟩)⟩)⟩)⟩)⟩)⟩)⟩)⟩)⟩)⟩)⟩)⟩)⟩)⟩)⟩)⟩)⟩)⟩)⟩)⟩)⟩)⟩)⟩)⟩)⟩)⟩)⟩)
def tb : Tb Tryz.prog := ⟨tbl, tb_of Mw⟩
theorem mixed : Tryz.prog.follows .mixedOrders = true := by kernel_rfl
end Go.Proofs.YthpbblhpapnbfaaGreat

namespace Go.Proofs.YthpbblhpapnbfaaGreat
open Go.RowKit
def Ey (b : Nat) (cs : Array Value) (t : TypeId) (w : World) : Prop := w.heap[b]? = some (.cells cs t (0, 0))
theorem Ey.lt {b : Nat} {cs : Array Value} {t : TypeId} {w : World} (h : Ey b cs t w) : b < w.heap.size := by
  unfold Ey at h
  exact (Array.getElem?_eq_some_iff.mp h).1
theorem Ey.cell {b : Nat} {cs : Array Value} {t : TypeId} {w : World} (h : Ey b cs t w) (i : Nat) {v : Value} (hi : cs[i]? = some v) : w.cell? ⟨b, i, none⟩ = some v := by
  unfold Ey at h
  simp [World.cell?, h, hi]
theorem Ey.new (w : World) (cs : Array Value) (t : TypeId) : Ey w.heap.size cs t (w.alloc (.cells cs t)) := by
  unfold Ey
  show (w.heap.push (.cells cs t))[w.heap.size]? = _
  simp
theorem Ey.set {b : Nat} {cs : Array Value} {t : TypeId} {w : World} (h : Ey b cs t w) (o : Nat) (v : Value) : Ey b (cs.setIfInBounds o v) t (w.setCell ⟨b, o, none⟩ v) := by
  unfold Ey at *
  simp [World.setCell, Array.getElem?_modify, h]
theorem Ey.drew {b : Nat} {cs : Array Value} {t : TypeId} {w : World} (h : Ey b cs t w) : Ey b cs t w.drew := h
def Row (k : IntKind) (t : TypeId) (g : Nat) (l : List Int) (w : World) : Prop := ∃ cur : Array Value, Ey g cur t w ∧ l.length ≤ cur.size ∧ ∀ i, i < l.length → cur[i]? = some (.int k (gI l i))
theorem Row.drew {k : IntKind} {t : TypeId} {g : Nat} {l : List Int} {w : World} (h : Row k t g l w) : Row k t g l w.drew := h
theorem Row.lt {k : IntKind} {t : TypeId} {g : Nat} {l : List Int} {w : World} (h : Row k t g l w) : g < w.heap.size := by
  obtain ⟨cur, h1, h2⟩ := h
  exact h1.lt
theorem Row.cell {k : IntKind} {t : TypeId} {g : Nat} {l : List Int} {w : World} (h : Row k t g l w) {i : Nat} (hi : i < l.length) : w.cell? ⟨g, i, none⟩ = some (.int k (gI l i)) := by
  obtain ⟨cur, h1, h2, h3⟩ := h
  exact h1.cell i (h3 i hi)
theorem Row.set {k : IntKind} {t : TypeId} {g : Nat} {l : List Int} {w : World} (h : Row k t g l w) (i : Nat) (x : Int) : Row k t g (l.set i x) (w.setCell ⟨g, i, none⟩ (.int k x)) := by
  obtain ⟨cur, h1, h2, h3⟩ := h
  refine ⟨_, h1.set i (.int k x), by simpa using h2, fun j hj => ?_⟩
  simp only [List.length_set] at hj
  rw [Array.getElem?_setIfInBounds]
  by_cases e : i = j
  · subst e
    rw [if_pos rfl, if_pos (by omega)]
    simp [gI, List.getD_eq_getElem?_getD, List.getElem?_set, hj]
  · rw [if_neg e, h3 j hj]
    simp [gI, List.getD_eq_getElem?_getD, List.getElem?_set, e]
def IL (p q : Nat) (w w' : World) : Prop := w'.os = w.os ∧ w'.tape = w.tape ∧ w'.output = w.output ∧ w.heap.size ≤ w'.heap.size ∧ ∀ k, k < w.heap.size → k ≠ p → k ≠ q → w'.heap[k]? = w.heap[k]?
theorem IL.refl (p q : Nat) (w : World) : IL p q w w := ⟨rfl, rfl, rfl, Nat.le_refl _, fun _ _ _ _ => rfl⟩
theorem IL.size {p q : Nat} {w w' : World} (h : IL p q w w') : w.heap.size ≤ w'.heap.size := h.2.2.2.1
theorem IL.grown {p q : Nat} {w w1 w2 : World} (h : IL p q w w1) (g : w1.grownBy w2 none) : IL p q w w2 := by
  obtain ⟨h1, h2, h3, h4, h5⟩ := h
  exact ⟨g.os.trans h1, g.tape.trans h2, g.output.trans h3, Nat.le_trans h4 g.size, fun k hk hp hq => (g.block k (Nat.lt_of_lt_of_le hk h4) (by simp)).trans (h5 k hk hp hq)⟩
theorem IL.drew {p q : Nat} {w w1 : World} (h : IL p q w w1) : IL p q w w1.drew := h
end Go.Proofs.YthpbblhpapnbfaaGreat
namespace Go.Proofs.YthpbblhpapnbfaaGreat
open Go.RowKit Go.ChangeShapes Go.WideShapes
def YI (k : Int) : List Int :=
  if k = 1 then [0, 3] else if k = 2 then [0] else if k = 3 then [0, 1] else if k = 5 then [0, 12] else if k = 6 then [0, 4, 5] else if k = 7 then [0, 1, 5] else if k = 8 then [0, 1, 5, 6, 7]
  else if k = 9 then [2] else if k = 10 then [8, 9, 12] else if k = 11 then [8] else if k = 12 ∨ k = 15 then [8, 9] else if k = 13 then [10, 11] else if k = 14 then [10] else if k = 16 then [0, 13] else []
def Ky (k : Int) : Prop := 1 ≤ k ∧ k ≤ 17
instance (k : Int) : Decidable (Ky k) := by unfold Ky; infer_instance
def CY (k : Int) : Bool := decide (Ky k ∧ ¬ (k = 6 ∨ k = 7 ∨ k = 8 ∨ k = 9 ∨ k = 15 ∨ k = 16 ∨ k = 17))
theorem FO {k : Int} (h : Ky k) : k = 1 ∨ k = 2 ∨ k = 3 ∨ k = 4 ∨ k = 5 ∨ k = 6 ∨ k = 7 ∨ k = 8 ∨ k = 9 ∨ k = 10 ∨ k = 11 ∨ k = 12 ∨ k = 13 ∨ k = 14 ∨ k = 15 ∨ k = 16 ∨ k = 17 := by
  obtain ⟨h1, h2⟩ := h; omega
theorem Io {k : Int} (h : ¬ Ky k) : (k == 1) = false ∧ (k == 2) = false ∧ (k == 3) = false ∧ (k == 4) = false ∧ (k == 5) = false ∧ (k == 6) = false ∧ (k == 7) = false ∧ (k == 8) = false ∧ (k == 9) = false ∧ (k == 10) = false ∧ (k == 11) = false ∧ (k == 12) = false ∧ (k == 13) = false ∧ (k == 14) = false ∧ (k == 15) = false ∧ (k == 16) = false ∧ (k == 17) = false := by
  unfold Ky at h
  refine ⟨?_, ?_, ?_, ?_, ?_, ?_, ?_, ?_, ?_, ?_, ?_, ?_, ?_, ?_, ?_, ?_, ?_⟩ <;> exact beq_eq_false_iff_ne.2 (by omega)
theorem LP {P : Program} {T e : TypeId} (hT : P.underlying T = some (.slice e)) (d : Nat) (a : Addr) (n c : Nat) (w : World) : Sem.run P (Op.equalIn (d + 1) T (.slice (some a) n c) (.slice none 0 0)) w = .ok false w := by
  simp [Op.equalIn, run_underlying hT]
theorem Mx {P : Program} {T e : TypeId} (hT : P.underlying T = some (.slice e)) (a : Addr) (n c : Nat) (w : World) : Sem.run P (binOp .neq T (.slice (some a) n c) (.slice none 0 0)) w = .ok (.bool true) w := by
  have h := LP hT 9999 a n c w
  show Sem.run P (do let b ← Op.equalIn (9999 + 1) T (.slice (some a) n c) (.slice none 0 0); pure (Value.bool (!b)) : Sem Value) w = _
  generalize Op.equalIn (9999 + 1) T (.slice (some a) n c) (.slice none 0 0) = q at *
  simp [h]
theorem IM {P : Program} {T e : TypeId} (hT : P.underlying T = some (.slice e)) (d : Nat) (w : World) : Sem.run P (Op.equalIn (d + 1) T (.slice none 0 0) (.slice none 0 0)) w = .ok true w := by
  simp [Op.equalIn, run_underlying hT]
theorem LQ {P : Program} {T e : TypeId} (hT : P.underlying T = some (.slice e)) (w : World) : Sem.run P (binOp .neq T (.slice none 0 0) (.slice none 0 0)) w = .ok (.bool false) w := by
  have h := IM hT 9999 w
  show Sem.run P (do let b ← Op.equalIn (9999 + 1) T (.slice none 0 0) (.slice none 0 0); pure (Value.bool (!b)) : Sem Value) w = _
  generalize Op.equalIn (9999 + 1) T (.slice none 0 0) (.slice none 0 0) = q at *
  simp [h]
theorem GJ (w : World) (e : TypeId) (l : List Int) (cs : Array Value) (n : Nat) (h : cs.toList = l.map (.int .i64)) (hl : l.length = n) (hn : n ≤ 100) : (w.alloc (.cells cs e)).ownsRow w.heap.size e 1 (.slice (some ⟨w.heap.size, 0, none⟩) n n) n (l.map (.int .i64)) := by
  have hs : cs.size = n * 1 := by rw [← Array.length_toList, h, List.length_map, hl, Nat.mul_one]
  have := World.ownsRow_lit (e := e) w cs n (Nat.le_refl _) (by unfold maxLen; omega) (by omega)
  rw [h] at this
  exact this
set_option maxRecDepth 100000 in
set_option maxHeartbeats 1600000 in
theorem LR (k : Int) (w : World) (hk : Ky k) :
    Calls Tryz.prog 45 #[.int .i64 k] w fun e w' => ∃ a, e = .returned (.slice (some a) (YI k).length (YI k).length) ∧ Ints .i64 w' (.slice (some a) (YI k).length (YI k).length) (YI k) ∧ w.grownBy w' none := by
  rcases FO hk with rfl | rfl | rfl | rfl | rfl | rfl | rfl | rfl | rfl | rfl | rfl | rfl | rfl | rfl | rfl | rfl | rfl
  all_goals
    go_enter Tryz.func45, Tryz.ntmps45
    go_wp2
    go_ret
    exact ⟨_, rfl, Cp (GJ w _ _ _ _ rfl rfl (by decide)) (by decide), JR _ _⟩
set_option maxRecDepth 100000 in
theorem My (k : Int) (w : World) (hk : ¬ Ky k) :
    Calls Tryz.prog 45 #[.int .i64 k] w fun e w' => e = .returned (.slice none 0 0) ∧ w = w' := by
  obtain ⟨k1, k2, k3, k4, k5, k6, k7, k8, k9, k10, k11, k12, k13, k14, k15, k16, k17⟩ := Io hk
  clear hk
  go_enter Tryz.func45, Tryz.ntmps45
  go_wp2
  go_ret
  exact ⟨rfl, rfl⟩
set_option maxRecDepth 100000 in
set_option maxHeartbeats 1600000 in
theorem HN (k : Int) (w : World) :
    Calls Tryz.prog 29 #[.int .i64 k] w fun e w' => e = .returned (.bool (CY k)) ∧ w.grownBy w' none := by
  by_cases hk : Ky k
  · have CU := Lib.hid (fun w => LR k w hk)
    have hnn := fun a n c w => Mx (P := Tryz.prog) Tryz.underlying22 a n c w
    rcases FO hk with rfl | rfl | rfl | rfl | rfl | rfl | rfl | rfl | rfl | rfl | rfl | rfl | rfl | rfl | rfl | rfl | rfl
    all_goals
      clear hk
      go_enter Tryz.func29, Tryz.ntmps29
      go_wp2_with fail
      first
        | (go_ret; exact ⟨rfl, XU _⟩)
        | (refine (CU.out _).mono ?_
           rintro e w1 ⟨a, rfl, -, g1⟩
           go_wp2
           go_ret
           exact ⟨rfl, g1⟩)
  · have CU := Lib.hid (fun w => My k w hk)
    have hnn := fun w => LQ (P := Tryz.prog) Tryz.underlying22 w
    have HF : Hid (CY k = false) := by show _ = _; unfold CY; rw [decide_eq_false]; exact fun h => hk h.1
    obtain ⟨k1, k2, k3, k4, k5, k6, k7, k8, k9, k10, k11, k12, k13, k14, k15, k16, k17⟩ := Io hk
    clear hk
    go_enter Tryz.func29, Tryz.ntmps29
    go_wp2_with fail
    refine (CU.out _).mono ?_
    rintro e w1 ⟨rfl, rfl⟩
    go_wp2
    go_ret
    rw [HF.out]
    exact ⟨rfl, XU _⟩
theorem Ez {L : List Int} {k : Int} {i : Nat} (h : i < L.length) (hn : gI L i ≠ k) (ht : (L.take i).contains k = false) : (L.take (i + 1)).contains k = false := by
  rw [Fv h]
  simp only [List.contains_eq_mem, List.mem_append, List.mem_singleton, decide_eq_false_iff_not] at ht ⊢
  rintro (h | h)
  · exact ht h
  · exact hn h.symm
set_option maxRecDepth 100000 in
set_option maxHeartbeats 800000 in
theorem Mz (k : Int) (v : Value) (L : List Int) (w : World) (hv : Ints .i64 w v L) (hl : L.length ≤ 1000) :
    Calls Tryz.prog 49 #[.int .i64 k, v] w fun e w' => e = .returned (.bool (L.contains k)) ∧ w = w' := by
  obtain ⟨a, cap, rfl, h1, h2, -, h4⟩ := hv
  unfold maxLen at h2
  have HC : Hid (∀ i, i < L.length → gI L i = k → L.contains k = true) := fun i hi e => by
    rw [List.contains_eq_mem, decide_eq_true_eq, ← e]; exact Hi hi
  have HE : Hid ((L.take L.length).contains k = false → L.contains k = false) := fun h => by rwa [List.take_length] at h
  have HT : Hid (∀ i, i < L.length → gI L i ≠ k → (L.take i).contains k = false → (L.take (i + 1)).contains k = false) := fun i hi hn ht => Ez hi hn ht
  have hz : Hid ((L.take 0).contains k = false) := by show _ = _; simp
  have H4 := Lib.hid h4
  generalize L.contains k = B at *
  clear h4
  go_enter Tryz.func49, Tryz.ntmps49
  go_wp2_with fail
  go_loop [5] (fun i => ∃ j : Nat, j ≤ L.length ∧ i = .int .i64 j ∧ Hid ((L.take j).contains k = false)) (fun i => L.length - (intOf i).toNat)
  case atStart => exact ⟨0, by omega, rfl, hz⟩
  case round =>
    obtain ⟨j, hj, rfl, ht⟩ := hrel
    by_cases hlt : j < L.length
    · have e1 : (j : Int) < L.length := by omega
      have e2 : (0 : Int) ≤ j := by omega
      rcases H4.out with h4 | ⟨b, off, rfl, hb, hc⟩
      · exfalso; subst h4; simp at hlt
      have y := hc j hlt
      have hc1 := HC.out j hlt
      have ht1 := fun hn => HT.out j hlt hn ht.out
      generalize gI L j = x at *
      clear hc H4
      by_cases hx : x = k
      · have HF := Lib.hid (hc1 hx)
        subst hx
        clear hc1 ht1
        go_wp2
        go_ret
        rw [HF.out]; exact ⟨rfl, rfl⟩
      · have HS := Lib.hid (ht1 hx)
        have hxb : (x == k) = false := beq_eq_false_iff_ne.2 hx
        clear hc1 ht1 hx
        go_wp2
        go_round
        case rel => exact ⟨j + 1, by omega, by go_num, HS⟩
        case measure => simp [intOf]; omega
    · obtain rfl : j = L.length := by omega
      have HF := Lib.hid (HE.out ht.out)
      clear H4
      go_wp2
      go_ret
      rw [HF.out]; exact ⟨rfl, rfl⟩
theorem FP (n a b : Int) (w : World) (h : a ≤ n ∧ n ≤ b) :
    Calls Tryz.prog 48 #[.int .i64 n, .int .i64 a, .int .i64 b] w fun e w' => e = .returned (.bool true) ∧ w = w' := by
  obtain ⟨h1, h2⟩ := h
  have d1 := decide_eq_true h2
  go_enter Tryz.func48, Tryz.ntmps48
  go_wp2
  go_ret
  exact ⟨rfl, rfl⟩
set_option maxRecDepth 100000 in
set_option maxHeartbeats 800000 in
theorem GK (k : Int) (w : World) :
    Calls Tryz.prog 33 #[.int .i64 k] w fun e w' => e = .returned (.bool (CY k)) ∧ w.grownBy w' none := by
  have hI := Cp (GJ w 3 [6, 7, 8, 9, 15, 16, 17] #[.int .i64 6, .int .i64 7, .int .i64 8, .int .i64 9, .int .i64 15, .int .i64 16, .int .i64 17] 7 rfl rfl (by decide)) (by decide)
  have C1 := Lib.hid (Mz k _ [6, 7, 8, 9, 15, 16, 17] _ hI (by decide))
  by_cases hk : Ky k
  · have hs : CY k = !([6, 7, 8, 9, 15, 16, 17] : List Int).contains k := by
      rcases FO hk with rfl | rfl | rfl | rfl | rfl | rfl | rfl | rfl | rfl | rfl | rfl | rfl | rfl | rfl | rfl | rfl | rfl <;> decide
    generalize ([6, 7, 8, 9, 15, 16, 17] : List Int).contains k = B at *
    have HS := Lib.hid hs
    obtain ⟨h1, h2⟩ := hk
    have d1 := decide_eq_true h2
    clear hI hs
    go_enter Tryz.func33, Tryz.ntmps33
    go_wp2_with fail
    refine (FP k 1 17 _ ⟨h1, h2⟩).mono ?_
    rintro e w1 ⟨rfl, rfl⟩
    go_wp2_with fail
    refine C1.out.mono ?_
    rintro e w1 ⟨rfl, rfl⟩
    go_wp2
    go_ret
    rw [HS.out]
    exact ⟨rfl, JR _ _⟩
  · have HF : Hid (CY k = false) := by show _ = _; unfold CY; rw [decide_eq_false]; exact fun h => hk h.1
    clear C1 hI
    by_cases h1 : 1 ≤ k
    · have h2 : ¬ k ≤ 17 := fun h => hk ⟨h1, h⟩
      have d1 := decide_eq_false h2
      clear hk
      go_enter Tryz.func33, Tryz.ntmps33
      go_wp2
      go_ret
      rw [HF.out]
      first | exact ⟨rfl, XU _⟩ | exact ⟨rfl, JR _ _⟩
    · clear hk
      go_enter Tryz.func33, Tryz.ntmps33
      go_wp2
      go_ret
      rw [HF.out]
      first | exact ⟨rfl, XU _⟩ | exact ⟨rfl, JR _ _⟩
end Go.Proofs.YthpbblhpapnbfaaGreat
namespace Go.Proofs.YthpbblhpapnbfaaGreat
open Go.RowKit Go.ChangeShapes Go.WideShapes
structure OpD where
  kind : Int
  name : ByteArray
  other : ByteArray
  names : List ByteArray
  pk : Int
  ps : Int
  pd : Int
  pz : Int
  items : List (ByteArray × Int)
  coins : List Int
  ex : Int
  so : Int
  ha : Int
  ix : Int
  cu : Int
  co : Int
  qk : Int
  qs : ByteArray
  qc : Int
  qn : Int
  qd : Int
  data : List Int
def DV (o : OpD) (f : Nat) : Bool :=
  match f with
  | 0 => o.name.toList == []
  | 1 => o.other.toList == []
  | 2 => decide (o.names.length = 0)
  | 3 => decide (o.pk = 0 ∧ o.ps = 0 ∧ o.pd = 0 ∧ o.pz = 0)
  | 4 => decide (o.items.length = 0)
  | 5 => decide (o.coins.length = 0)
  | 6 => decide (o.ex = 0)
  | 7 => decide (o.so = 0)
  | 8 => decide (o.ha = 0)
  | 9 => decide (o.ix = 0)
  | 10 => decide (o.cu = 0)
  | 11 => decide (o.co = 0)
  | 12 => decide (o.qk = 0 ∧ o.qs.toList = [] ∧ o.qc = 0 ∧ o.qn = 0 ∧ o.qd = 0)
  | _ => decide (o.data.length = 0)
theorem len0 (n : Nat) : ((n : Int) == 0) = decide (n = 0) := by
  by_cases h : n = 0
  · subst h; rfl
  · rw [decide_eq_false h]; exact beq_eq_false_iff_ne.2 (by omega)
theorem Yd {f : Nat} (h : f < 14) : f = 0 ∨ f = 1 ∨ f = 2 ∨ f = 3 ∨ f = 4 ∨ f = 5 ∨ f = 6 ∨ f = 7 ∨ f = 8 ∨ f = 9 ∨ f = 10 ∨ f = 11 ∨ f = 12 ∨ f = 13 := by omega
def LS (B : Nat) (v : Value) : Prop := ∀ a n c, v = .slice (some a) n c → B ≤ a.block
theorem Ints.set {k : IntKind} {w : World} {b off n c : Nat} {l : List Int} (h : Ints k w (.slice (some ⟨b, off, none⟩) n c) l) {b' o : Nat} (u : Value) (hne : b ≠ b') : Ints k (w.setCell ⟨b', o, none⟩ u) (.slice (some ⟨b, off, none⟩) n c) l := by
  obtain ⟨a, cap, he, h1, h2, h3, h4⟩ := h
  refine ⟨a, cap, he, h1, h2, h3, ?_⟩
  rcases h4 with h4 | ⟨b2, off2, hb2, hlt, hc⟩
  · exact .inl h4
  · refine .inr ⟨b2, off2, hb2, by simpa using hlt, fun i hi => ?_⟩
    cases he
    cases hb2
    have := hc i hi
    simp [go_sem, hne]
    simpa using this
theorem LS.mono {B B' : Nat} {v : Value} (h : LS B v) (hb : B' ≤ B) : LS B' v := fun a n c e => Nat.le_trans hb (h a n c e)
theorem Ints.at {k : IntKind} {w : World} {a : Option Addr} {n cap : Nat} {l : List Int} (h : Ints k w (.slice a n cap) l) (hl : 0 < l.length) : ∃ b off, a = some ⟨b, off, none⟩ ∧ b < w.heap.size ∧ ∀ i, i < l.length → w.cell? ⟨b, off + i, none⟩ = some (.int k (gI l i)) := by
  obtain ⟨a', cap', e, h1, h2, h3, h4⟩ := h
  injection e with e1 e2 e3
  subst e1
  rcases h4 with rfl | h4
  · simp at hl
  · exact h4
theorem IL.own {p q : Nat} {w w1 w2 w3 : World} {r : Option Nat} (h : IL p q w w1) (g : w1.grownBy w2 none) (g' : w2.grownBy w3 r) (hr : ∀ k, r = some k → w.heap.size ≤ k) : IL p q w w3 := by
  obtain ⟨h1, h2, h3, h4, h5⟩ := h.grown g
  exact ⟨g'.os.trans h1, g'.tape.trans h2, g'.output.trans h3, Nat.le_trans h4 g'.size, fun k hk hp hq => (g'.block k (Nat.lt_of_lt_of_le hk h4) (fun e => by have := hr k e.symm; omega)).trans (h5 k hk hp hq)⟩
theorem Ey.own {b : Nat} {cs : Array Value} {t : TypeId} {w w' : World} {r : Option Nat} (h : Ey b cs t w) (g : w.grownBy w' r) (hne : r ≠ some b) : Ey b cs t w' := by
  have := g.block b h.lt (fun e => hne e.symm)
  unfold Ey at *
  rw [this]; exact h
end Go.Proofs.YthpbblhpapnbfaaGreat
namespace Go.Proofs.YthpbblhpapnbfaaGreat
open Go.RowKit Go.ChangeShapes Go.WideShapes
def K6 (k : Int) (f : Nat) : Bool := (YI k).contains (f : Int)
def C0 : List Int → Int
  | [] => 0
  | e :: r => if e ≠ 0 then e else C0 r
def DW (k : Int) (C : Nat → Int) : List Int := (List.range 14).map fun f => if K6 k f = true then C f else 0
def MA (o : OpD) (C : Nat → Int) : Int :=
  if ¬ Ky o.kind then 8 else if C0 (DW o.kind C) ≠ 0 then C0 (DW o.kind C) else if (List.range 14).all (fun f => K6 o.kind f || DV o f) = true then 0 else 18
theorem LU {L : List Int} (h : ∀ i, i < L.length → gI L i = 0) : C0 L = 0 := by
  induction L with
  | nil => rfl
  | cons e r ih =>
    have h0 := h 0 (by simp)
    have h1 : e = 0 := h0
    unfold C0
    rw [if_neg (by simp [h1])]
    exact ih fun i hi => h (i + 1) (by simp; omega)
theorem GL (k : Int) (C : Nat → Int) : (DW k C).length = 14 := by simp [DW]
theorem MB (k : Int) (C : Nat → Int) {f : Nat} (h : f < 14) : gI (DW k C) f = if K6 k f = true then C f else 0 := by
  rw [Co (by rw [GL]; exact h)]; simp [DW]
end Go.Proofs.YthpbblhpapnbfaaGreat
namespace Go.Proofs.YthpbblhpapnbfaaGreat
open Go.RowKit Go.ChangeShapes Go.WideShapes
def YJ (a0 : Int) (r : Bool) : Prop := r = CY a0
theorem AF (a0 : Int) (r : Bool) (h : YJ a0 r) : Qq Tryz.prog 29 [.c (.v (.int .i64 a0))] [.c (.p (.v (.bool r)))] [] :=
  Ak (by kernel_rfl) rfl rfl fun A q w vs hR => by
    rw [Ww (xs := [.int .i64 a0]) hR, h]
    exact HN a0 w
def Uq (a0 : Int) (r : Bool) : Prop := r = CY a0
theorem DX (a0 : Int) (r : Bool) (h : Uq a0 r) : Qq Tryz.prog 33 [.c (.v (.int .i64 a0))] [.c (.p (.v (.bool r)))] [] :=
  Ak (by kernel_rfl) rfl rfl fun A q w vs hR => by
    rw [Ww (xs := [.int .i64 a0]) hR, h]
    exact GK a0 w
def C2 (a : QB) : OpD := ⟨a.ff, a.fb4, a.f6, a.f7, a.fa.ff, a.fa.fg, a.fa.fm, a.fa.fo, a.fv.map (fun x => (x.f3, x.f4)), a.fa8, a.f9, a.fa7, a.fa4, a.fa9, a.fa5, a.fw, a.f0.ff, a.f0.f3, a.f0.fw, a.f0.fb6, a.f0.fb3, a.fa6⟩
end Go.Proofs.YthpbblhpapnbfaaGreat
namespace Go.Proofs.YthpbblhpapnbfaaGreat
open Go.RowKit Go.ChangeShapes Go.WideShapes
namespace M64
theorem maskN (a : Nat) (ha : a < 18446744073709551616) : bits .and .u64 (a : Int) 4294967295 = ((a % 4294967296 : Nat) : Int) := by
  have h := bits_and_u64_nat a 4294967295 ha (by omega)
  have e : a &&& 4294967295 = a % 4294967296 := Nat.and_two_pow_sub_one_eq_mod a 32
  rw [e] at h
  exact h
theorem divN (a : Nat) : (a : Int) / 4294967296 = ((a / 4294967296 : Nat) : Int) := by omega
theorem mulN (a b : Nat) : (a : Int) * (b : Int) = ((a * b : Nat) : Int) := (Int.natCast_mul a b).symm
theorem addN (a b : Nat) : (a : Int) + (b : Int) = ((a + b : Nat) : Int) := (Int.natCast_add a b).symm
theorem wrapN (a : Nat) (ha : a < 18446744073709551616) : IntKind.u64.wrap (a : Int) = (a : Int) := by rw [IntKind.wrap_u64]; omega
theorem wrapM (a : Nat) : IntKind.u64.wrap (a : Int) = ((a % 18446744073709551616 : Nat) : Int) := by rw [IntKind.wrap_u64]; omega
end M64
set_option maxHeartbeats 1000000 in
theorem IN (x y : Nat) (hx : x < 18446744073709551616) (hy : y < 18446744073709551616) (w : World) :
    Calls Tryz.prog 97 #[.int .u64 x, .int .u64 y] w fun e w' => e = .returned (.tuple #[.int .u64 ((x * y / 18446744073709551616 : Nat) : Int), .int .u64 ((x * y % 18446744073709551616 : Nat) : Int)]) ∧ w = w' := by
  obtain ⟨bd, bt, bw, hhi⟩ := Lib.mul64_hi x y hx hy
  have ba := Lib.half_mul_le (a := x / 4294967296) (b := y / 4294967296) (by omega) (by omega)
  have bb := Lib.half_mul_le (a := x / 4294967296) (b := y % 4294967296) (by omega) (by omega)
  have bc := Lib.half_mul_le (a := x % 4294967296) (b := y / 4294967296) (by omega) (by omega)
  have ba' : x / 4294967296 * (y / 4294967296) < 18446744073709551616 := by omega
  have bb' : x / 4294967296 * (y % 4294967296) < 18446744073709551616 := by omega
  have bc' : x % 4294967296 * (y / 4294967296) < 18446744073709551616 := by omega
  have bh1 : x / 4294967296 * (y / 4294967296) + (x / 4294967296 * (y % 4294967296) + x % 4294967296 * (y % 4294967296) / 4294967296) / 4294967296 < 18446744073709551616 := by omega
  have bh : x / 4294967296 * (y / 4294967296) + (x / 4294967296 * (y % 4294967296) + x % 4294967296 * (y % 4294967296) / 4294967296) / 4294967296 + ((x / 4294967296 * (y % 4294967296) + x % 4294967296 * (y % 4294967296) / 4294967296) % 4294967296 + x % 4294967296 * (y / 4294967296)) / 4294967296 < 18446744073709551616 := by omega
  go_enter Tryz.func97, Tryz.ntmps97
  go_wp2
  simp only [M64.maskN x hx, M64.maskN y hy, M64.divN, M64.mulN, M64.addN, M64.wrapN _ bd, M64.wrapN _ bb', M64.wrapN _ bt, M64.maskN _ bt, M64.wrapN _ bc', M64.wrapN _ bw, M64.wrapN _ ba', M64.wrapN _ bh1, M64.wrapN _ bh, M64.wrapM (x * y)]
  rw [hhi]
  go_ret2
  exact ⟨rfl, rfl⟩
end Go.Proofs.YthpbblhpapnbfaaGreat
namespace Go.Proofs.YthpbblhpapnbfaaGreat
open Go.RowKit Go.ChangeShapes Go.WideShapes
theorem LV {s q r p mid P : Nat} (hP : P = s * 18446744073709551616 + (q + r) * 4294967296 + p) (hm : mid = p / 4294967296 + q % 4294967296 + r % 4294967296) (hp : p < 18446744073709551616) (hq : q ≤ 18446744065119617025) (hr : r ≤ 18446744065119617025) (hs : s ≤ 18446744065119617025) :
    s + q / 4294967296 + r / 4294967296 + mid / 4294967296 = P / 18446744073709551616 ∧ mid % 4294967296 * 4294967296 + p % 4294967296 = P % 18446744073709551616 := by omega
theorem UT {X Y : Int} {n : Nat} (h : X * Y = (n : Int)) (hn : n < 18446744073709551616) : IntKind.u64.wrap (X * Y) = (n : Int) := by rw [h, IntKind.wrap_u64]; omega
set_option maxRecDepth 100000 in
set_option maxHeartbeats 3200000 in
theorem GN (x y : Nat) (hx : x < 9223372036854775808) (hy : y < 9223372036854775808) (w : World) :
    Calls Tryz.prog 50 #[.int .u64 x, .int .u64 y] w fun e w' => e = .returned (.agg #[.int .u64 ((x * y / 18446744073709551616 : Nat) : Int), .int .u64 ((x * y % 18446744073709551616 : Nat) : Int)]) ∧ w.grownBy w' none := by
  have e : x * y = (x / 4294967296) * (y / 4294967296) * 18446744073709551616 + ((x / 4294967296) * (y % 4294967296) + (x % 4294967296) * (y / 4294967296)) * 4294967296 + (x % 4294967296) * (y % 4294967296) := by
    have := Lib.split_mul (x / 4294967296) (x % 4294967296) (y / 4294967296) (y % 4294967296) 4294967296
    rw [Nat.div_add_mod' x 4294967296, Nat.div_add_mod' y 4294967296] at this
    omega
  have ha := Lib.half_mul_le (a := x / 4294967296) (b := y / 4294967296) (by omega) (by omega)
  have hb := Lib.half_mul_le (a := x / 4294967296) (b := y % 4294967296) (by omega) (by omega)
  have hc := Lib.half_mul_le (a := x % 4294967296) (b := y / 4294967296) (by omega) (by omega)
  have hd := Lib.half_mul_le (a := x % 4294967296) (b := y % 4294967296) (by omega) (by omega)
  obtain ⟨p, hp⟩ : ∃ p, p = x % 4294967296 * (y % 4294967296) := ⟨_, rfl⟩
  obtain ⟨q, hq⟩ : ∃ q, q = x / 4294967296 * (y % 4294967296) := ⟨_, rfl⟩
  obtain ⟨r, hr⟩ : ∃ r, r = x % 4294967296 * (y / 4294967296) := ⟨_, rfl⟩
  obtain ⟨s, hs⟩ : ∃ s, s = x / 4294967296 * (y / 4294967296) := ⟨_, rfl⟩
  rw [← hp, ← hq, ← hr, ← hs] at e
  rw [← hp] at hd
  rw [← hq] at hb
  rw [← hr] at hc
  rw [← hs] at ha
  have wp : IntKind.u64.wrap ((x : Int) % 4294967296 * ((y : Int) % 4294967296)) = (p : Int) := UT (by rw [hp]; simp) (by omega)
  have wq : IntKind.u64.wrap ((x : Int) / 4294967296 * ((y : Int) % 4294967296)) = (q : Int) := UT (by rw [hq]; simp) (by omega)
  have wr : IntKind.u64.wrap ((x : Int) % 4294967296 * ((y : Int) / 4294967296)) = (r : Int) := UT (by rw [hr]; simp) (by omega)
  have ws : IntKind.u64.wrap ((x : Int) / 4294967296 * ((y : Int) / 4294967296)) = (s : Int) := UT (by rw [hs]; simp) (by omega)
  clear hp hq hr hs
  obtain ⟨l1, l2⟩ := LV (P := x * y) e rfl (by omega) hb hc ha
  have hor : bits BinOp.or IntKind.u64 (IntKind.u64.wrap (((p : Int) / 4294967296 + (q : Int) % 4294967296 + (r : Int) % 4294967296) * 4294967296)) ((p : Int) % 4294967296) = ((x * y % 18446744073709551616 : Nat) : Int) := by
    rw [← l2, IntKind.wrap_u64]
    have h := bits_join .u64 64 (by decide) (fun n a b => by rw [IntKind.wrap_u64]; omega) 32 ((((p : Int) / 4294967296 + (q : Int) % 4294967296 + (r : Int) % 4294967296) * 4294967296) % 18446744073709551616) ((p : Int) % 4294967296) (by omega) (by omega) (by omega) (by omega) (by omega) (by omega)
    rw [h]
    omega
  have hl1 : ((s / 1 : Nat) : Int) + (q : Int) / 4294967296 + (r : Int) / 4294967296 + ((p : Int) / 4294967296 + (q : Int) % 4294967296 + (r : Int) % 4294967296) / 4294967296 = ((x * y / 18446744073709551616 : Nat) : Int) := by rw [← l1]; omega
  have hbb : (s : Int) + (q : Int) / 4294967296 + (r : Int) / 4294967296 + ((p : Int) / 4294967296 + (q : Int) % 4294967296 + (r : Int) % 4294967296) / 4294967296 ≤ 18446744073709551615 := by
    have : x * y / 18446744073709551616 < 18446744073709551616 := by omega
    omega
  simp only [Nat.div_one] at hl1
  generalize x * y / 18446744073709551616 = H at *
  generalize x * y % 18446744073709551616 = L at *
  have HL := Lib.hid hl1
  clear l1 l2 hl1 e
  have kx : bits .and .u64 (x : Int) 4294967295 = (x : Int) % 4294967296 := (M64.maskN x (by omega)).trans (by simp)
  have ky : bits .and .u64 (y : Int) 4294967295 = (y : Int) % 4294967296 := (M64.maskN y (by omega)).trans (by simp)
  have kp : bits .and .u64 (p : Int) 4294967295 = (p : Int) % 4294967296 := (M64.maskN p (by omega)).trans (by simp)
  have kq : bits .and .u64 (q : Int) 4294967295 = (q : Int) % 4294967296 := (M64.maskN q (by omega)).trans (by simp)
  have kr : bits .and .u64 (r : Int) 4294967295 = (r : Int) % 4294967296 := (M64.maskN r (by omega)).trans (by simp)
  go_enter Tryz.func50, Tryz.ntmps50
  go_wp2_with fail
  rw [HL.out]
  refine bodyPost_ret (v := .agg #[.int .u64 H, .int .u64 L]) ?_ rfl ⟨rfl, JR _ _⟩
  simp [results, Tryz.results50, go_sem]
end Go.Proofs.YthpbblhpapnbfaaGreat
namespace Go.Proofs.YthpbblhpapnbfaaGreat
open Go.RowKit Go.ChangeShapes Go.WideShapes
def YK (a b m : Int) : Int := if max a 0 + max b 0 > max m 0 then max m 0 else max a 0 + max b 0
def IO (a b m : Int) : Bool := decide (max a 0 + max b 0 > max m 0)
theorem DY {k : IntKind} {x x' : Int} {y y' : Bool} (h1 : x = x') (h2 : y = y') : Ending.returned (.tuple #[.int k x, .bool y]) = .returned (.tuple #[.int k x', .bool y']) := by rw [h1, h2]
theorem ret_i {k : IntKind} {x x' : Int} (h1 : x = x') : Ending.returned (.int k x) = .returned (.int k x') := by rw [h1]
theorem MC (a b m : Int) (w : World) (ha : -9223372036854775808 ≤ a ∧ a ≤ 9223372036854775807) (hb : -9223372036854775808 ≤ b ∧ b ≤ 9223372036854775807) (hm : -9223372036854775808 ≤ m ∧ m ≤ 9223372036854775807) :
    Calls Tryz.prog 41 #[.int .i64 a, .int .i64 b, .int .i64 m] w fun e w' => e = .returned (.tuple #[.int .i64 (YK a b m), .bool (IO a b m)]) ∧ w = w' := by
  go_enter Tryz.func41, Tryz.ntmps41
  go_wp2
  all_goals
    go_ret2
    exact ⟨DY (by unfold YK; split <;> omega) (by unfold IO; first | exact (decide_eq_true (by omega)).symm | exact (decide_eq_false (by omega)).symm), rfl⟩
theorem Ur (a : Int) (w : World) (ha : -9223372036854775808 ≤ a ∧ a ≤ 9223372036854775807) :
    Calls Tryz.prog 47 #[.int .i64 a] w fun e w' => e = .returned (.int .i64 (max a 0)) ∧ w = w' := by
  go_enter Tryz.func47, Tryz.ntmps47
  go_wp2
  all_goals
    go_ret
    exact ⟨ret_i (by (repeat' split) <;> omega), rfl⟩
end Go.Proofs.YthpbblhpapnbfaaGreat
namespace Go.Proofs.YthpbblhpapnbfaaGreat
open Go.RowKit Go.ChangeShapes Go.WideShapes
set_option maxHeartbeats 1000000 in
theorem LW (x y : Nat) (hx : x < 18446744073709551616) (hy : y < 18446744073709551616) (w : World) :
    Calls Tryz.prog 67 #[.int .u64 x, .int .u64 y] w fun e w' => e = .returned (.tuple #[.int .u64 ((x * y / 18446744073709551616 : Nat) : Int), .int .u64 ((x * y % 18446744073709551616 : Nat) : Int)]) ∧ w = w' := by
  have C := Lib.hid (IN x y hx hy w)
  generalize x * y / 18446744073709551616 = p at *
  generalize x * y % 18446744073709551616 = q at *
  go_enter Tryz.func67, Tryz.ntmps67
  go_wp2_with (go_at_call 97; refine C.out.mono ?_; rintro e w' ⟨rfl, rfl⟩)
  go_ret2
  exact ⟨rfl, rfl⟩
def By (a b m : Int) : Int := if max a 0 * max b 0 > max m 0 then max m 0 else max a 0 * max b 0
def IP (a b m : Int) : Bool := decide (max a 0 * max b 0 > max m 0)
theorem IQ (x y : Int) (w : World) (hx0 : 0 ≤ x) (hx : x < 18446744073709551616) (hy0 : 0 ≤ y) (hy : y < 18446744073709551616) :
    Calls Tryz.prog 67 #[.int .u64 x, .int .u64 y] w fun e w' => ∃ p : Int, e = .returned (.tuple #[.int .u64 (p / 18446744073709551616), .int .u64 (p % 18446744073709551616)]) ∧ w = w' ∧ 0 ≤ p ∧ Hid (p = x * y) := by
  obtain ⟨X, rfl⟩ := Int.eq_ofNat_of_zero_le hx0
  obtain ⟨Y, rfl⟩ := Int.eq_ofNat_of_zero_le hy0
  refine (LW X Y (by omega) (by omega) w).mono ?_
  rintro e w' ⟨rfl, rfl⟩
  exact ⟨((X * Y : Nat) : Int), by simp, rfl, by omega, show _ = _ by simp⟩
theorem Ip {a b m x y p : Int} (hx : x = max a 0) (hy : y = max b 0) (hp : p = x * y) : By a b m = if p > max m 0 then max m 0 else p := by unfold By; rw [hp, hx, hy]
theorem Iq {a b m x y p : Int} (hx : x = max a 0) (hy : y = max b 0) (hp : p = x * y) : IP a b m = decide (p > max m 0) := by unfold IP; rw [hp, hx, hy]
set_option maxHeartbeats 1600000 in
theorem LX (a b m : Int) (w : World) (ha : -9223372036854775808 ≤ a ∧ a ≤ 9223372036854775807) (hb : -9223372036854775808 ≤ b ∧ b ≤ 9223372036854775807) (hm : -9223372036854775808 ≤ m ∧ m ≤ 9223372036854775807) :
    Calls Tryz.prog 42 #[.int .i64 a, .int .i64 b, .int .i64 m] w fun e w' => e = .returned (.tuple #[.int .i64 (By a b m), .bool (IP a b m)]) ∧ w = w' := by
  go_enter Tryz.func42, Tryz.ntmps42
  go_wp2_with fail
  all_goals
    refine (IQ _ _ _ (by omega) (by omega) (by omega) (by omega)).mono ?_
    rintro e w' ⟨p, rfl, rfl, hp0, hp⟩
    have hs := Ip (a := a) (b := b) (m := m) (by omega) (by omega) hp.out
    have ht := Iq (a := a) (b := b) (m := m) (by omega) (by omega) hp.out
    have HS := Lib.hid hs
    have HT := Lib.hid ht
    clear hs ht hp
    go_wp2
    all_goals
      go_ret2
      exact ⟨DY (by rw [HS.out]; split <;> omega) (by rw [HT.out]; first | exact (decide_eq_true (by omega)).symm | exact (decide_eq_false (by omega)).symm), rfl⟩
theorem FQ {a : Int} (h : a ≤ 9223372036854775807) : ∃ n : Nat, max a 0 = n ∧ n ≤ 9223372036854775807 := ⟨(max a 0).toNat, by omega, by omega⟩
set_option maxHeartbeats 1600000 in
theorem LY (a b m : Int) (w : World) (ha : -9223372036854775808 ≤ a ∧ a ≤ 9223372036854775807) (hb : -9223372036854775808 ≤ b ∧ b ≤ 9223372036854775807) (hm : -9223372036854775808 ≤ m ∧ m ≤ 9223372036854775807) :
    Calls Tryz.prog 34 #[.int .i64 a, .int .i64 b, .int .i64 m] w fun e w' => e = .returned (.tuple #[.int .i64 (By a b m), .bool (IP a b m)]) ∧ w.grownBy w' none := by
  have ca := fun w : World => Ur a w ha
  have cb := fun w : World => Ur b w hb
  have cm := fun w : World => Ur m w hm
  obtain ⟨A, hA, bA⟩ := FQ ha.2
  obtain ⟨B, hB, bB⟩ := FQ hb.2
  obtain ⟨M, hM, bM⟩ := FQ hm.2
  have hs := Ip (a := a) (b := b) (m := m) (p := ((A * B : Nat) : Int)) rfl rfl (by rw [hA, hB]; simp)
  have ht := Iq (a := a) (b := b) (m := m) (p := ((A * B : Nat) : Int)) rfl rfl (by rw [hA, hB]; simp)
  rw [hM] at hs ht cm
  rw [hA] at ca
  rw [hB] at cb
  have cp := fun w : World => GN A B (by omega) (by omega) w
  generalize A * B = p at *
  have hH : ∃ H : Nat, H = p / 18446744073709551616 := ⟨_, rfl⟩
  have hL : ∃ L : Nat, L = p % 18446744073709551616 := ⟨_, rfl⟩
  obtain ⟨H, hH⟩ := hH
  obtain ⟨L, hL⟩ := hL
  rw [← hH, ← hL] at cp
  have hHL : p = H * 18446744073709551616 + L ∧ L ≤ 18446744073709551615 := by omega
  obtain ⟨hp, hLb⟩ := hHL
  have hHb : 0 ≤ (H : Int) := by omega
  have CA := Lib.hid ca
  have CB := Lib.hid cb
  have CM := Lib.hid cm
  have CP := Lib.hid cp
  have HS := Lib.hid hs
  have HT := Lib.hid ht
  have HP := Lib.hid hp
  clear ca cb cm cp hs ht hp hA hB hM hH hL
  go_enter Tryz.func34, Tryz.ntmps34
  go_wp2_with fail
  refine (CA.out _).mono ?_
  rintro e w' ⟨rfl, rfl⟩
  go_wp2_with fail
  refine (CB.out _).mono ?_
  rintro e w' ⟨rfl, rfl⟩
  go_wp2_with fail
  refine (CM.out _).mono ?_
  rintro e w' ⟨rfl, rfl⟩
  go_wp2_with fail
  refine (CP.out _).mono ?_
  rintro e w1 ⟨rfl, g1⟩
  by_cases h1 : 0 < H
  · have h1' : (0 : Int) < H := by omega
    go_wp2
    go_ret2
    exact ⟨DY (by have := HP.out; rw [HS.out, if_pos (by omega)]) (by have := HP.out; rw [HT.out]; exact (decide_eq_true (by omega)).symm), g1.trans' (JR _ _)⟩
  · have hH0 : H = 0 := by omega
    subst hH0
    by_cases h2 : (M : Int) < L
    · go_wp2
      go_ret2
      exact ⟨DY (by have := HP.out; rw [HS.out, if_pos (by omega)]) (by have := HP.out; rw [HT.out]; exact (decide_eq_true (by omega)).symm), g1.trans' (JR _ _)⟩
    · go_wp2
      go_ret2
      exact ⟨DY (by have := HP.out; rw [HS.out, if_neg (by omega)]; omega) (by have := HP.out; rw [HT.out]; exact (decide_eq_false (by omega)).symm), g1.trans' (JR _ _)⟩
end Go.Proofs.YthpbblhpapnbfaaGreat
namespace Go.Proofs.YthpbblhpapnbfaaGreat
open Go.RowKit Go.ChangeShapes Go.WideShapes
end Go.Proofs.YthpbblhpapnbfaaGreat
namespace Go.Proofs.YthpbblhpapnbfaaGreat
open Go.RowKit Go.ChangeShapes Go.WideShapes
theorem YL {P : Program} {f : FuncId} {avs : List AV} {x y : Value} (he : IB P f = true) (hx : Jj x = true) (hy : Jj y = true) (hn : avs.any AV.isRef = false) (h : ∀ A q w vs, Lb w A (fun _ => none) w.heap.size q avs vs.toList → Calls P f vs w fun e w' => e = .returned (.tuple #[x, y]) ∧ w.grownBy w' none) : Qq P f avs [.c (.p (.v x)), .c (.p (.v y))] [] := by
  refine ⟨he, fun A gs g q w vs hA hinj hgs hg hR => ?_⟩
  obtain ⟨hg1, rfl⟩ := hg hn
  have e : gs = fun _ => none := funext hg1
  subst e
  refine (h A q w vs hR).mono ?_
  rintro _ w' ⟨rfl, hgr⟩
  exact ⟨_, A, fun _ => none, rfl, fun _ h => h, fun _ h => .inl h, hgr.size, fun y hy _ _ => hgr.block y hy (by simp), hgr.os, hgr.tape, hgr.output, fun n m y h => (by cases h), fun n y h => (by cases h), ⟨#[x, y], rfl, ⟨KG hx, .v x hx, trivial⟩, ⟨KG hy, .v y hy, trivial⟩, trivial⟩, fun h => by rw [hn] at h; cases h⟩
def Vb (a : Int) : Prop := -9223372036854775808 ≤ a ∧ a ≤ 9223372036854775807
theorem DZ {a : Int} (h : Vb a) : Jj (.int .i64 a) = true := by
  unfold Vb at h
  simp [Jj, Lit.wf, IntKind.min, IntKind.max, IntKind.signed, IntKind.bits]; omega
def CK (a b m : Int) (r : Int × Bool) : Prop := (Vb a ∧ Vb b ∧ Vb m) ∧ r = (YK a b m, IO a b m)
def CL (a b m : Int) (r : Int × Bool) : Prop := (Vb a ∧ Vb b ∧ Vb m) ∧ r = (By a b m, IP a b m)
def E0 (a b m : Int) (r : Int × Bool) : Prop := (Vb a ∧ Vb b ∧ Vb m) ∧ r = (By a b m, IP a b m)
theorem Xb {a b m : Int} (ha : Vb a) (hb : Vb b) (hm : Vb m) : Vb (YK a b m) := by
  unfold Vb at *; unfold YK; split <;> omega
theorem Bz {a b m : Int} (hm : Vb m) : Vb (By a b m) := by
  have hp : 0 ≤ max a 0 * max b 0 := Int.mul_nonneg (by omega) (by omega)
  unfold Vb at *; unfold By; split <;> omega
theorem GO (a b m : Int) (r : Int × Bool) (h : CK a b m r) : Qq Tryz.prog 41 [.c (.v (.int .i64 a)), .c (.v (.int .i64 b)), .c (.v (.int .i64 m))] [.c (.p (.v (.int .i64 (r.1)))), .c (.p (.v (.bool (r.2))))] [] := by
  obtain ⟨⟨ha, hb, hm⟩, rfl⟩ := h
  refine YL (by kernel_rfl) (DZ (Xb ha hb hm)) rfl rfl fun A q w vs hR => ?_
  rw [Ww (xs := [.int .i64 a, .int .i64 b, .int .i64 m]) hR]
  refine (MC a b m w ha hb hm).mono ?_
  rintro e w' ⟨rfl, rfl⟩
  exact ⟨rfl, XU w⟩
theorem GP (a b m : Int) (r : Int × Bool) (h : CL a b m r) : Qq Tryz.prog 42 [.c (.v (.int .i64 a)), .c (.v (.int .i64 b)), .c (.v (.int .i64 m))] [.c (.p (.v (.int .i64 (r.1)))), .c (.p (.v (.bool (r.2))))] [] := by
  obtain ⟨⟨ha, hb, hm⟩, rfl⟩ := h
  refine YL (by kernel_rfl) (DZ (Bz hm)) rfl rfl fun A q w vs hR => ?_
  rw [Ww (xs := [.int .i64 a, .int .i64 b, .int .i64 m]) hR]
  refine (LX a b m w ha hb hm).mono ?_
  rintro e w' ⟨rfl, rfl⟩
  exact ⟨rfl, XU w⟩
theorem HO (a b m : Int) (r : Int × Bool) (h : E0 a b m r) : Qq Tryz.prog 34 [.c (.v (.int .i64 a)), .c (.v (.int .i64 b)), .c (.v (.int .i64 m))] [.c (.p (.v (.int .i64 (r.1)))), .c (.p (.v (.bool (r.2))))] [] := by
  obtain ⟨⟨ha, hb, hm⟩, rfl⟩ := h
  refine YL (by kernel_rfl) (DZ (Bz hm)) rfl rfl fun A q w vs hR => ?_
  rw [Ww (xs := [.int .i64 a, .int .i64 b, .int .i64 m]) hR]
  refine (LY a b m w ha hb hm).mono ?_
  rintro e w' ⟨rfl, hg⟩
  exact ⟨rfl, hg⟩
end Go.Proofs.YthpbblhpapnbfaaGreat

namespace Go.Proofs.YthpbblhpapnbfaaGreat
open Go.RowKit
theorem Z {α : Sort _} {a : α} : a = a := rfl
section
variable {P : Program} {T : Tb P} {fn : Func} {st : St} {s1 s2 s3 : Nat} {x1 x2 x3 : PV} {c1 : CV} {y1 : RV} {cs : List CV} {xs : List RV} {os : List (Option Z9)} {bs : List Z9} {b1 : Z9} {e1 m1 : Nat} {ro : List (List PV)}
theorem ZN (h : fn.results.toList = [.tmp s1]) (a : st.g s1 = .c (.p x1)) : HB T fn [.c (.p x1)] .ret st := ⟨.inr rfl, _, _, _, h ▸ .cons (.p a) .nil, .cons (.c (.p _)) .nil, rfl, rfl⟩
theorem Hh (h : fn.results.toList = [.tmp s1]) (a : st.g s1 = .c (.sl b1 0 m1)) (hb : st.h b1 = some (.row e1 ro true)) (hn : ro.length = m1) : HB T fn [.c (.own e1 ro)] .ret st := ⟨.inr rfl, _, _, _, h ▸ .cons (.s a) .nil, .cons (.c (.own hb hn)) .nil, rfl, rfl⟩
theorem GQ (h : fn.results.toList = [.tmp s1, .tmp s2]) (a : st.g s1 = .c (.p x1)) (b : st.g s2 = .c (.p x2)) : HB T fn [.c (.p x1), .c (.p x2)] .ret st := ⟨.inr rfl, _, _, _, h ▸ .cons (.p a) (.cons (.p b) .nil), .cons (.c (.p _)) (.cons (.c (.p _)) .nil), rfl, rfl⟩
theorem fq4 (h : fn.results.toList = [.tmp s1, .tmp s2, .tmp s3]) (a : st.g s1 = .c (.p x1)) (b : st.g s2 = .c (.p x2)) (c : st.g s3 = .c (.p x3)) : HB T fn [.c (.p x1), .c (.p x2), .c (.p x3)] .ret st := ⟨.inr rfl, _, _, _, h ▸ .cons (.p a) (.cons (.p b) (.cons (.p c) .nil)), .cons (.c (.p _)) (.cons (.c (.p _)) (.cons (.c (.p _)) .nil)), rfl, rfl⟩
theorem MD (h : fn.results.toList = [.tmp s1, .tmp s2]) (a : st.g s1 = .c (.sl b1 0 m1)) (b : st.g s2 = .c (.p x2)) (hb : st.h b1 = some (.row e1 ro true)) (hn : ro.length = m1) : HB T fn [.c (.own e1 ro), .c (.p x2)] .ret st := ⟨.inr rfl, _, _, _, h ▸ .cons (.s a) (.cons (.p b) .nil), .cons (.c (.own hb hn)) (.cons (.c (.p _)) .nil), rfl, rfl⟩
theorem Ld (h : fn.results.toList = [.tmp s1, .tmp s2]) (a : st.g s1 = .c (.p (.v (.slice none 0 0)))) (b : st.g s2 = .c (.p x2)) (he : Nat.ble 1 e1 = true) : HB T fn [.c (.own e1 []), .c (.p x2)] .ret st := ⟨.inr rfl, _, _, _, h ▸ .cons (.p a) (.cons (.p b) .nil), .cons (.c (.nilo _ (Nat.le_of_ble_eq_true he))) (.cons (.c (.p _)) .nil), rfl, rfl⟩
theorem IK.c {c : CV} {cs cs' : List CV} (h : IK st cs cs') : IK st (c :: cs) (c :: cs') := .cons (.k _) h
theorem FN.c {x : PV} {cs : List CV} {xs : List PV} (h : FN st cs xs) : FN st (.p x :: cs) (x :: xs) := .cons (.k _) h
theorem Qr (h : U5 st cs xs os bs) : U5 st (.p x1 :: cs) (.p x1 :: xs) (none :: os) bs := .cons (.p _) h
theorem Bp.pp {xp : List PV} (h : Bp st cs xp bs) : Bp st (.p x1 :: cs) (x1 :: xp) bs := .cons (.p _) h
theorem U5.pp (h : U5 st cs xs os bs) : U5 st (.p x1 :: cs) (.p x1 :: xs) (none :: os) bs := .cons (.p _) h
theorem XS (h : U5 st cs xs os bs) : U5 st (.p (.v (.slice none 0 0)) :: cs) (.p (.l e1 []) :: xs) (none :: os) bs := .cons (.nil _) h
theorem W1 (he : Nat.ble 1 e1 = true) (h : U5 st cs xs os bs) : U5 st (.p (.v (.slice none 0 0)) :: cs) (.own e1 [] :: xs) (none :: os) bs := .cons (.nilo _ (Nat.le_of_ble_eq_true he)) h
end
theorem Ju {α : Type} {f : α → List PV} {L : List α} {E : En} {N : Nat} : type_of% (@Fq α f L E N Tryz.prog tb) := @Fq α f L E N Tryz.prog tb
theorem QF {α : Type} {f : α → List PV} {L L' : List α} {E : En} {N : Nat} : type_of% (@GI α f L L' E N Tryz.prog tb) := @GI α f L L' E N Tryz.prog tb
theorem XL {E : En} {N : Nat} : type_of% (@CI E N Tryz.prog tb) := @CI E N Tryz.prog tb
theorem C3 {E : En} {N : Nat} : type_of% (@LJ E N Tryz.prog tb) := @LJ E N Tryz.prog tb
theorem QC {α : Type} {f : α → List PV} {L : List α} {E : En} {N : Nat} : type_of% (@Ie α f L E N Tryz.prog tb) := @Ie α f L E N Tryz.prog tb
theorem QW {α : Type} {f : α → List PV} {L : List α} {E : En} {N : Nat} : type_of% (@GE α f L E N Tryz.prog tb) := @GE α f L E N Tryz.prog tb
theorem JE {E : En} {N : Nat} : type_of% (@CF E N Tryz.prog tb) := @CF E N Tryz.prog tb
theorem Qs {α : Type} {f : α → List PV} {L : List α} {E : En} {N : Nat} : type_of% (@If α f L E N Tryz.prog tb) := @If α f L E N Tryz.prog tb
theorem ZP {α : Type} {f : α → List PV} {L : List α} {E : En} {N : Nat} : type_of% (@GF α f L E N Tryz.prog tb) := @GF α f L E N Tryz.prog tb
theorem UU {E : En} {N : Nat} : type_of% (@LM E N Tryz.prog tb) := @LM E N Tryz.prog tb
theorem IR {E : En} {N : Nat} : type_of% (@LK E N Tryz.prog tb) := @LK E N Tryz.prog tb
theorem E1 {E : En} {N : Nat} : type_of% (@Ih E N Tryz.prog tb) := @Ih E N Tryz.prog tb
theorem HQ {E : En} {N : Nat} : type_of% (@Ig E N Tryz.prog tb) := @Ig E N Tryz.prog tb
theorem Al {α : Type} {f : α → List PV} {L : List α} {E : En} {N : Nat} : type_of% (@DT α f L E N Tryz.prog tb) := @DT α f L E N Tryz.prog tb
theorem W8 {α : Type} {f : α → List PV} {L : List α} {E : En} {N : Nat} : type_of% (@DR α f L E N Tryz.prog tb) := @DR α f L E N Tryz.prog tb
theorem Zx {α : Type} {f : α → List PV} {L : List α} {E : En} {N : Nat} : type_of% (@CH α f L E N Tryz.prog tb) := @CH α f L E N Tryz.prog tb
theorem WV {E : En} {N : Nat} : type_of% (@Bu E N Tryz.prog tb) := @Bu E N Tryz.prog tb
theorem E2 {E : En} {N : Nat} : type_of% (@CG E N Tryz.prog tb) := @CG E N Tryz.prog tb
theorem QO {E : En} {N : Nat} : type_of% (@Ff E N Tryz.prog tb) := @Ff E N Tryz.prog tb
theorem E3 {E : En} {N : Nat} : type_of% (@CE E N Tryz.prog tb) := @CE E N Tryz.prog tb
theorem Qe {E : En} {N : Nat} : type_of% (@CC E N Tryz.prog tb) := @CC E N Tryz.prog tb
theorem Qz {E : En} {N : Nat} : type_of% (@Br E N Tryz.prog tb) := @Br E N Tryz.prog tb
theorem Zn {E : En} {N : Nat} : type_of% (@DJ E N Tryz.prog tb) := @DJ E N Tryz.prog tb
theorem Q1 {E : En} {N : Nat} : type_of% (@DI E N Tryz.prog tb) := @DI E N Tryz.prog tb
theorem QQ {E : En} {N : Nat} : type_of% (@Ai E N Tryz.prog tb) := @Ai E N Tryz.prog tb
theorem KB {E : En} {N : Nat} : type_of% (@Cw E N Tryz.prog tb) := @Cw E N Tryz.prog tb
theorem Q2 {E : En} {N : Nat} : type_of% (@Bj E N Tryz.prog tb) := @Bj E N Tryz.prog tb
theorem Qw {E : En} {N : Nat} : type_of% (@Cv E N Tryz.prog tb) := @Cv E N Tryz.prog tb
theorem Z1 {E : En} {N : Nat} : type_of% (@Bl E N Tryz.prog tb) := @Bl E N Tryz.prog tb
theorem Q4 {E : En} {N : Nat} : type_of% (@Ag E N Tryz.prog tb) := @Ag E N Tryz.prog tb
theorem Zs {E : En} {N : Nat} : type_of% (@Bm E N Tryz.prog tb) := @Bm E N Tryz.prog tb
theorem VO {E : En} {N : Nat} : type_of% (@Ah E N Tryz.prog tb) := @Ah E N Tryz.prog tb
theorem Qd {E : En} {N : Nat} : type_of% (@GD E N Tryz.prog tb) := @GD E N Tryz.prog tb
theorem Z8 {E : En} {N : Nat} : type_of% (@GC E N Tryz.prog tb) := @GC E N Tryz.prog tb
theorem VP {α : Type} {f : α → List PV} {L : List α} {E : En} {N : Nat} : type_of% (@LI α f L E N Tryz.prog tb) := @LI α f L E N Tryz.prog tb
theorem QJ {α : Type} {f : α → List PV} {L : List α} {E : En} {N : Nat} : type_of% (@Ii α f L E N Tryz.prog tb) := @Ii α f L E N Tryz.prog tb
theorem GR {E : En} {N : Nat} : type_of% (@GH E N Tryz.prog tb) := @GH E N Tryz.prog tb
set_option maxRecDepth 100000
set_option maxHeartbeats 4000000
def AG (a0 : Int) (Q : ByteArray → Prop) : Prop :=
 (((((Z0 .i64 (QN .i64 a0 8) 15) == 15)) = true → Q ((strOfNums ([(IntKind.u8.wrap a0), (IntKind.u8.wrap (QN .i64 a0 1)), (IntKind.u8.wrap (QN .i64 a0 3))])))) ∧ ((((Z0 .i64 (QN .i64 a0 8) 15) == 15)) = false → (((([((⟨#[97]⟩ : ByteArray)), ((⟨#[98]⟩ : ByteArray)), ((⟨#[99]⟩ : ByteArray)), ((⟨#[100]⟩ : ByteArray)), ((⟨#[101]⟩ : ByteArray)), ((⟨#[102]⟩ : ByteArray)), ((⟨#[97, 97]⟩ : ByteArray)), ((⟨#[98, 32, 99]⟩ : ByteArray)), ((⟨#[37, 54, 49]⟩ : ByteArray)), ((⟨#[65, 58, 49]⟩ : ByteArray)), ((⟨#[0]⟩ : ByteArray)), ((⟨#[122, 47, 255]⟩ : ByteArray))]).length : Int) : Int) ≠ 0) ∧ ∃ v3, ix ([((⟨#[97]⟩ : ByteArray)), ((⟨#[98]⟩ : ByteArray)), ((⟨#[99]⟩ : ByteArray)), ((⟨#[100]⟩ : ByteArray)), ((⟨#[101]⟩ : ByteArray)), ((⟨#[102]⟩ : ByteArray)), ((⟨#[97, 97]⟩ : ByteArray)), ((⟨#[98, 32, 99]⟩ : ByteArray)), ((⟨#[37, 54, 49]⟩ : ByteArray)), ((⟨#[65, 58, 49]⟩ : ByteArray)), ((⟨#[0]⟩ : ByteArray)), ((⟨#[122, 47, 255]⟩ : ByteArray))]) ((Z0 .i64 a0 255).tmod ((([((⟨#[97]⟩ : ByteArray)), ((⟨#[98]⟩ : ByteArray)), ((⟨#[99]⟩ : ByteArray)), ((⟨#[100]⟩ : ByteArray)), ((⟨#[101]⟩ : ByteArray)), ((⟨#[102]⟩ : ByteArray)), ((⟨#[97, 97]⟩ : ByteArray)), ((⟨#[98, 32, 99]⟩ : ByteArray)), ((⟨#[37, 54, 49]⟩ : ByteArray)), ((⟨#[65, 58, 49]⟩ : ByteArray)), ((⟨#[0]⟩ : ByteArray)), ((⟨#[122, 47, 255]⟩ : ByteArray))]).length : Int))) v3 ∧ Q v3))
def Xp (a0 : Int) (r : ByteArray) : Prop := AG a0 fun x => r = x
theorem AH (a0 : Int) (r : ByteArray) (h : Xp a0 r) : Qq Tryz.prog 15 [.c (.v (.int .i64 a0))] [.c (.p (.v (.string r)))] [] := by
  refine Qp tb Tryz.func15 Z (by kernel_rfl) Z Z (Nat.le_of_ble_eq_true Z) Z ?_;intro E;unfold Xp AG at h;refine Zg (fun Q hQ => ?_);refine tk fun L hL => Qj Z Z <| rt (hL _ ?_);refine tk fun L hL => ul (Qz (rows := List.map eS [((⟨#[97]⟩ : ByteArray)), ((⟨#[98]⟩ : ByteArray)), ((⟨#[99]⟩ : ByteArray)), ((⟨#[100]⟩ : ByteArray)), ((⟨#[101]⟩ : ByteArray)), ((⟨#[102]⟩ : ByteArray)), ((⟨#[97, 97]⟩ : ByteArray)), ((⟨#[98, 32, 99]⟩ : ByteArray)), ((⟨#[37, 54, 49]⟩ : ByteArray)), ((⟨#[65, 58, 49]⟩ : ByteArray)), ((⟨#[0]⟩ : ByteArray)), ((⟨#[122, 47, 255]⟩ : ByteArray))]) Z Z Z Z Z Z Z Z Z Z Z Z Z) <| Qj Z Z <| rt (hL _ ?_);refine sk fun L1 hL1 => tk fun L hL => mv Z ?_;refine u0 (Zh (by decide) Z Z Z Z) ?_;refine u0 (QV (z := .int .i64 (Z0 .i64 (QN .i64 a0 8) 15)) Z Z Z Z Z) <| u0 (Q7 (c := ((Z0 .i64 (QN .i64 a0 8) 15) == 15)) Z Z Z Z Z) <| rt (hL _ ?_);refine Z2 Z h (fun h => ?_) fun h => ?_
  · refine tk fun L hL => mv Z <| u0 (Zj (T := tb) Z Z Z Z Z Z) <| mv Z ?_;refine u0 (Zh (by decide) Z Z Z Z) ?_;refine u0 (Zj (T := tb) Z Z Z Z Z Z) <| mv Z ?_;refine u0 (Zh (by decide) Z Z Z Z) ?_;refine u0 (Zj (T := tb) Z Z Z Z Z Z) <| ul (Qz (rows := List.map (eI .u8) [(IntKind.u8.wrap a0), (IntKind.u8.wrap (QN .i64 a0 1)), (IntKind.u8.wrap (QN .i64 a0 3))]) Z Z Z Z Z Z Z Z Z Z Z Z Z) <| u0 (E2 Z Z Z Z Z Z Z Z Z Z) <| Qj Z Z <| rt (hL _ ?_);obtain rfl := h;exact Qa (hQ _ _ (ZN Z Z))
  · refine Qc (hL1 _ ?_);refine tk fun L hL => mv Z <| mv Z <| u0 (QV (z := .int .i64 (Z0 .i64 a0 255)) Z Z Z Z Z) <| mv Z <| u0 (ZP Z Z Z Z Z Z) ?_;obtain ⟨hz2, h⟩ := h;refine u0 (Xw hz2 Z Z Z Z) ?_;obtain ⟨v3, hv3, h⟩ := h;refine u0 (QW hv3 Z Z Z Z Z Z Z Z Z Z) <| u0 (Z1 Z Z (gm hv3.2) Z Z Z Z) <| Qj Z Z <| rt (hL _ ?_);obtain rfl := h;exact Qa (hQ _ _ (ZN Z Z))
def WI (a0 : Int) (Q : QD → Prop) : Prop :=
 (((((a0.tmod 7) == 0)) = true → Q ((QD.mk 1 ByteArray.empty 0 0 0))) ∧ ((((a0.tmod 7) == 0)) = false → (((((a0.tmod 7) == 1)) = true → ∃ v2, Xp (QN .i64 a0 3) v2 ∧ Q ((QD.mk 2 v2 0 0 0))) ∧ ((((a0.tmod 7) == 1)) = false → (((((a0.tmod 7) == 2)) = true → Q ((QD.mk 3 ByteArray.empty 0 0 0))) ∧ ((((a0.tmod 7) == 2)) = false → (((((a0.tmod 7) == 3)) = true → Q ((QD.mk 4 ByteArray.empty 0 0 0))) ∧ ((((a0.tmod 7) == 3)) = false → (((((a0.tmod 7) == 4)) = true → Q ((QD.mk 5 ByteArray.empty (Z0 .i64 (QN .i64 a0 3) 7) 0 0))) ∧ ((((a0.tmod 7) == 4)) = false → (((((a0.tmod 7) == 5)) = true → ∃ v3, Xp (QN .i64 a0 3) v3 ∧ Q ((QD.mk 6 v3 0 0 0))) ∧ ((((a0.tmod 7) == 5)) = false → Q ((QD.mk 7 ByteArray.empty 0 (Z0 .i64 (QN .i64 a0 3) 3) (IntKind.i64.wrap (3 + (Z0 .i64 (QN .i64 a0 5) 3)))))))))))))))))
def VQ (a0 : Int) (r : QD) : Prop := WI a0 fun x => r = x
theorem BA (a0 : Int) (r : QD) (h : VQ a0 r) : Qq Tryz.prog 20 [.c (.v (.int .i64 a0))] [.agg [.p (.v (.int .i64 r.ff)), .p (.v (.string r.f3)), .p (.v (.int .i64 r.fw)), .p (.v (.int .i64 r.fb6)), .p (.v (.int .i64 r.fb3))]] [] := by
  refine Qp tb Tryz.func20 Z (by kernel_rfl) Z Z (Nat.le_of_ble_eq_true Z) Z ?_;intro E;unfold VQ WI at h;refine Zg (fun Q hQ => ?_);refine tk fun L hL => u1 (QO Z Z Z) <| rt (hL _ ?_);refine sk fun L1 hL1 => tk fun L hL => mv Z ?_;refine u0 (Xw (by decide) Z Z Z Z) ?_;refine rt (hL _ ?_);refine Qt <| tk fun L hL => u0 (Q7 (c := ((a0.tmod 7) == 0)) Z Z Z Z Z) <| Qj Z Z <| rt (hL _ ?_);refine Z2 Z h (fun h => ?_) fun h => ?_
  · refine tk fun L hL => u0 (Qe Z Z Z Z Z Z Z) <| un (Qd Z Z Z Z Z Z Z Z Z) <| rt (hL _ ?_);obtain rfl := h;exact Qa (hQ _ _ ⟨.inr Z, _, _, _, (.cons (.cella Z Z Z Z Z) .nil), (.cons (.agg (Qr (Qr (Qr (Qr (Qr .nil)))))) .nil), Z, Z⟩)
  · refine tk fun L hL => u0 (Q7 (c := ((a0.tmod 7) == 1)) Z Z Z Z Z) <| Qj Z Z <| rt (hL _ ?_);refine Z2 Z h (fun h => ?_) fun h => ?_
    · refine tk fun L hL => mv Z ?_;refine u0 (Zh (by decide) Z Z Z Z) ?_;obtain ⟨v2, hv2, h⟩ := h;refine u0 (Q6 (AH _ _ hv2) Z Z (.cons (.c (.p _)) .nil) Z Z Z) <| u0 (Qe Z Z Z Z Z Z Z) <| un (Qd Z Z Z Z Z Z Z Z Z) <| rt (hL _ ?_);obtain rfl := h;exact Qa (hQ _ _ ⟨.inr Z, _, _, _, (.cons (.cella Z Z Z Z Z) .nil), (.cons (.agg (Qr (Qr (Qr (Qr (Qr .nil)))))) .nil), Z, Z⟩)
    · refine tk fun L hL => u0 (Q7 (c := ((a0.tmod 7) == 2)) Z Z Z Z Z) <| Qj Z Z <| rt (hL _ ?_);refine Z2 Z h (fun h => ?_) fun h => ?_
      · refine tk fun L hL => u0 (Qe Z Z Z Z Z Z Z) <| un (Qd Z Z Z Z Z Z Z Z Z) <| rt (hL _ ?_);obtain rfl := h;exact Qa (hQ _ _ ⟨.inr Z, _, _, _, (.cons (.cella Z Z Z Z Z) .nil), (.cons (.agg (Qr (Qr (Qr (Qr (Qr .nil)))))) .nil), Z, Z⟩)
      · refine tk fun L hL => u0 (Q7 (c := ((a0.tmod 7) == 3)) Z Z Z Z Z) <| Qj Z Z <| rt (hL _ ?_);refine Z2 Z h (fun h => ?_) fun h => ?_
        · refine tk fun L hL => u0 (Qe Z Z Z Z Z Z Z) <| un (Qd Z Z Z Z Z Z Z Z Z) <| rt (hL _ ?_);obtain rfl := h;exact Qa (hQ _ _ ⟨.inr Z, _, _, _, (.cons (.cella Z Z Z Z Z) .nil), (.cons (.agg (Qr (Qr (Qr (Qr (Qr .nil)))))) .nil), Z, Z⟩)
        · refine tk fun L hL => u0 (Q7 (c := ((a0.tmod 7) == 4)) Z Z Z Z Z) <| Qj Z Z <| rt (hL _ ?_);refine Z2 Z h (fun h => ?_) fun h => ?_
          · refine tk fun L hL => mv Z ?_;refine u0 (Zh (by decide) Z Z Z Z) ?_;refine u0 (QV (z := .int .i64 (Z0 .i64 (QN .i64 a0 3) 7)) Z Z Z Z Z) <| u0 (Qe Z Z Z Z Z Z Z) <| un (Qd Z Z Z Z Z Z Z Z Z) <| rt (hL _ ?_);obtain rfl := h;exact Qa (hQ _ _ ⟨.inr Z, _, _, _, (.cons (.cella Z Z Z Z Z) .nil), (.cons (.agg (Qr (Qr (Qr (Qr (Qr .nil)))))) .nil), Z, Z⟩)
          · refine tk fun L hL => u0 (Q7 (c := ((a0.tmod 7) == 5)) Z Z Z Z Z) <| Qj Z Z <| rt (hL _ ?_);refine Z2 Z h (fun h => ?_) fun h => ?_
            · refine tk fun L hL => mv Z ?_;refine u0 (Zh (by decide) Z Z Z Z) ?_;obtain ⟨v3, hv3, h⟩ := h;refine u0 (Q6 (AH _ _ hv3) Z Z (.cons (.c (.p _)) .nil) Z Z Z) <| u0 (Qe Z Z Z Z Z Z Z) <| un (Qd Z Z Z Z Z Z Z Z Z) <| rt (hL _ ?_);obtain rfl := h;exact Qa (hQ _ _ ⟨.inr Z, _, _, _, (.cons (.cella Z Z Z Z Z) .nil), (.cons (.agg (Qr (Qr (Qr (Qr (Qr .nil)))))) .nil), Z, Z⟩)
            · refine Qc (hL1 _ ?_);refine tk fun L hL => mv Z ?_;refine u0 (Zh (by decide) Z Z Z Z) ?_;refine u0 (QV (z := .int .i64 (Z0 .i64 (QN .i64 a0 3) 3)) Z Z Z Z Z) <| mv Z ?_;refine u0 (Zh (by decide) Z Z Z Z) ?_;refine u0 (QV (z := .int .i64 (Z0 .i64 (QN .i64 a0 5) 3)) Z Z Z Z Z) <| u0 (QK Z Z Z Z Z) <| u0 (Qe Z Z Z Z Z Z Z) <| un (Qd Z Z Z Z Z Z Z Z Z) <| rt (hL _ ?_);obtain rfl := h;exact Qa (hQ _ _ ⟨.inr Z, _, _, _, (.cons (.cella Z Z Z Z Z) .nil), (.cons (.agg (Qr (Qr (Qr (Qr (Qr .nil)))))) .nil), Z, Z⟩)
def C4 (a0 : (List Int)) (a1 : Int) (Q : Int → Prop) : Prop :=
 ((((((a0.length : Int)) == 0)) = true → Q ((Z0 .i64 a1 65535))) ∧ (((((a0.length : Int)) == 0)) = false → (((a0.length : Int) : Int) ≠ 0) ∧ ∃ v3, ix a0 (a1.tmod ((a0.length : Int))) v3 ∧ (((a0.length : Int) : Int) ≠ 0) ∧ Q ((IntKind.i64.wrap ((Z0 .i64 v3 65535) + (IntKind.i64.wrap (a1.tdiv ((a0.length : Int)))))))))
def Vi (a0 : (List Int)) (a1 : Int) (r : Int) : Prop := C4 a0 a1 fun x => r = x
theorem YA (a0 : (List Int)) (a1 : Int) (r : Int) (h : Vi a0 a1 r) : Qq Tryz.prog 17 [.c (.l 1 (List.map (eI .i64) a0)), .c (.v (.int .i64 a1))] [.c (.p (.v (.int .i64 r)))] [] := by
  refine Qp tb Tryz.func17 Z (by kernel_rfl) Z Z (Nat.le_of_ble_eq_true Z) Z ?_;intro E;unfold Vi C4 at h;refine Zg (fun Q hQ => ?_);refine tk fun L hL => Qj Z Z <| rt (hL _ ?_);refine sk fun L1 hL1 => tk fun L hL => mv Z <| u0 (Qs Z Z Z Z) <| u0 (Q7 (c := (((a0.length : Int)) == 0)) Z Z Z Z Z) <| rt (hL _ ?_);refine Z2 Z h (fun h => ?_) fun h => ?_
  · refine tk fun L hL => mv Z <| u0 (QV (z := .int .i64 (Z0 .i64 a1 65535)) Z Z Z Z Z) <| Qj Z Z <| rt (hL _ ?_);obtain rfl := h;exact Qa (hQ _ _ (ZN Z Z))
  · refine Qc (hL1 _ ?_);refine dk mixed (fun L hL => ?_);refine mv Z <| mv Z <| mv Z <| u0 (Qs Z Z Z Z) ?_;obtain ⟨hz2, h⟩ := h;refine u0 (Xw hz2 Z Z Z Z) ?_;obtain ⟨v3, hv3, h⟩ := h;refine u0 (QC hv3 Z Z Z Z Z Z Z Z) <| u0 (Qw Z Z Z Z Z) <| u0 (QV (z := .int .i64 (Z0 .i64 v3 65535)) Z Z Z Z Z) <| mv Z <| mv Z <| u0 (Qs Z Z Z Z) ?_;obtain ⟨hz4, h⟩ := h;refine u0 (DO hz4 Z Z Z Z) <| u0 (QK Z Z Z Z Z) <| Qj Z Z <| rd (hL _ ?_);obtain rfl := h;exact Qa (hQ _ _ (ZN Z Z))
def Us (a0 : Int) (Q : ByteArray → Prop) : Prop :=
 ∃ v1, ix ([((⟨#[97]⟩ : ByteArray)), ((⟨#[98]⟩ : ByteArray)), ((⟨#[99]⟩ : ByteArray))]) ((Z0 .i64 a0 16777215).tmod 3) v1 ∧ Q v1
def Zr (a0 : Int) (r : ByteArray) : Prop := Us a0 fun x => r = x
theorem ZQ (a0 : Int) (r : ByteArray) (h : Zr a0 r) : Qq Tryz.prog 18 [.c (.v (.int .i64 a0))] [.c (.p (.v (.string r)))] [] := by
  refine Qp tb Tryz.func18 Z (by kernel_rfl) Z Z (Nat.le_of_ble_eq_true Z) Z ?_;intro E;unfold Zr Us at h;refine Zg (fun Q hQ => ?_);refine tk fun L hL => Qj Z Z <| rt (hL _ ?_);refine tk fun L hL => ul (Qz (rows := List.map eS [((⟨#[97]⟩ : ByteArray)), ((⟨#[98]⟩ : ByteArray)), ((⟨#[99]⟩ : ByteArray))]) Z Z Z Z Z Z Z Z Z Z Z Z Z) <| mv Z <| u0 (QV (z := .int .i64 (Z0 .i64 a0 16777215)) Z Z Z Z Z) ?_;refine u0 (Xw (by decide) Z Z Z Z) ?_;obtain ⟨v1, hv1, h⟩ := h;refine u0 (QW hv1 Z Z Z Z Z Z Z Z Z Z) <| u0 (Z1 Z Z (gm hv1.2) Z Z Z Z) <| Qj Z Z <| rt (hL _ ?_);obtain rfl := h;exact Qa (hQ _ _ (ZN Z Z))
def W9 (a0 : Int) (Q : Qf → Prop) : Prop :=
 (((((a0.tmod 6) == 0)) = true → Q ((Qf.mk 1 0 0 0))) ∧ ((((a0.tmod 6) == 0)) = false → (((((a0.tmod 6) == 1)) = true → Q ((Qf.mk 2 (IntKind.i64.wrap (1 + (Z0 .i64 (QN .i64 a0 4) 3))) (IntKind.i64.wrap (1 + (Z0 .i64 (QN .i64 a0 3) 1))) (IntKind.u64.wrap (Z0 .i64 (QN .i64 a0 8) 3))))) ∧ ((((a0.tmod 6) == 1)) = false → (((((a0.tmod 6) == 2)) = true → Q ((Qf.mk 3 (IntKind.i64.wrap (2 + (Z0 .i64 (QN .i64 a0 3) 1))) 0 (IntKind.u64.wrap (Z0 .i64 (QN .i64 a0 8) 3))))) ∧ ((((a0.tmod 6) == 2)) = false → (((((a0.tmod 6) == 3)) = true → Q ((Qf.mk 4 (IntKind.i64.wrap (1 + (Z0 .i64 (QN .i64 a0 3) 3))) 0 0))) ∧ ((((a0.tmod 6) == 3)) = false → (((((a0.tmod 6) == 4)) = true → Q ((Qf.mk 5 (IntKind.i64.wrap (1 + (Z0 .i64 (QN .i64 a0 3) 3))) 0 0))) ∧ ((((a0.tmod 6) == 4)) = false → Q ((Qf.mk 6 (IntKind.i64.wrap (2 + (IntKind.i64.wrap (2 * (Z0 .i64 (QN .i64 a0 3) 1))))) 0 0))))))))))))
def Vj (a0 : Int) (r : Qf) : Prop := W9 a0 fun x => r = x
theorem Am (a0 : Int) (r : Qf) (h : Vj a0 r) : Qq Tryz.prog 19 [.c (.v (.int .i64 a0))] [.agg [.p (.v (.int .i64 r.ff)), .p (.v (.int .i64 r.fg)), .p (.v (.int .i64 r.fm)), .p (.v (.int .u64 r.fo))]] [] := by
  refine Qp tb Tryz.func19 Z (by kernel_rfl) Z Z (Nat.le_of_ble_eq_true Z) Z ?_;intro E;unfold Vj W9 at h;refine Zg (fun Q hQ => ?_);refine tk fun L hL => u1 (QO Z Z Z) <| rt (hL _ ?_);refine tk fun L hL => mv Z ?_;refine u0 (Zh (by decide) Z Z Z Z) ?_;refine u0 (QV (z := .int .i64 (Z0 .i64 (QN .i64 a0 8) 3)) Z Z Z Z Z) <| u0 (Zj (T := tb) Z Z Z Z Z Z) <| Qj Z Z <| rt (hL _ ?_);refine sk fun L1 hL1 => tk fun L hL => mv Z ?_;refine u0 (Xw (by decide) Z Z Z Z) ?_;refine rt (hL _ ?_);refine Qt <| tk fun L hL => u0 (Q7 (c := ((a0.tmod 6) == 0)) Z Z Z Z Z) <| Qj Z Z <| rt (hL _ ?_);refine Z2 Z h (fun h => ?_) fun h => ?_
  · refine tk fun L hL => u0 (Qe Z Z Z Z Z Z Z) <| un (Qd Z Z Z Z Z Z Z Z Z) <| rt (hL _ ?_);obtain rfl := h;exact Qa (hQ _ _ ⟨.inr Z, _, _, _, (.cons (.cella Z Z Z Z Z) .nil), (.cons (.agg (Qr (Qr (Qr (Qr .nil))))) .nil), Z, Z⟩)
  · refine tk fun L hL => u0 (Q7 (c := ((a0.tmod 6) == 1)) Z Z Z Z Z) <| Qj Z Z <| rt (hL _ ?_);refine Z2 Z h (fun h => ?_) fun h => ?_
    · refine tk fun L hL => mv Z ?_;refine u0 (Zh (by decide) Z Z Z Z) ?_;refine u0 (QV (z := .int .i64 (Z0 .i64 (QN .i64 a0 3) 1)) Z Z Z Z Z) <| u0 (QK Z Z Z Z Z) <| mv Z ?_;refine u0 (Zh (by decide) Z Z Z Z) ?_;refine u0 (QV (z := .int .i64 (Z0 .i64 (QN .i64 a0 4) 3)) Z Z Z Z Z) <| u0 (QK Z Z Z Z Z) <| mv Z <| u0 (Qe Z Z Z Z Z Z Z) <| un (Qd Z Z Z Z Z Z Z Z Z) <| rt (hL _ ?_);obtain rfl := h;exact Qa (hQ _ _ ⟨.inr Z, _, _, _, (.cons (.cella Z Z Z Z Z) .nil), (.cons (.agg (Qr (Qr (Qr (Qr .nil))))) .nil), Z, Z⟩)
    · refine tk fun L hL => u0 (Q7 (c := ((a0.tmod 6) == 2)) Z Z Z Z Z) <| Qj Z Z <| rt (hL _ ?_);refine Z2 Z h (fun h => ?_) fun h => ?_
      · refine tk fun L hL => mv Z ?_;refine u0 (Zh (by decide) Z Z Z Z) ?_;refine u0 (QV (z := .int .i64 (Z0 .i64 (QN .i64 a0 3) 1)) Z Z Z Z Z) <| u0 (QK Z Z Z Z Z) <| mv Z <| u0 (Qe Z Z Z Z Z Z Z) <| un (Qd Z Z Z Z Z Z Z Z Z) <| rt (hL _ ?_);obtain rfl := h;exact Qa (hQ _ _ ⟨.inr Z, _, _, _, (.cons (.cella Z Z Z Z Z) .nil), (.cons (.agg (Qr (Qr (Qr (Qr .nil))))) .nil), Z, Z⟩)
      · refine tk fun L hL => u0 (Q7 (c := ((a0.tmod 6) == 3)) Z Z Z Z Z) <| Qj Z Z <| rt (hL _ ?_);refine Z2 Z h (fun h => ?_) fun h => ?_
        · refine tk fun L hL => mv Z ?_;refine u0 (Zh (by decide) Z Z Z Z) ?_;refine u0 (QV (z := .int .i64 (Z0 .i64 (QN .i64 a0 3) 3)) Z Z Z Z Z) <| u0 (QK Z Z Z Z Z) <| u0 (Qe Z Z Z Z Z Z Z) <| un (Qd Z Z Z Z Z Z Z Z Z) <| rt (hL _ ?_);obtain rfl := h;exact Qa (hQ _ _ ⟨.inr Z, _, _, _, (.cons (.cella Z Z Z Z Z) .nil), (.cons (.agg (Qr (Qr (Qr (Qr .nil))))) .nil), Z, Z⟩)
        · refine tk fun L hL => u0 (Q7 (c := ((a0.tmod 6) == 4)) Z Z Z Z Z) <| Qj Z Z <| rt (hL _ ?_);refine Z2 Z h (fun h => ?_) fun h => ?_
          · refine tk fun L hL => mv Z ?_;refine u0 (Zh (by decide) Z Z Z Z) ?_;refine u0 (QV (z := .int .i64 (Z0 .i64 (QN .i64 a0 3) 3)) Z Z Z Z Z) <| u0 (QK Z Z Z Z Z) <| u0 (Qe Z Z Z Z Z Z Z) <| un (Qd Z Z Z Z Z Z Z Z Z) <| rt (hL _ ?_);obtain rfl := h;exact Qa (hQ _ _ ⟨.inr Z, _, _, _, (.cons (.cella Z Z Z Z Z) .nil), (.cons (.agg (Qr (Qr (Qr (Qr .nil))))) .nil), Z, Z⟩)
          · refine Qc (hL1 _ ?_);refine tk fun L hL => mv Z ?_;refine u0 (Zh (by decide) Z Z Z Z) ?_;refine u0 (QV (z := .int .i64 (Z0 .i64 (QN .i64 a0 3) 1)) Z Z Z Z Z) <| u0 (VN Z Z Z Z Z) <| u0 (QK Z Z Z Z Z) <| u0 (Qe Z Z Z Z Z Z Z) <| un (Qd Z Z Z Z Z Z Z Z Z) <| rt (hL _ ?_);obtain rfl := h;exact Qa (hQ _ _ ⟨.inr Z, _, _, _, (.cons (.cella Z Z Z Z Z) .nil), (.cons (.agg (Qr (Qr (Qr (Qr .nil))))) .nil), Z, Z⟩)
def Ut (a0 : Int) (Q : Qh → Prop) : Prop :=
 jn (fun (p1 : Int) => ∃ v2, Xp a0 v2 ∧ Q ((Qh.mk v2 p1))) (fun (J1 : Int → Prop) => (((((Z0 .i64 (QN .i64 a0 12) 15) == 14)) = true → J1 ((IntKind.i64.wrap (1 + ((IntKind.i64.wrap ((Z0 .i64 a0 65535) * 65537)).tmod 4294967295))))) ∧ ((((Z0 .i64 (QN .i64 a0 12) 15) == 14)) = false → (((((Z0 .i64 (QN .i64 a0 12) 15) == 15)) = true → J1 ((IntKind.i64.wrap (4294967295 - (Z0 .i64 a0 3))))) ∧ ((((Z0 .i64 (QN .i64 a0 12) 15) == 15)) = false → J1 ((IntKind.i64.wrap (1 + (Z0 .i64 (QN .i64 a0 4) 7)))))))))
def Ye (a0 : Int) (r : Qh) : Prop := Ut a0 fun x => r = x
theorem GT (a0 : Int) (r : Qh) (h : Ye a0 r) : Qq Tryz.prog 37 [.c (.v (.int .i64 a0))] [.agg [.p (.v (.string r.f3)), .p (.v (.int .i64 r.f4))]] [] := by
  refine Qp tb Tryz.func37 Z (by kernel_rfl) Z Z (Nat.le_of_ble_eq_true Z) Z ?_;intro E;unfold Ye Ut at h;refine Zg (fun Q hQ => ?_);refine tk fun L hL => u1 (QO Z Z Z) <| rt (hL _ ?_);refine tk fun L hL => mv Z ?_;refine u0 (Zh (by decide) Z Z Z Z) ?_;refine u0 (QV (z := .int .i64 (Z0 .i64 (QN .i64 a0 4) 7)) Z Z Z Z Z) <| u0 (QK Z Z Z Z Z) <| Qj Z Z <| rt (hL _ ?_);refine Zb (fun (p1 : Int) => (⟨[(0, .c (.p (.v (.int .i64 a0)))), (2, .c (.ptr (2, 0) 0 0)), (3, .c (.p (.v (.int .i64 p1))))], [((2, 0), some (.box ([.p (.v (.string ByteArray.empty)), .p (.v (.int .i64 0))])))]⟩ : St)) h (fun p1 h => ?_) (fun J1 L1 hL1 h => ?_)
  · refine tk fun L hL => mv Z ?_;obtain ⟨v2, hv2, h⟩ := h;refine u0 (Q6 (AH _ _ hv2) Z Z (.cons (.c (.p _)) .nil) Z Z Z) <| mv Z <| u0 (Qe Z Z Z Z Z Z Z) <| un (Qd Z Z Z Z Z Z Z Z Z) <| rt (hL _ ?_);obtain rfl := h;exact Qa (hQ _ _ ⟨.inr Z, _, _, _, (.cons (.cella Z Z Z Z Z) .nil), (.cons (.agg (Qr (Qr .nil))) .nil), Z, Z⟩)
  · refine tk fun L hL => mv Z ?_;refine u0 (Zh (by decide) Z Z Z Z) ?_;refine u0 (QV (z := .int .i64 (Z0 .i64 (QN .i64 a0 12) 15)) Z Z Z Z Z) <| rt (hL _ ?_);refine Qt <| tk fun L hL => u0 (Q7 (c := ((Z0 .i64 (QN .i64 a0 12) 15) == 14)) Z Z Z Z Z) <| Qj Z Z <| rt (hL _ ?_);refine Z2 Z h (fun h => ?_) fun h => ?_
    · refine tl fun L hL => mv Z <| u0 (QV (z := .int .i64 (Z0 .i64 a0 65535)) Z Z Z Z Z) <| u0 (VN Z Z Z Z Z) ?_;refine u0 (Xw (by decide) Z Z Z Z) ?_;refine u0 (QK Z Z Z Z Z) <| Qj Z Z ?_;refine rt (hL _ (hL1 _ _ h (QL.nm [0, 2, 3] [((2, 0), (2, 0))] Z (by kernel_rfl))))
    · refine tk fun L hL => u0 (Q7 (c := ((Z0 .i64 (QN .i64 a0 12) 15) == 15)) Z Z Z Z Z) <| Qj Z Z <| rt (hL _ ?_);refine Z2 Z h (fun h => ?_) fun h => ?_
      · refine tl fun L hL => mv Z <| u0 (QV (z := .int .i64 (Z0 .i64 a0 3)) Z Z Z Z Z) <| u0 (Zy Z Z Z Z Z) <| Qj Z Z ?_;refine rt (hL _ (hL1 _ _ h (QL.nm [0, 2, 3] [((2, 0), (2, 0))] Z (by kernel_rfl))))
      · refine Qc (hL1 _ _ h (QL.nm [0, 2, 3] [((2, 0), (2, 0))] Z (by kernel_rfl)))
def VR (a0 : (List Int)) (a1 : Int) (Q : ((List Qh)) → Prop) : Prop :=
 jn (fun (p1 : (List Qh)) => Q p1) (fun (J1 : (List Qh) → Prop) => lp (fun (X2 : (List Qh) × Int → Prop) (s2 : (List Qh) × Int) => (((decide (s2.2 < a1)) = true → ∃ v5, Vi a0 s2.2 v5 ∧ ∃ v6, Ye v5 v6 ∧ ((s2.1.length + ([v6]).length) * 24 ≤ 140737488355328) ∧ X2 ((s2.1 ++ ([v6])), (IntKind.i64.wrap (s2.2 + 1)))) ∧ ((decide (s2.2 < a1)) = false → J1 s2.1))) (([] : (List Qh)), 0))
def V1 (a0 : (List Int)) (a1 : Int) (r : (List Qh)) : Prop := VR a0 a1 fun x => r = x
theorem FR {a0 : (List Int)} {a1 : Int} {Post : ((List Qh)) → Prop} (h : VR a0 a1 Post) : ∃ r, V1 a0 a1 r ∧ Post r := (show GM (VR a0 a1) (VR a0 a1) from GM.join (fun p1 => GM.ret _) (fun _ _ J1 => GM.loop (fun X Y Q s2 X2 h => ⟨fun hc => (Exists.elim (h.1 hc) fun v5 hv5 => ⟨v5, hv5.1, (Exists.elim hv5.2 fun v6 hv6 => ⟨v6, hv6.1, ⟨hv6.2.1, X2 _ hv6.2.2⟩⟩)⟩), fun hc => h.2 hc⟩) (fun _ _ X2 s2 => GM.cond (GM.ex fun v5 => GM.ex fun v6 => GM.and (X2 _)) (J1 _)))) Post h
theorem BB (a0 : (List Int)) (a1 : Int) (r : (List Qh)) (h : V1 a0 a1 r) : Qq Tryz.prog 21 [.c (.l 1 (List.map (eI .i64) a0)), .c (.v (.int .i64 a1))] [.c (.own 2 (List.map Z5 r))] [] := by
  refine Qp tb Tryz.func21 Z (by kernel_rfl) Z Z (Nat.le_of_ble_eq_true Z) Z ?_;intro E;unfold V1 VR at h;refine Zg (fun Q hQ => ?_);refine tk fun L hL => Qj Z Z <| rt (hL _ ?_);refine tk fun L hL => Qj Z Z <| rt (hL _ ?_);refine Zb (fun (p1 : (List Qh)) => (⟨[(5, .c (.sl (5, 1000) 0 (List.map Z5 p1).length))], [((5, 1000), some (.row 2 (List.map Z5 p1) true))]⟩ : St)) h (fun p1 h => ?_) (fun J1 L1 hL1 h => ?_)
  · refine tk fun L hL => mv Z <| Qj Z Z <| rt (hL _ ?_);obtain rfl := h;exact Qa (hQ _ _ (Hh Z Z Z Z))
  · refine tk fun L hL => Qj Z Z <| rt (hL _ ?_);refine Qt ?_;refine ZE (fun (s2 : (List Qh) × Int) => (⟨[(0, .c (.p (.l 1 (List.map (eI .i64) a0)))), (1, .c (.p (.v (.int .i64 a1)))), (5, .c (.sl (5, 1000) 0 (List.map Z5 s2.1).length)), (6, .c (.p (.v (.int .i64 s2.2))))], [((5, 1000), some (.row 2 (List.map Z5 s2.1) true))]⟩ : St)) h ((QL.blk (5, 1050) 2 Z Z Z).trans ((QL.slot 5 Z (.nilo (b := (5, 1050)) Z)).trans (QL.nm [0, 1, 5, 6] [((5, 1050), (5, 1000))] Z (by kernel_rfl)))) (fun X2 L2 hL2 s2 h => ?_);refine sk fun L3 hL3 => tk fun L hL => mv Z <| mv Z <| u0 (Q7 (c := decide (s2.2 < a1)) Z Z Z Z Z) <| rt (hL _ ?_);refine Z2 Z h (fun h => ?_) fun h => ?_
    · refine Qc (hL3 _ ?_);refine sk fun L4 hL4 => Qt <| tl fun L hL => mv Z <| mv Z <| mv Z ?_;obtain ⟨v5, hv5, h⟩ := h;refine u0 (Q6 (YA _ _ _ hv5) Z Z (.cons (.c (.p _)) (.cons (.c (.p _)) .nil)) Z Z Z) ?_;obtain ⟨v6, hv6, h⟩ := h;refine u0 (Q6 (GT _ _ hv6) Z Z (.cons (.c (.p _)) .nil) Z Z Z) <| ul (Qz (rows := List.map Z5 [v6]) Z Z Z Z Z Z Z Z Z Z Z Z Z) ?_;obtain ⟨hm7, h⟩ := h;refine ul (QF (f := Z5) (L := s2.1) (L' := [v6]) hm7 Z Z Z Z Z Z Z Z Z Z Z (QJ QY Z Z Z Z Z Z)) <| Qj Z Z <| rt (hL _ (hL4 _ ?_));refine tl fun L hL => mv Z <| u0 (QK Z Z Z Z Z) <| Qj Z Z ?_;refine rt (hL _ (hL2 _ _ h (QL.nm [0, 1, 5, 6] [((18, 0), (5, 1000))] Z (by kernel_rfl))))
    · refine Z6 (hL1 _ _ h (QL.nm [5] [((5, 1000), (5, 1000))] Z (by kernel_rfl)))
def WJ (a0 : Int) (Q : ((List Int)) → Prop) : Prop :=
 ((0 : Int) ≤ (IntKind.i64.wrap ((Z0 .i64 a0 3) + 1)) ∧ (IntKind.i64.wrap ((Z0 .i64 a0 3) + 1) : Int) ≤ (((List.map (eI .u8) ([(IntKind.u8.wrap a0), (IntKind.u8.wrap (QN .i64 a0 3)), (IntKind.u8.wrap (QN .i64 a0 5)), (IntKind.u8.wrap (QN .i64 a0 7))])).length : Nat) : Int)) ∧ Q ((List.take (Int.toNat (IntKind.i64.wrap ((Z0 .i64 a0 3) + 1))) ([(IntKind.u8.wrap a0), (IntKind.u8.wrap (QN .i64 a0 3)), (IntKind.u8.wrap (QN .i64 a0 5)), (IntKind.u8.wrap (QN .i64 a0 7))])))
def Jv (a0 : Int) (r : (List Int)) : Prop := WJ a0 fun x => r = x
theorem Yx (a0 : Int) (r : (List Int)) (h : Jv a0 r) : Qq Tryz.prog 22 [.c (.v (.int .i64 a0))] [.c (.p (.l 1 (List.map (eI .u8) r)))] [] := by
  refine Qp tb Tryz.func22 Z (by kernel_rfl) Z Z (Nat.le_of_ble_eq_true Z) Z ?_;intro E;unfold Jv WJ at h;refine Zg (fun Q hQ => ?_);refine tk fun L hL => Qj Z Z <| rt (hL _ ?_);refine tk fun L hL => mv Z <| u0 (Zj (T := tb) Z Z Z Z Z Z) <| mv Z ?_;refine u0 (Zh (by decide) Z Z Z Z) ?_;refine u0 (Zj (T := tb) Z Z Z Z Z Z) <| mv Z ?_;refine u0 (Zh (by decide) Z Z Z Z) ?_;refine u0 (Zj (T := tb) Z Z Z Z Z Z) <| mv Z ?_;refine u0 (Zh (by decide) Z Z Z Z) ?_;refine u0 (Zj (T := tb) Z Z Z Z Z Z) <| ul (Qz (rows := List.map (eI .u8) [(IntKind.u8.wrap a0), (IntKind.u8.wrap (QN .i64 a0 3)), (IntKind.u8.wrap (QN .i64 a0 5)), (IntKind.u8.wrap (QN .i64 a0 7))]) Z Z Z Z Z Z Z Z Z Z Z Z Z) <| mv Z <| u0 (QV (z := .int .i64 (Z0 .i64 a0 3)) Z Z Z Z Z) <| u0 (QK Z Z Z Z Z) ?_;obtain ⟨hm1, h⟩ := h;refine u0 (E1 hm1 Z Z Z Z Z Z Z Z Z) <| Qj Z Z <| rt (hL _ ?_);obtain rfl := h;exact Qa (hQ _ _ ⟨.inr Z, _, _, _, (.cons (.s Z) .nil), (.cons (.c (.fr Z Ik)) .nil), Z, Z⟩)
def YM (a0 : Int) (a1 : Int) (a2 : Int) (Q : Bool → Prop) : Prop :=
 Q (((bif decide (a0 ≥ a1) then decide (a0 ≤ a2) else false)))
def Zt (a0 : Int) (a1 : Int) (a2 : Int) (r : Bool) : Prop := YM a0 a1 a2 fun x => r = x
theorem Ka (a0 : Int) (a1 : Int) (a2 : Int) (r : Bool) (h : Zt a0 a1 a2 r) : Qq Tryz.prog 70 [.c (.v (.int .i64 a0)), .c (.v (.int .i64 a1)), .c (.v (.int .i64 a2))] [.c (.p (.v (.bool r)))] [] := by
  refine Qp tb Tryz.func70 Z (by kernel_rfl) Z Z (Nat.le_of_ble_eq_true Z) Z ?_;intro E;unfold Zt YM at h;refine Zg (fun Q hQ => ?_);refine tk fun L hL => Qj Z Z <| rt (hL _ ?_);refine tk fun L hL => mv Z <| mv Z <| u0 (Q7 (c := decide (a0 ≥ a1)) Z Z Z Z Z) <| mv Z <| Q5 Z Z Qb (fun hg => Qm Z Z) <| Q5 Z Z Qb (fun hg => Qm Z Z) <| Q5 Z Z Qb (fun hg => Q7 (c := decide (a0 ≤ a2)) (Ql hg) (Ql hg) Z Z Z) <| u0 (Qu (v := .bool (decide (a0 ≤ a2))) (w := .bool false) Z Z Qb Z QH Z Z Z) <| Qj Z Z <| rt (hL _ ?_);obtain rfl := h;exact Qa (hQ _ _ (ZN Z Z))
def V2 (a0 : Qf) (Q : Int → Prop) : Prop :=
 jn (fun (p1 : Bool × Bool × Bool) => (((!(p1.1)) = true → Q 5) ∧ ((!(p1.1)) = false → ((((bif !(p1.2.1) then true else !(p1.2.2))) = true → Q 10) ∧ (((bif !(p1.2.1) then true else !(p1.2.2))) = false → Q 0))))) (fun (J1 : Bool × Bool × Bool → Prop) => ((((a0.ff == 1)) = true → ((((a0.fg != 0)) = true → Q 10) ∧ (((a0.fg != 0)) = false → J1 (true, ((a0.fm == 0)), ((a0.fo == 0)))))) ∧ (((a0.ff == 1)) = false → ((((a0.ff == 2)) = true → ∃ v2, Zt a0.fm 1 8 v2 ∧ ∃ (v3 : Bool), (v2 = true → Zt a0.fg 1 64 v3) ∧ J1 (((bif v2 then v3 else false)), true, true)) ∧ (((a0.ff == 2)) = false → ((((a0.ff == 3)) = true → ∃ v4, Zt a0.fg 2 8 v4 ∧ J1 (v4, ((a0.fm == 0)), true)) ∧ (((a0.ff == 3)) = false → jn (fun (p5 : Bool) => ((p5 = true → ∃ v6, Zt a0.fg 1 32 v6 ∧ J1 (v6, ((a0.fm == 0)), ((a0.fo == 0)))) ∧ (p5 = false → ((((a0.ff == 6)) = true → ∃ v7, Zt a0.fg 2 32 v7 ∧ J1 (((bif v7 then ((a0.fg.tmod 2) == 0) else false)), ((a0.fm == 0)), ((a0.fo == 0)))) ∧ (((a0.ff == 6)) = false → Q 8))))) (fun (J5 : Bool → Prop) => ((((a0.ff == 4)) = true → J5 (((a0.ff == 4)))) ∧ (((a0.ff == 4)) = false → J5 (((a0.ff == 5)))))))))))))
def Zp (a0 : Qf) (r : Int) : Prop := V2 a0 fun x => r = x
theorem V3 (a0 : Qf) (r : Int) (h : Zp a0 r) : Qq Tryz.prog 54 [.agg (Yv a0)] [.c (.p (.v (.int .i64 r)))] [] := by
  refine Qp tb Tryz.func54 Z (by kernel_rfl) Z Z (Nat.le_of_ble_eq_true Z) Z ?_;intro E;unfold Zp V2 at h;refine Zg (fun Q hQ => ?_);refine tk fun L hL => u1 (QG Z Z) <| Qj Z Z <| rt (hL _ ?_);refine dk mixed (fun L hL => ?_);refine u0 (Q1 Z Z Z Z Z Z Z Z Z) <| u0 (Q2 Z Z Z Z Z Z) <| u0 (Q7 (c := (a0.fm == 0)) Z Z Z Z Z) <| u0 (Q1 Z Z Z Z Z Z Z Z Z) <| u0 (Q2 Z Z Z Z Z Z) <| u0 (Q7 (c := (a0.fo == 0)) Z Z Z Z Z) <| Qj Z Z <| Qj Z Z <| Qj Z Z <| rd (hL _ ?_);refine Zb (fun (p1 : Bool × Bool × Bool) => (⟨[(3, .c (.p (.v (.bool p1.1)))), (4, .c (.p (.v (.bool p1.2.1)))), (5, .c (.p (.v (.bool p1.2.2))))], []⟩ : St)) h (fun p1 h => ?_) (fun J1 L1 hL1 h => ?_)
  · refine sk fun L8 hL8 => tk fun L hL => mv Z <| u0 (QM Z Z Z) <| rt (hL _ ?_);refine Z2 Z h (fun h => ?_) fun h => ?_
    · refine tk fun L hL => Qj Z Z <| rt (hL _ ?_);obtain rfl := h;exact Qa (hQ _ _ (ZN Z Z))
    · refine Qc (hL8 _ ?_);refine sk fun L9 hL9 => tk fun L hL => mv Z <| u0 (QM Z Z Z) <| mv Z <| Q5 Z Z Qg (fun hg => Qm Z Z) <| Q5 Z Z Qg (fun hg => QM (Ql hg) Z Z) <| u0 (Qy (v := .bool true) (w := .bool (!(p1.2.2))) Z Z Qg Z QH Z Z Z) <| rt (hL _ ?_);refine Z2 Z h (fun h => ?_) fun h => ?_
      · refine tk fun L hL => Qj Z Z <| rt (hL _ ?_);obtain rfl := h;exact Qa (hQ _ _ (ZN Z Z))
      · refine Qc (hL9 _ ?_);refine Zc (st' := ⟨[], []⟩) (QL.nm [] [] Z Z) ?_;refine tk fun L hL => Qj Z Z <| rt (hL _ ?_);obtain rfl := h;exact Qa (hQ _ _ (ZN Z Z))
  · refine tk fun L hL => u0 (Q1 Z Z Z Z Z Z Z Z Z) <| u0 (Q2 Z Z Z Z Z Z) <| rt (hL _ ?_);refine Qt <| tk fun L hL => u0 (Q7 (c := (a0.ff == 1)) Z Z Z Z Z) <| Qj Z Z <| rt (hL _ ?_);refine Z2 Z h (fun h => ?_) fun h => ?_
    · refine tk fun L hL => u0 (Q1 Z Z Z Z Z Z Z Z Z) <| u0 (Q2 Z Z Z Z Z Z) <| u0 (Q7 (c := (a0.fg != 0)) Z Z Z Z Z) <| rt (hL _ ?_);refine Z2 Z h (fun h => ?_) fun h => ?_
      · refine tk fun L hL => Qj Z Z <| rt (hL _ ?_);obtain rfl := h;exact Qa (hQ _ _ (ZN Z Z))
      · refine Qc (hL1 _ _ h (QL.nm [3, 4, 5] [] Z (by kernel_rfl)))
    · refine tk fun L hL => u0 (Q7 (c := (a0.ff == 2)) Z Z Z Z Z) <| Qj Z Z <| rt (hL _ ?_);refine Z2 Z h (fun h => ?_) fun h => ?_
      · refine tl fun L hL => u0 (Q1 Z Z Z Z Z Z Z Z Z) <| u0 (Q2 Z Z Z Z Z Z) ?_;obtain ⟨v2, hv2, h⟩ := h;refine u0 (Q6 (Ka _ _ _ _ hv2) Z Z (.cons (.c (.p _)) (.cons (.c (.p _)) (.cons (.c (.p _)) .nil))) Z Z Z) <| mv Z <| Q5 Z Z Qb (fun hg => Q1 Z Z Z Z Z Z Z Z Z) <| Q5 Z Z Qb (fun hg => Q2 (Ql hg) Z Z Z Z Z) ?_;obtain ⟨v3, hv3, h⟩ := h;refine Q5 Z Z Qb (fun hg => Q6 (Ka _ _ _ _ (hv3 hg)) Z Z (.cons (Zo hg (.c (.p _))) (.cons (.c (.p _)) (.cons (.c (.p _)) .nil))) Z Z Z) <| u0 (Qu (v := .bool v3) (w := .bool false) Z Z Qb Z QH Z Z Z) <| Qj Z Z <| Qj Z Z <| Qj Z Z ?_;refine rt (hL _ (hL1 _ _ h (QL.nm [3, 4, 5] [] Z (by kernel_rfl))))
      · refine tk fun L hL => u0 (Q7 (c := (a0.ff == 3)) Z Z Z Z Z) <| Qj Z Z <| rt (hL _ ?_);refine Z2 Z h (fun h => ?_) fun h => ?_
        · refine tl fun L hL => u0 (Q1 Z Z Z Z Z Z Z Z Z) <| u0 (Q2 Z Z Z Z Z Z) ?_;obtain ⟨v4, hv4, h⟩ := h;refine u0 (Q6 (Ka _ _ _ _ hv4) Z Z (.cons (.c (.p _)) (.cons (.c (.p _)) (.cons (.c (.p _)) .nil))) Z Z Z) <| Qj Z Z <| Qj Z Z ?_;refine rt (hL _ (hL1 _ _ h (QL.nm [3, 4, 5] [] Z (by kernel_rfl))))
        · refine Zb (fun (p5 : Bool) => (⟨[(1, .c (.ptr (1, 0) 0 0)), (4, .c (.p (.v (.bool ((a0.fm == 0)))))), (5, .c (.p (.v (.bool ((a0.fo == 0)))))), (13, .c (.p (.v (.int .i64 a0.ff)))), (34, .c (.p (.v (.bool p5))))], [((1, 0), some (.box (List.map CV.p (Yv a0))))]⟩ : St)) h (fun p5 h => ?_) (fun J5 L5 hL5 h => ?_)
          · refine Z2 Z h (fun h => ?_) fun h => ?_
            · refine tl fun L hL => u0 (Q1 Z Z Z Z Z Z Z Z Z) <| u0 (Q2 Z Z Z Z Z Z) ?_;obtain ⟨v6, hv6, h⟩ := h;refine u0 (Q6 (Ka _ _ _ _ hv6) Z Z (.cons (.c (.p _)) (.cons (.c (.p _)) (.cons (.c (.p _)) .nil))) Z Z Z) <| Qj Z Z ?_;refine rt (hL _ (hL1 _ _ h (QL.nm [3, 4, 5] [] Z (by kernel_rfl))))
            · refine tk fun L hL => u0 (Q7 (c := (a0.ff == 6)) Z Z Z Z Z) <| Qj Z Z <| rt (hL _ ?_);refine Z2 Z h (fun h => ?_) fun h => ?_
              · refine tl fun L hL => u0 (Q1 Z Z Z Z Z Z Z Z Z) <| u0 (Q2 Z Z Z Z Z Z) ?_;obtain ⟨v7, hv7, h⟩ := h;refine u0 (Q6 (Ka _ _ _ _ hv7) Z Z (.cons (.c (.p _)) (.cons (.c (.p _)) (.cons (.c (.p _)) .nil))) Z Z Z) <| mv Z <| Q5 Z Z Qb (fun hg => Q1 Z Z Z Z Z Z Z Z Z) <| Q5 Z Z Qb (fun hg => Q2 (Ql hg) Z Z Z Z Z) ?_;refine Q5 Z Z Qb (fun hg => Xw (by decide) (Ql hg) Z Z Z) ?_;refine Q5 Z Z Qb (fun hg => Q7 (c := ((a0.fg.tmod 2) == 0)) (Ql hg) Z Z Z Z) <| u0 (Qu (v := .bool (((a0.fg.tmod 2) == 0))) (w := .bool false) Z Z Qb Z QH Z Z Z) <| Qj Z Z ?_;refine rt (hL _ (hL1 _ _ h (QL.nm [3, 4, 5] [] Z (by kernel_rfl))))
              · refine tk fun L hL => Qj Z Z <| rt (hL _ ?_);obtain rfl := h;exact Qa (hQ _ _ (ZN Z Z))
          · refine tk fun L hL => u0 (Q7 (c := (a0.ff == 4)) Z Z Z Z Z) <| Qj Z Z <| rt (hL _ ?_);refine Z2 Z h (fun h => ?_) fun h => ?_
            · refine Qc (hL5 _ _ h (QL.nm [1, 4, 5, 13, 34] [((1, 0), (1, 0))] Z (by kernel_rfl)))
            · refine tl fun L hL => u0 (Q7 (c := (a0.ff == 5)) Z Z Z Z Z) <| Qj Z Z ?_;refine rt (hL _ (hL5 _ _ h (QL.nm [1, 4, 5, 13, 34] [((1, 0), (1, 0))] Z (by kernel_rfl))))
def Wa (a0 : Int) (a1 : Int) (a2 : Int) (Q : Bool → Prop) : Prop :=
 Q (((bif decide (a0 ≥ a1) then decide (a0 ≤ a2) else false)))
def QT (a0 : Int) (a1 : Int) (a2 : Int) (r : Bool) : Prop := Wa a0 a1 a2 fun x => r = x
theorem QX (a0 : Int) (a1 : Int) (a2 : Int) (r : Bool) (h : QT a0 a1 a2 r) : Qq Tryz.prog 98 [.c (.v (.int .i64 a0)), .c (.v (.int .i64 a1)), .c (.v (.int .i64 a2))] [.c (.p (.v (.bool r)))] [] := by
  refine Qp tb Tryz.func98 Z (by kernel_rfl) Z Z (Nat.le_of_ble_eq_true Z) Z ?_;intro E;unfold QT Wa at h;refine Zg (fun Q hQ => ?_);refine tk fun L hL => Qj Z Z <| rt (hL _ ?_);refine tk fun L hL => mv Z <| mv Z <| u0 (Q7 (c := decide (a0 ≥ a1)) Z Z Z Z Z) <| mv Z <| Q5 Z Z Qb (fun hg => Qm Z Z) <| Q5 Z Z Qb (fun hg => Qm Z Z) <| Q5 Z Z Qb (fun hg => Q7 (c := decide (a0 ≤ a2)) (Ql hg) (Ql hg) Z Z Z) <| u0 (Qu (v := .bool (decide (a0 ≤ a2))) (w := .bool false) Z Z Qb Z QH Z Z Z) <| Qj Z Z <| rt (hL _ ?_);obtain rfl := h;exact Qa (hQ _ _ (ZN Z Z))
def K2 (a0 : QA) (Q : Int → Prop) : Prop :=
 ∃ v2, QT a0.fh 0 4294967295 v2 ∧ ∃ (v3 : Bool), ((!(!(v2))) = true → QT a0.fv 0 4294967295 v3) ∧ ((((bif (bif !(v2) then true else !(v3)) then true else decide (a0.fv > a0.fh))) = true → Q 5) ∧ (((bif (bif !(v2) then true else !(v3)) then true else decide (a0.fv > a0.fh))) = false → Q 0))
def ZH (a0 : QA) (r : Int) : Prop := K2 a0 fun x => r = x
theorem Uu {a0 : QA} {Post : Int → Prop} (h : K2 a0 Post) : ∃ r, ZH a0 r ∧ Post r := (show GM (K2 a0) (K2 a0) from GM.ex fun v2 => GM.ex fun v3 => GM.cond (GM.ret _) (GM.ret _)) Post h
theorem VA (a0 : QA) (r : Int) (h : ZH a0 r) : Qq Tryz.prog 72 [.agg (Yc a0)] [.c (.p (.v (.int .i64 r)))] [] := by
  refine Qp tb Tryz.func72 Z (by kernel_rfl) Z Z (Nat.le_of_ble_eq_true Z) Z ?_;intro E;unfold ZH K2 at h;refine Zg (fun Q hQ => ?_);refine tk fun L hL => u1 (QG Z Z) <| Qj Z Z <| rt (hL _ ?_);refine sk fun L1 hL1 => tk fun L hL => u0 (Q1 Z Z Z Z Z Z Z Z Z) <| u0 (Q2 Z Z Z Z Z Z) ?_;obtain ⟨v2, hv2, h⟩ := h;refine u0 (Q6 (QX _ _ _ _ hv2) Z Z (.cons (.c (.p _)) (.cons (.c (.p _)) (.cons (.c (.p _)) .nil))) Z Z Z) <| u0 (QM Z Z Z) <| mv Z <| Q5 Z Z Qg (fun hg => Q1 Z Z Z Z Z Z Z Z Z) <| Q5 Z Z Qg (fun hg => Q2 (Ql hg) Z Z Z Z Z) ?_;obtain ⟨v3, hv3, h⟩ := h;refine Q5 Z Z Qg (fun hg => Q6 (QX _ _ _ _ (hv3 hg)) Z Z (.cons (Zo hg (.c (.p _))) (.cons (.c (.p _)) (.cons (.c (.p _)) .nil))) Z Z Z) <| Q5 Z Z Qg (fun hg => QM (Ql hg) Z Z) <| u0 (Qy (v := .bool true) (w := .bool (!(v3))) Z Z Qg Z QH Z Z Z) <| mv Z <| Q5 Z Z Qg (fun hg => Q1 Z Z Z Z Z Z Z Z Z) <| Q5 Z Z Qg (fun hg => Q2 (Ql hg) Z Z Z Z Z) <| Q5 Z Z Qg (fun hg => Q1 Z Z Z Z Z Z Z Z Z) <| Q5 Z Z Qg (fun hg => Q2 (Ql hg) Z Z Z Z Z) <| Q5 Z Z Qg (fun hg => Q7 (c := decide (a0.fv > a0.fh)) (Ql hg) (Ql hg) Z Z Z) <| u0 (Qy (v := .bool true) (w := .bool (decide (a0.fv > a0.fh))) Z Z Qg Z QH Z Z Z) <| rt (hL _ ?_)
  refine Z2 Z h (fun h => ?_) fun h => ?_
  · refine tk fun L hL => Qj Z Z <| rt (hL _ ?_);obtain rfl := h;exact Qa (hQ _ _ (ZN Z Z))
  · refine Qc (hL1 _ ?_);refine Zc (st' := ⟨[], []⟩) (QL.nm [] [] Z Z) ?_;refine tk fun L hL => Qj Z Z <| rt (hL _ ?_);obtain rfl := h;exact Qa (hQ _ _ (ZN Z Z))
def ZF (a0 : Qi) (Q : Int → Prop) : Prop :=
 ∃ v2, QT a0.fm 1 8 v2 ∧ ∃ (v3 : Bool), ((!(!(v2))) = true → QT a0.fg 1 64 v3) ∧ ((((bif !(v2) then true else !(v3))) = true → Q 5) ∧ (((bif !(v2) then true else !(v3))) = false → ((((((a0.f5.length : Int)) != (IntKind.i64.wrap (a0.fm * a0.fg)))) = true → Q 18) ∧ (((((a0.f5.length : Int)) != (IntKind.i64.wrap (a0.fm * a0.fg)))) = false → jn (fun (p5 : Unit) => Q 0) (fun (J5 : Unit → Prop) => lp (fun (X6 : Int → Prop) (s6 : Int) => (((decide (s6 < ((a0.f5.length : Int)))) = true → ∃ v9, ix a0.f5 s6 v9 ∧ ∃ v10, QT v9 0 4294967295 v10 ∧ (((!(v10)) = true → Q 5) ∧ ((!(v10)) = false → X6 ((IntKind.i64.wrap (s6 + 1)))))) ∧ ((decide (s6 < ((a0.f5.length : Int)))) = false → J5 (())))) 0)))))
def Zu (a0 : Qi) (r : Int) : Prop := ZF a0 fun x => r = x
theorem Wx {a0 : Qi} {Post : Int → Prop} (h : ZF a0 Post) : ∃ r, Zu a0 r ∧ Post r := (show GM (ZF a0) (ZF a0) from GM.ex fun v2 => GM.ex fun v3 => GM.cond (GM.ret _) (GM.cond (GM.ret _) (GM.join (fun p5 => GM.ret _) (fun _ _ J5 => GM.loop (fun X Y Q s6 X6 h => ⟨fun hc => (Exists.elim (h.1 hc) fun v9 hv9 => ⟨v9, hv9.1, (Exists.elim hv9.2 fun v10 hv10 => ⟨v10, hv10.1, ⟨fun hc => hv10.2.1 hc, fun hc => X6 _ (hv10.2.2 hc)⟩⟩)⟩), fun hc => h.2 hc⟩) (fun _ _ X6 s6 => GM.cond (GM.ex fun v9 => GM.ex fun v10 => GM.cond (GM.ret _) (X6 _)) (J5 _)))))) Post h
theorem JF (a0 : Qi) (r : Int) (h : Zu a0 r) : Qq Tryz.prog 73 [.agg (ZY a0)] [.c (.p (.v (.int .i64 r)))] [] := by
  refine Qp tb Tryz.func73 Z (by kernel_rfl) Z Z (Nat.le_of_ble_eq_true Z) Z ?_;intro E;unfold Zu ZF at h;refine Zg (fun Q hQ => ?_);refine tk fun L hL => u1 (QG Z Z) <| Qj Z Z <| rt (hL _ ?_);refine sk fun L1 hL1 => tk fun L hL => u0 (Q1 Z Z Z Z Z Z Z Z Z) <| u0 (Q2 Z Z Z Z Z Z) ?_;obtain ⟨v2, hv2, h⟩ := h;refine u0 (Q6 (QX _ _ _ _ hv2) Z Z (.cons (.c (.p _)) (.cons (.c (.p _)) (.cons (.c (.p _)) .nil))) Z Z Z) <| u0 (QM Z Z Z) <| mv Z <| Q5 Z Z Qg (fun hg => Q1 Z Z Z Z Z Z Z Z Z) <| Q5 Z Z Qg (fun hg => Q2 (Ql hg) Z Z Z Z Z) ?_;obtain ⟨v3, hv3, h⟩ := h;refine Q5 Z Z Qg (fun hg => Q6 (QX _ _ _ _ (hv3 hg)) Z Z (.cons (Zo hg (.c (.p _))) (.cons (.c (.p _)) (.cons (.c (.p _)) .nil))) Z Z Z) <| Q5 Z Z Qg (fun hg => QM (Ql hg) Z Z) <| u0 (Qy (v := .bool true) (w := .bool (!(v3))) Z Z Qg Z QH Z Z Z) <| rt (hL _ ?_);refine Z2 Z h (fun h => ?_) fun h => ?_
  · refine tk fun L hL => Qj Z Z <| rt (hL _ ?_);obtain rfl := h;exact Qa (hQ _ _ (ZN Z Z))
  · refine Qc (hL1 _ ?_);refine Zc (st' := ⟨[(1, .c (.ptr (1, 0) 0 0))], [((1, 0), some (.box (List.map CV.p (ZY a0))))]⟩) (QL.nm [1] [((1, 0), (1, 0))] Z Z) ?_;refine sk fun L4 hL4 => tk fun L hL => u0 (Q1 Z Z Z Z Z Z Z Z Z) <| u0 (Q2 Z Z Z Z Z Z) <| u0 (Qs Z Z Z Z) <| u0 (Q1 Z Z Z Z Z Z Z Z Z) <| u0 (Q2 Z Z Z Z Z Z) <| u0 (Q1 Z Z Z Z Z Z Z Z Z) <| u0 (Q2 Z Z Z Z Z Z) <| u0 (VN Z Z Z Z Z) <| u0 (Q7 (c := (((a0.f5.length : Int)) != (IntKind.i64.wrap (a0.fm * a0.fg)))) Z Z Z Z Z) <| rt (hL _ ?_);refine Z2 Z h (fun h => ?_) fun h => ?_
    · refine tk fun L hL => Qj Z Z <| rt (hL _ ?_);obtain rfl := h;exact Qa (hQ _ _ (ZN Z Z))
    · refine Qc (hL4 _ ?_);refine Zb (fun (p5 : Unit) => (⟨[], []⟩ : St)) h (fun p5 h => ?_) (fun J5 L5 hL5 h => ?_)
      · refine tk fun L hL => Qj Z Z <| rt (hL _ ?_);obtain rfl := h;exact Qa (hQ _ _ (ZN Z Z))
      · refine tk fun L hL => Qj Z Z <| rt (hL _ ?_);refine Qt ?_;refine ZE (fun (s6 : Int) => (⟨[(1, .c (.ptr (1, 0) 0 0)), (3, .c (.p (.v (.int .i64 s6))))], [((1, 0), some (.box (List.map CV.p (ZY a0))))]⟩ : St)) h (QL.nm [1, 3] [((1, 0), (1, 0))] Z (by kernel_rfl)) (fun X6 L6 hL6 s6 h => ?_);refine sk fun L7 hL7 => tk fun L hL => mv Z <| u0 (Q1 Z Z Z Z Z Z Z Z Z) <| u0 (Q2 Z Z Z Z Z Z) <| u0 (Qs Z Z Z Z) <| u0 (Q7 (c := decide (s6 < ((a0.f5.length : Int)))) Z Z Z Z Z) <| rt (hL _ ?_);refine Z2 Z h (fun h => ?_) fun h => ?_
        · refine Qc (hL7 _ ?_);refine sk fun L8 hL8 => Qt <| tk fun L hL => u0 (Q1 Z Z Z Z Z Z Z Z Z) <| u0 (Q2 Z Z Z Z Z Z) <| mv Z ?_;obtain ⟨v9, hv9, h⟩ := h;refine u0 (QC hv9 Z Z Z Z Z Z Z Z) <| u0 (Qw Z Z Z Z Z) ?_;obtain ⟨v10, hv10, h⟩ := h;refine u0 (Q6 (QX _ _ _ _ hv10) Z Z (.cons (.c (.p _)) (.cons (.c (.p _)) (.cons (.c (.p _)) .nil))) Z Z Z) <| u0 (QM Z Z Z) <| rt (hL _ ?_);refine Z2 Z h (fun h => ?_) fun h => ?_
          · refine tk fun L hL => Qj Z Z <| rt (hL _ ?_);obtain rfl := h;exact Qa (hQ _ _ (ZN Z Z))
          · refine Qc (hL8 _ ?_);refine tl fun L hL => mv Z <| u0 (QK Z Z Z Z Z) <| Qj Z Z ?_;refine rt (hL _ (hL6 _ _ h (QL.nm [1, 3] [((1, 0), (1, 0))] Z (by kernel_rfl))))
        · refine Z6 (hL5 _ _ h (QL.nm [] [] Z (by kernel_rfl)))
def ZR (a0 : Qv) (Q : Int → Prop) : Prop :=
 ∃ v2, QT a0.fx 2 8 v2 ∧ (((!(v2)) = true → Q 5) ∧ ((!(v2)) = false → ((0 : Int) ≤ (IntKind.u64.wrap a0.fx)) ∧ ((((((a0.fp.length : Int)) != (XR .i64 1 (IntKind.u64.wrap a0.fx)))) = true → Q 18) ∧ (((((a0.fp.length : Int)) != (XR .i64 1 (IntKind.u64.wrap a0.fx)))) = false → jn (fun (p5 : Unit) => Q 0) (fun (J5 : Unit → Prop) => lp (fun (X6 : Int → Prop) (s6 : Int) => (((decide (s6 < ((a0.fp.length : Int)))) = true → ∃ v9, ix a0.fp s6 v9 ∧ ∃ v10, QT v9 0 (IntKind.i64.wrap (65 - a0.fx)) v10 ∧ (((!(v10)) = true → Q 5) ∧ ((!(v10)) = false → X6 ((IntKind.i64.wrap (s6 + 1)))))) ∧ ((decide (s6 < ((a0.fp.length : Int)))) = false → J5 (())))) 0)))))
def ZC (a0 : Qv) (r : Int) : Prop := ZR a0 fun x => r = x
theorem U6 {a0 : Qv} {Post : Int → Prop} (h : ZR a0 Post) : ∃ r, ZC a0 r ∧ Post r := (show GM (ZR a0) (ZR a0) from GM.ex fun v2 => GM.cond (GM.ret _) (GM.and (GM.cond (GM.ret _) (GM.join (fun p5 => GM.ret _) (fun _ _ J5 => GM.loop (fun X Y Q s6 X6 h => ⟨fun hc => (Exists.elim (h.1 hc) fun v9 hv9 => ⟨v9, hv9.1, (Exists.elim hv9.2 fun v10 hv10 => ⟨v10, hv10.1, ⟨fun hc => hv10.2.1 hc, fun hc => X6 _ (hv10.2.2 hc)⟩⟩)⟩), fun hc => h.2 hc⟩) (fun _ _ X6 s6 => GM.cond (GM.ex fun v9 => GM.ex fun v10 => GM.cond (GM.ret _) (X6 _)) (J5 _))))))) Post h
theorem Vs (a0 : Qv) (r : Int) (h : ZC a0 r) : Qq Tryz.prog 74 [.agg (JZ a0)] [.c (.p (.v (.int .i64 r)))] [] := by
  refine Qp tb Tryz.func74 Z (by kernel_rfl) Z Z (Nat.le_of_ble_eq_true Z) Z ?_;intro E;unfold ZC ZR at h;refine Zg (fun Q hQ => ?_);refine tk fun L hL => u1 (QG Z Z) <| Qj Z Z <| rt (hL _ ?_);refine sk fun L1 hL1 => tk fun L hL => u0 (Q1 Z Z Z Z Z Z Z Z Z) <| u0 (Q2 Z Z Z Z Z Z) ?_;obtain ⟨v2, hv2, h⟩ := h;refine u0 (Q6 (QX _ _ _ _ hv2) Z Z (.cons (.c (.p _)) (.cons (.c (.p _)) (.cons (.c (.p _)) .nil))) Z Z Z) <| u0 (QM Z Z Z) <| rt (hL _ ?_);refine Z2 Z h (fun h => ?_) fun h => ?_
  · refine tk fun L hL => Qj Z Z <| rt (hL _ ?_);obtain rfl := h;exact Qa (hQ _ _ (ZN Z Z))
  · refine Qc (hL1 _ ?_);refine sk fun L3 hL3 => tk fun L hL => u0 (Q1 Z Z Z Z Z Z Z Z Z) <| u0 (Q2 Z Z Z Z Z Z) <| u0 (Qs Z Z Z Z) <| u0 (Q1 Z Z Z Z Z Z Z Z Z) <| u0 (Q2 Z Z Z Z Z Z) <| u0 (Zj (T := tb) Z Z Z Z Z Z) ?_;obtain ⟨hz4, h⟩ := h;refine u0 (GG hz4 Z Z Z Z) <| u0 (Q7 (c := (((a0.fp.length : Int)) != (XR .i64 1 (IntKind.u64.wrap a0.fx)))) Z Z Z Z Z) <| rt (hL _ ?_);refine Z2 Z h (fun h => ?_) fun h => ?_
    · refine tk fun L hL => Qj Z Z <| rt (hL _ ?_);obtain rfl := h;exact Qa (hQ _ _ (ZN Z Z))
    · refine Qc (hL3 _ ?_);refine Zb (fun (p5 : Unit) => (⟨[], []⟩ : St)) h (fun p5 h => ?_) (fun J5 L5 hL5 h => ?_)
      · refine tk fun L hL => Qj Z Z <| rt (hL _ ?_);obtain rfl := h;exact Qa (hQ _ _ (ZN Z Z))
      · refine tk fun L hL => Qj Z Z <| rt (hL _ ?_);refine Qt ?_;refine ZE (fun (s6 : Int) => (⟨[(1, .c (.ptr (1, 0) 0 0)), (3, .c (.p (.v (.int .i64 s6))))], [((1, 0), some (.box (List.map CV.p (JZ a0))))]⟩ : St)) h (QL.nm [1, 3] [((1, 0), (1, 0))] Z (by kernel_rfl)) (fun X6 L6 hL6 s6 h => ?_);refine sk fun L7 hL7 => tk fun L hL => mv Z <| u0 (Q1 Z Z Z Z Z Z Z Z Z) <| u0 (Q2 Z Z Z Z Z Z) <| u0 (Qs Z Z Z Z) <| u0 (Q7 (c := decide (s6 < ((a0.fp.length : Int)))) Z Z Z Z Z) <| rt (hL _ ?_);refine Z2 Z h (fun h => ?_) fun h => ?_
        · refine Qc (hL7 _ ?_);refine sk fun L8 hL8 => Qt <| dk mixed (fun L hL => ?_);refine u0 (Q1 Z Z Z Z Z Z Z Z Z) <| u0 (Q2 Z Z Z Z Z Z) <| mv Z ?_;obtain ⟨v9, hv9, h⟩ := h;refine u0 (QC hv9 Z Z Z Z Z Z Z Z) <| u0 (Qw Z Z Z Z Z) <| u0 (Q1 Z Z Z Z Z Z Z Z Z) <| u0 (Q2 Z Z Z Z Z Z) <| u0 (Zy Z Z Z Z Z) ?_;obtain ⟨v10, hv10, h⟩ := h;refine u0 (Q6 (QX _ _ _ _ hv10) Z Z (.cons (.c (.p _)) (.cons (.c (.p _)) (.cons (.c (.p _)) .nil))) Z Z Z) <| u0 (QM Z Z Z) <| rd (hL _ ?_);refine Z2 Z h (fun h => ?_) fun h => ?_
          · refine tk fun L hL => Qj Z Z <| rt (hL _ ?_);obtain rfl := h;exact Qa (hQ _ _ (ZN Z Z))
          · refine Qc (hL8 _ ?_);refine tl fun L hL => mv Z <| u0 (QK Z Z Z Z Z) <| Qj Z Z ?_;refine rt (hL _ (hL6 _ _ h (QL.nm [1, 3] [((1, 0), (1, 0))] Z (by kernel_rfl))))
        · refine Z6 (hL5 _ _ h (QL.nm [] [] Z (by kernel_rfl)))
def WK (a0 : ByteArray) (Q : Bool → Prop) : Prop :=
 Q (((bif decide (((a0.size : Int)) ≥ 1) then decide (((a0.size : Int)) ≤ 32) else false)))
def Kb (a0 : ByteArray) (r : Bool) : Prop := WK a0 fun x => r = x
theorem V4 (a0 : ByteArray) (r : Bool) (h : Kb a0 r) : Qq Tryz.prog 71 [.c (.v (.string a0))] [.c (.p (.v (.bool r)))] [] := by
  refine Qp tb Tryz.func71 Z (by kernel_rfl) Z Z (Nat.le_of_ble_eq_true Z) Z ?_;intro E;unfold Kb WK at h;refine Zg (fun Q hQ => ?_);refine tk fun L hL => Qj Z Z <| rt (hL _ ?_);refine tk fun L hL => mv Z <| u0 (KB Z Z Z Z) <| u0 (Q7 (c := decide (((a0.size : Int)) ≥ 1)) Z Z Z Z Z) <| mv Z <| Q5 Z Z Qb (fun hg => Qm Z Z) <| Q5 Z Z Qb (fun hg => KB (Ql hg) Z Z Z) <| Q5 Z Z Qb (fun hg => Q7 (c := decide (((a0.size : Int)) ≤ 32)) (Ql hg) Z Z Z Z) <| u0 (Qu (v := .bool (decide (((a0.size : Int)) ≤ 32))) (w := .bool false) Z Z Qb Z QH Z Z Z) <| Qj Z Z <| rt (hL _ ?_);obtain rfl := h;exact Qa (hQ _ _ (ZN Z Z))
def Xx (a0 : (List Q3)) (a1 : ByteArray) (Q : Int → Prop) : Prop :=
 jn (fun (p1 : Unit) => Q ((-1))) (fun (J1 : Unit → Prop) => lp (fun (X2 : Int → Prop) (s2 : Int) => (((decide (s2 < ((a0.length : Int)))) = true → ∃ v5, ix a0 s2 v5 ∧ ((((v5.f3.toList == a1.toList)) = true → Q s2) ∧ (((v5.f3.toList == a1.toList)) = false → X2 ((IntKind.i64.wrap (s2 + 1)))))) ∧ ((decide (s2 < ((a0.length : Int)))) = false → J1 (())))) 0)
def VB (a0 : (List Q3)) (a1 : ByteArray) (r : Int) : Prop := Xx a0 a1 fun x => r = x
theorem GU {a0 : (List Q3)} {a1 : ByteArray} {Post : Int → Prop} (h : Xx a0 a1 Post) : ∃ r, VB a0 a1 r ∧ Post r := (show GM (Xx a0 a1) (Xx a0 a1) from GM.join (fun p1 => GM.ret _) (fun _ _ J1 => GM.loop (fun X Y Q s2 X2 h => ⟨fun hc => (Exists.elim (h.1 hc) fun v5 hv5 => ⟨v5, hv5.1, ⟨fun hc => hv5.2.1 hc, fun hc => X2 _ (hv5.2.2 hc)⟩⟩), fun hc => h.2 hc⟩) (fun _ _ X2 s2 => GM.cond (GM.ex fun v5 => GM.cond (GM.ret _) (X2 _)) (J1 _)))) Post h
theorem Uv (a0 : (List Q3)) (a1 : ByteArray) (r : Int) (h : VB a0 a1 r) : Qq Tryz.prog 99 [.c (.l 3 (List.map Q8 a0)), .c (.v (.string a1))] [.c (.p (.v (.int .i64 r)))] [] := by
  refine Qp tb Tryz.func99 Z (by kernel_rfl) Z Z (Nat.le_of_ble_eq_true Z) Z ?_;intro E;unfold VB Xx at h;refine Zg (fun Q hQ => ?_);refine tk fun L hL => Qj Z Z <| rt (hL _ ?_);refine Zb (fun (p1 : Unit) => (⟨[], []⟩ : St)) h (fun p1 h => ?_) (fun J1 L1 hL1 h => ?_)
  · refine tk fun L hL => Qj Z Z <| rt (hL _ ?_);obtain rfl := h;exact Qa (hQ _ _ (ZN Z Z))
  · refine tk fun L hL => Qj Z Z <| rt (hL _ ?_);refine Qt ?_;refine ZE (fun (s2 : Int) => (⟨[(0, .c (.p (.l 3 (List.map Q8 a0)))), (1, .c (.p (.v (.string a1)))), (5, .c (.p (.v (.int .i64 s2))))], []⟩ : St)) h (QL.nm [0, 1, 5] [] Z (by kernel_rfl)) (fun X2 L2 hL2 s2 h => ?_);refine sk fun L3 hL3 => tk fun L hL => mv Z <| mv Z <| u0 (Qs Z Z Z Z) <| u0 (Q7 (c := decide (s2 < ((a0.length : Int)))) Z Z Z Z Z) <| rt (hL _ ?_);refine Z2 Z h (fun h => ?_) fun h => ?_
    · refine Qc (hL3 _ ?_);refine sk fun L4 hL4 => Qt <| tk fun L hL => mv Z <| mv Z ?_;obtain ⟨v5, hv5, h⟩ := h;refine u0 (QC hv5 Z Z Z Z Z Z Z Z) <| u0 (Zn Z Z Z Z Z Z Z Z) <| u0 (Qw Z Z Z Z Z) <| mv Z <| u0 (Y7 (c := (v5.f3.toList == a1.toList)) Z Z Z Z Z) <| rt (hL _ ?_);refine Z2 Z h (fun h => ?_) fun h => ?_
      · refine tk fun L hL => mv Z <| Qj Z Z <| rt (hL _ ?_);obtain rfl := h;exact Qa (hQ _ _ (ZN Z Z))
      · refine Qc (hL4 _ ?_);refine tl fun L hL => mv Z <| u0 (QK Z Z Z Z Z) <| Qj Z Z ?_;refine rt (hL _ (hL2 _ _ h (QL.nm [0, 1, 5] [] Z (by kernel_rfl))))
    · refine Z6 (hL1 _ _ h (QL.nm [] [] Z (by kernel_rfl)))
def An (a0 : Q3) (a1 : Q3) (Q : Bool → Prop) : Prop :=
 Q (((bif decide (a0.fw > a1.fw) then true else (bif (a0.fw == a1.fw) then (Op.bytesLess a0.f3.toList a1.f3.toList) else false))))
def Y9 (a0 : Q3) (a1 : Q3) (r : Bool) : Prop := An a0 a1 fun x => r = x
theorem Ao (a0 : Q3) (a1 : Q3) (r : Bool) (h : Y9 a0 a1 r) : Qq Tryz.prog 100 [.agg (Q8 a0), .agg (Q8 a1)] [.c (.p (.v (.bool r)))] [] := by
  refine Qp tb Tryz.func100 Z (by kernel_rfl) Z Z (Nat.le_of_ble_eq_true Z) Z ?_;intro E;unfold Y9 An at h;refine Zg (fun Q hQ => ?_);refine tk fun L hL => u1 (QG Z Z) <| u1 (QG Z Z) <| Qj Z Z <| rt (hL _ ?_);refine tk fun L hL => u0 (Q1 Z Z Z Z Z Z Z Z Z) <| u0 (Q2 Z Z Z Z Z Z) <| u0 (Q1 Z Z Z Z Z Z Z Z Z) <| u0 (Q2 Z Z Z Z Z Z) <| u0 (Q7 (c := decide (a0.fw > a1.fw)) Z Z Z Z Z) <| mv Z <| Q5 Z Z Qg (fun hg => Q1 Z Z Z Z Z Z Z Z Z) <| Q5 Z Z Qg (fun hg => Q2 (Ql hg) Z Z Z Z Z) <| Q5 Z Z Qg (fun hg => Q1 Z Z Z Z Z Z Z Z Z) <| Q5 Z Z Qg (fun hg => Q2 (Ql hg) Z Z Z Z Z) <| Q5 Z Z Qg (fun hg => Q7 (c := (a0.fw == a1.fw)) (Ql hg) (Ql hg) Z Z Z) <| Q5 Z Z Qg (fun hg => Qm (Ql hg) Z) <| QR Z Z QZ (fun hg => Q1 Z Z Z Z Z Z Z Z Z) <| QR Z Z QZ (fun hg => Q2 (Ql hg) Z Z Z Z Z) <| QR Z Z QZ (fun hg => Q1 Z Z Z Z Z Z Z Z Z) <| QR Z Z QZ (fun hg => Q2 (Ql hg) Z Z Z Z Z) <| QR Z Z QZ (fun hg => Y7 (c := (Op.bytesLess a0.f3.toList a1.f3.toList)) (Ql hg) (Ql hg) Z Z Z) <| Q5 Z Z Qg (fun hg => Qu (v := .bool ((Op.bytesLess a0.f3.toList a1.f3.toList))) (w := .bool false) (Ql hg) Z (JY hg) Z QH Z Z Z) <| u0 (Qy (v := .bool true) (w := .bool ((bif (a0.fw == a1.fw) then (Op.bytesLess a0.f3.toList a1.f3.toList) else false))) Z Z Qg Z QH Z Z Z) <| Qj Z Z <| rt (hL _ ?_)
  obtain rfl := h;exact Qa (hQ _ _ (ZN Z Z))
def Kn (a0 : QE) (Q : Int → Prop) : Prop :=
 ∃ v2, QT a0.fg 1 32 v2 ∧ ∃ (v3 : Bool), ((!(!(v2))) = true → QT a0.fh 0 1099511627776 v3) ∧ ((((bif !(v2) then true else !(v3))) = true → Q 5) ∧ (((bif !(v2) then true else !(v3))) = false → (((decide (((a0.fc.length : Int)) > a0.fg)) = true → Q 11) ∧ ((decide (((a0.fc.length : Int)) > a0.fg)) = false → jn (fun (p5 : Unit) => Q 0) (fun (J5 : Unit → Prop) => lp (fun (X6 : Int → Prop) (s6 : Int) => (((decide (s6 < ((a0.fc.length : Int)))) = true → ∃ v9, ix a0.fc s6 v9 ∧ ∃ v10, Kb v9.f3 v10 ∧ (((!(v10)) = true → Q 7) ∧ ((!(v10)) = false → ∃ v11, QT v9.fw 1 1099511627776 v11 ∧ ∃ (v12 : Bool), ((!(!(v11))) = true → QT v9.fa3 0 (IntKind.i64.wrap (v9.fw - 1)) v12) ∧ ((((bif !(v11) then true else !(v12))) = true → Q 5) ∧ (((bif !(v11) then true else !(v12))) = false → ((0 : Int) ≤ s6 ∧ (s6 : Int) ≤ (a0.fc.length : Int)) ∧ ∃ v14, VB (List.take (Int.toNat s6) a0.fc) v9.f3 v14 ∧ (((decide (v14 ≥ 0)) = true → Q 9) ∧ ((decide (v14 ≥ 0)) = false → ∃ (v15 : Q3), ((decide (s6 > 0)) = true → ix a0.fc (IntKind.i64.wrap (s6 - 1)) v15) ∧ ∃ (v16 : Bool), ((decide (s6 > 0)) = true → Y9 v15 v9 v16) ∧ ((((bif decide (s6 > 0) then !(v16) else false)) = true → Q 19) ∧ (((bif decide (s6 > 0) then !(v16) else false)) = false → X6 ((IntKind.i64.wrap (s6 + 1)))))))))))) ∧ ((decide (s6 < ((a0.fc.length : Int)))) = false → J5 (())))) 0)))))
def K0 (a0 : QE) (r : Int) : Prop := Kn a0 fun x => r = x
theorem AI {a0 : QE} {Post : Int → Prop} (h : Kn a0 Post) : ∃ r, K0 a0 r ∧ Post r := (show GM (Kn a0) (Kn a0) from GM.ex fun v2 => GM.ex fun v3 => GM.cond (GM.ret _) (GM.cond (GM.ret _) (GM.join (fun p5 => GM.ret _) (fun _ _ J5 => GM.loop (fun X Y Q s6 X6 h => ⟨fun hc => (Exists.elim (h.1 hc) fun v9 hv9 => ⟨v9, hv9.1, (Exists.elim hv9.2 fun v10 hv10 => ⟨v10, hv10.1, ⟨fun hc => hv10.2.1 hc, fun hc => (Exists.elim (hv10.2.2 hc) fun v11 hv11 => ⟨v11, hv11.1, (Exists.elim hv11.2 fun v12 hv12 => ⟨v12, hv12.1, ⟨fun hc => hv12.2.1 hc, fun hc => ⟨(hv12.2.2 hc).1, (Exists.elim ((hv12.2.2 hc).2) fun v14 hv14 => ⟨v14, hv14.1, ⟨fun hc => hv14.2.1 hc, fun hc => (Exists.elim (hv14.2.2 hc) fun v15 hv15 => ⟨v15, hv15.1, (Exists.elim hv15.2 fun v16 hv16 => ⟨v16, hv16.1, ⟨fun hc => hv16.2.1 hc, fun hc => X6 _ (hv16.2.2 hc)⟩⟩)⟩)⟩⟩)⟩⟩⟩)⟩)⟩⟩)⟩), fun hc => h.2 hc⟩) (fun _ _ X6 s6 => GM.cond (GM.ex fun v9 => GM.ex fun v10 => GM.cond (GM.ret _) (GM.ex fun v11 => GM.ex fun v12 => GM.cond (GM.ret _) (GM.and (GM.ex fun v14 => GM.cond (GM.ret _) (GM.ex fun v15 => GM.ex fun v16 => GM.cond (GM.ret _) (X6 _)))))) (J5 _)))))) Post h
theorem Xq (a0 : QE) (r : Int) (h : K0 a0 r) : Qq Tryz.prog 75 [.agg (Jk a0)] [.c (.p (.v (.int .i64 r)))] [] := by
  refine Qp tb Tryz.func75 Z (by kernel_rfl) Z Z (Nat.le_of_ble_eq_true Z) Z ?_;intro E;unfold K0 Kn at h;refine Zg (fun Q hQ => ?_);refine tk fun L hL => u1 (QG Z Z) <| Qj Z Z <| rt (hL _ ?_);refine sk fun L1 hL1 => tk fun L hL => u0 (Q1 Z Z Z Z Z Z Z Z Z) <| u0 (Q2 Z Z Z Z Z Z) ?_;obtain ⟨v2, hv2, h⟩ := h;refine u0 (Q6 (QX _ _ _ _ hv2) Z Z (.cons (.c (.p _)) (.cons (.c (.p _)) (.cons (.c (.p _)) .nil))) Z Z Z) <| u0 (QM Z Z Z) <| mv Z <| Q5 Z Z Qg (fun hg => Q1 Z Z Z Z Z Z Z Z Z) <| Q5 Z Z Qg (fun hg => Q2 (Ql hg) Z Z Z Z Z) ?_;obtain ⟨v3, hv3, h⟩ := h;refine Q5 Z Z Qg (fun hg => Q6 (QX _ _ _ _ (hv3 hg)) Z Z (.cons (Zo hg (.c (.p _))) (.cons (.c (.p _)) (.cons (.c (.p _)) .nil))) Z Z Z) <| Q5 Z Z Qg (fun hg => QM (Ql hg) Z Z) <| u0 (Qy (v := .bool true) (w := .bool (!(v3))) Z Z Qg Z QH Z Z Z) <| rt (hL _ ?_);refine Z2 Z h (fun h => ?_) fun h => ?_
  · refine tk fun L hL => Qj Z Z <| rt (hL _ ?_);obtain rfl := h;exact Qa (hQ _ _ (ZN Z Z))
  · refine Qc (hL1 _ ?_);refine Zc (st' := ⟨[(1, .c (.ptr (1, 0) 0 0))], [((1, 0), some (.box (List.map CV.p (Jk a0))))]⟩) (QL.nm [1] [((1, 0), (1, 0))] Z Z) ?_;refine sk fun L4 hL4 => tk fun L hL => u0 (Q1 Z Z Z Z Z Z Z Z Z) <| u0 (Q2 Z Z Z Z Z Z) <| u0 (Qs Z Z Z Z) <| u0 (Q1 Z Z Z Z Z Z Z Z Z) <| u0 (Q2 Z Z Z Z Z Z) <| u0 (Q7 (c := decide (((a0.fc.length : Int)) > a0.fg)) Z Z Z Z Z) <| rt (hL _ ?_);refine Z2 Z h (fun h => ?_) fun h => ?_
    · refine tk fun L hL => Qj Z Z <| rt (hL _ ?_);obtain rfl := h;exact Qa (hQ _ _ (ZN Z Z))
    · refine Qc (hL4 _ ?_);refine Zb (fun (p5 : Unit) => (⟨[], []⟩ : St)) h (fun p5 h => ?_) (fun J5 L5 hL5 h => ?_)
      · refine tk fun L hL => Qj Z Z <| rt (hL _ ?_);obtain rfl := h;exact Qa (hQ _ _ (ZN Z Z))
      · refine tk fun L hL => Qj Z Z <| rt (hL _ ?_);refine Qt ?_;refine ZE (fun (s6 : Int) => (⟨[(1, .c (.ptr (1, 0) 0 0)), (3, .c (.p (.v (.int .i64 s6))))], [((1, 0), some (.box (List.map CV.p (Jk a0))))]⟩ : St)) h (QL.nm [1, 3] [((1, 0), (1, 0))] Z (by kernel_rfl)) (fun X6 L6 hL6 s6 h => ?_);refine sk fun L7 hL7 => tk fun L hL => mv Z <| u0 (Q1 Z Z Z Z Z Z Z Z Z) <| u0 (Q2 Z Z Z Z Z Z) <| u0 (Qs Z Z Z Z) <| u0 (Q7 (c := decide (s6 < ((a0.fc.length : Int)))) Z Z Z Z Z) <| rt (hL _ ?_);refine Z2 Z h (fun h => ?_) fun h => ?_
        · refine Qc (hL7 _ ?_);refine sk fun L8 hL8 => Qt <| tk fun L hL => u0 (Q1 Z Z Z Z Z Z Z Z Z) <| u0 (Q2 Z Z Z Z Z Z) <| mv Z ?_;obtain ⟨v9, hv9, h⟩ := h;refine u0 (QC hv9 Z Z Z Z Z Z Z Z) <| u0 (Zs Z Z Z Z Z Z Z) <| u1 (QO Z Z Z) <| un (Qd Z Z Z Z Z Z Z Z Z) <| rt (hL _ ?_);refine Qt <| tk fun L hL => u0 (Q1 Z Z Z Z Z Z Z Z Z) <| u0 (Q2 Z Z Z Z Z Z) ?_;obtain ⟨v10, hv10, h⟩ := h;refine u0 (Q6 (V4 _ _ hv10) Z Z (.cons (.c (.p _)) .nil) Z Z Z) <| u0 (QM Z Z Z) <| Qj Z Z <| rt (hL _ ?_);refine Z2 Z h (fun h => ?_) fun h => ?_
          · refine tk fun L hL => Qj Z Z <| rt (hL _ ?_);obtain rfl := h;exact Qa (hQ _ _ (ZN Z Z))
          · refine tk fun L hL => u0 (Q1 Z Z Z Z Z Z Z Z Z) <| u0 (Q2 Z Z Z Z Z Z) ?_;obtain ⟨v11, hv11, h⟩ := h;refine u0 (Q6 (QX _ _ _ _ hv11) Z Z (.cons (.c (.p _)) (.cons (.c (.p _)) (.cons (.c (.p _)) .nil))) Z Z Z) <| u0 (QM Z Z Z) <| mv Z <| Q5 Z Z Qg (fun hg => Q1 Z Z Z Z Z Z Z Z Z) <| Q5 Z Z Qg (fun hg => Q2 (Ql hg) Z Z Z Z Z) <| Q5 Z Z Qg (fun hg => Q1 Z Z Z Z Z Z Z Z Z) <| Q5 Z Z Qg (fun hg => Q2 (Ql hg) Z Z Z Z Z) <| Q5 Z Z Qg (fun hg => Zy (Ql hg) Z Z Z Z) ?_;obtain ⟨v12, hv12, h⟩ := h;refine Q5 Z Z Qg (fun hg => Q6 (QX _ _ _ _ (hv12 hg)) Z Z (.cons (Zo hg (.c (.p _))) (.cons (.c (.p _)) (.cons (Zo hg (.c (.p _))) .nil))) Z Z Z) <| Q5 Z Z Qg (fun hg => QM (Ql hg) Z Z) <| u0 (Qy (v := .bool true) (w := .bool (!(v12))) Z Z Qg Z QH Z Z Z) <| Qj Z Z <| rt (hL _ ?_);refine Z2 Z h (fun h => ?_) fun h => ?_
            · refine tk fun L hL => Qj Z Z <| rt (hL _ ?_);obtain rfl := h;exact Qa (hQ _ _ (ZN Z Z))
            · refine dk mixed (fun L hL => ?_);refine u0 (Q1 Z Z Z Z Z Z Z Z Z) <| u0 (Q2 Z Z Z Z Z Z) <| mv Z ?_;obtain ⟨hm13, h⟩ := h;refine u0 (Al hm13 Z Z Z Z Z Z Z Z) <| u0 (Q1 Z Z Z Z Z Z Z Z Z) <| u0 (Q2 Z Z Z Z Z Z) ?_;obtain ⟨v14, hv14, h⟩ := h;refine u0 (Q6 (Uv _ _ _ hv14) Z Z (.cons (.c (.p _)) (.cons (.c (.p _)) .nil)) Z Z Z) <| u0 (Q7 (c := decide (v14 ≥ 0)) Z Z Z Z Z) <| Qj Z Z <| rd (hL _ ?_);refine Z2 Z h (fun h => ?_) fun h => ?_
              · refine tk fun L hL => Qj Z Z <| rt (hL _ ?_);refine Zc (st' := ⟨[(2, .c (.p (.v (.int .i64 9))))], []⟩) (QL.nm [2] [] Z Z) ?_;obtain rfl := h;exact Qa (hQ _ _ (ZN Z Z))
              · refine dk mixed (fun L hL => ?_);refine mv Z <| u0 (Q7 (c := decide (s6 > 0)) Z Z Z Z Z) <| mv Z <| Q5 Z Z Qb (fun hg => Q1 Z Z Z Z Z Z Z Z Z) <| Q5 Z Z Qb (fun hg => Q2 (Ql hg) Z Z Z Z Z) <| Q5 Z Z Qb (fun hg => Qm Z Z) <| Q5 Z Z Qb (fun hg => Zy (Ql hg) Z Z Z Z) ?_;obtain ⟨v15, hv15, h⟩ := h;refine Q5 Z Z Qb (fun hg => QC (hv15 hg) (Ql hg) (Ql hg) Z Z Z Z Z Z) <| Q5 Z Z Qb (fun hg => Zs (Ql hg) Z Z Z Z Z Z) <| Q5 Z Z Qb (fun hg => Q4 Z Z Z Z Z Z Z) ?_;obtain ⟨v16, hv16, h⟩ := h;refine Q5 Z Z Qb (fun hg => Q6 (Ao _ _ _ (hv16 hg)) Z Z (.cons (Zo hg (.agg (.pp (.pp (.pp .nil))))) (.cons (Zo hg (.agg (.pp (.pp (.pp .nil))))) .nil)) Z Z Z) <| Q5 Z Z Qb (fun hg => QM (Ql hg) Z Z) <| u0 (Qu (v := .bool (!(v16))) (w := .bool false) Z Z Qb Z QH Z Z Z) <| Qj Z Z <| rd (hL _ ?_);refine Z2 Z h (fun h => ?_) fun h => ?_
                · refine tk fun L hL => Qj Z Z <| rt (hL _ ?_);refine Zc (st' := ⟨[(2, .c (.p (.v (.int .i64 19))))], []⟩) (QL.nm [2] [] Z Z) ?_;obtain rfl := h;exact Qa (hQ _ _ (ZN Z Z))
                · refine Qc (hL8 _ ?_);refine Zc (st' := ⟨[(1, .c (.ptr (1, 0) 0 0)), (3, .c (.p (.v (.int .i64 s6))))], [((1, 0), some (.box (List.map CV.p (Jk a0)))), ((4, 0), some (.box (List.map CV.p (Q8 v9))))]⟩) (QL.nm [1, 3] [((1, 0), (1, 0)), ((4, 0), (4, 0))] Z Z) ?_;refine tl fun L hL => mv Z <| u0 (QK Z Z Z Z Z) <| Qj Z Z ?_;refine rt (hL _ (hL6 _ _ h (QL.nm [1, 3] [((1, 0), (1, 0))] Z (by kernel_rfl))))
        · refine Z6 (hL5 _ _ h (QL.nm [] [] Z (by kernel_rfl)))
end Go.Proofs.YthpbblhpapnbfaaGreat
