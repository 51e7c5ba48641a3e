/- Parts of the proof, laid together. No condition. -/
import Derived.Test.YtimfmcpbkdpmoaaGreatKB2
import Derived.Lib.Mul64
import Derived.Laws.Bits64b
set_option linter.unusedVariables false
set_option linter.unusedSimpArgs false
namespace Go.Proofs.YtimfmcpbkdpmoaaGreat
open Go.RowKit
theorem hi_ {p : Prop} (h : p := by first | assumption | exact Cb (by assumption) | exact Cb (Cb (by assumption)) | exact Cb (Cb (Cb (by assumption))) | exact Cb (Cb (Cb (Cb (by assumption))))) : p := h
structure CD where
 x : List PV
 ps : List Prop
def crF (st : St) : List CV → List PV → Option CD
 | [], _ => some ⟨[], []⟩
 | .p x :: cs, g :: gs => match crF st cs gs with
  | some ⟨xs, ps⟩ => match g with
   | .l e _ => match x with
    | .v (.slice none 0 0) => some ⟨.l e [] :: xs, ps⟩
    | x => some ⟨x :: xs, ps⟩
   | _ => some ⟨x :: xs, ps⟩
  | none => none
 | .sl b off n :: cs, .l _ rows' :: gs => match st.h b with
  | some (.row e rows false) => match crF st cs gs with
   | some ⟨xs, ps⟩ => some ⟨.l e rows' :: xs, ((rows.drop off).take n = rows') :: ps⟩
   | none => none
  | _ => none
 | _, _ => none
theorem LB {st : St} : ∀ {cs : List CV} {gs : List PV} {r : CD}, crF st cs gs = some r → Xw r.ps → Crs st cs r.x
 | [], _, r, h, hp => by simp only [crF] at h; cases h; exact .nil
 | .p x :: cs, g :: gs, r, h, hp => by
  simp only [crF] at h
  split at h
  ·rename_i xs ps h1
   split at h
   ·split at h
    ·cases h; exact .cons (.nil _) (LB h1 hp)
    ·cases h; exact .cons (.k _) (LB h1 hp)
   ·cases h; exact .cons (.k _) (LB h1 hp)
  ·cases h
 | .sl b off n :: cs, .l _ rows' :: gs, r, h, hp => by
  simp only [crF] at h
  split at h
  ·rename_i hb
   split at h
   ·rename_i h1; cases h; cases hp with | cons h2 hp => exact .cons (.fr hb h2) (LB h1 hp)
   ·cases h
  ·cases h
 | .p _ :: _, [], r, h, hp => by simp [crF] at h
 | .sl _ _ _ :: _, [], r, h, hp => by simp [crF] at h
 | .sl _ _ _ :: _, .v _ :: _, r, h, hp => by simp [crF] at h
 | .sl _ _ _ :: _, .o _ :: _, r, h, hp => by simp [crF] at h
 | .any :: _, _, r, h, hp => by simp [crF] at h
 | .ptr _ _ _ :: _, _, r, h, hp => by simp [crF] at h
 | .ep _ _ :: _, _, r, h, hp => by simp [crF] at h
 | .mp _ :: _, _, r, h, hp => by simp [crF] at h
def Z0b (st : St) : List CV → Option Qw
 | [] => none
 | .sl b _ _ :: cs => match st.h b with
  | some (.row _ _ true) => some b
  | _ => Z0b st cs
 | _ :: cs => Z0b st cs
def mus (st : St) : List Operand → Option Qw
 | [] => none
 | x :: xs => match Z0b st (st.ev x).cs1 with
  | some b => some b
  | none => mus st xs
section
variable {P : Program} {E : En} {N : Nat} {ops : Array Oper} {st : St} {d : Nat} {ty : Nat} {pos : String} {af : Array Edge} {gd : Option (Nat × Bool)} {K0 : Prop} {fr : List (Nat × TV)} {H : List (Qw × Option Bk)}
theorem fz1 {o : Oper} {rb al : List Qw} {t : TV} {bl : List (Qw × Option Bk)} {b : Qw} {e : Nat} {rows : List (List PV)} {mu : Bool} (m : mus ⟨fr, H⟩ o.op.operands.toList = some b) (c : (⟨fr, H⟩ : St).h b = some (.row e rows mu))
  (k : ZC E N P ops o ⟨fr, (b, some (.row e rows false)) :: H⟩ ⟨rb, al⟩ ⟨t, bl⟩) (a : Dh al [b] = true) : ZC E N P ops o ⟨fr, H⟩ ⟨b :: rb, al⟩ ⟨t, bl ++ [(b, some (.row e rows false))]⟩ := Qrm c a k
theorem bsl [T : Tb P] {parts : Array (Nat × Operand)} {t e n sz : Nat} {tt te : TE} {zs : List Value} {cs : List CV} {ps : List PV} {rows : List (List PV)} (hh : Qh rows K0) (ht : Zn T.ty t = some tt := by exact rfl) (hk : tt.kd = .slice e := by exact rfl) (hel : Zn T.ty e = some te := by exact rfl) (hsz : te.size = sz := by exact rfl) (hpos : Nat.blt 0 (n * sz) = true := by exact rfl) (hsm : Nat.ble (n * sz) 16777216 = true := by exact rfl)
  (hz : te.zero.cells.toList = zs := by exact rfl) (hat : zs.all Jm = true := by exact rfl) (hf : La (fun i => some (i * sz, sz)) ((List.range (n * sz)).map fun i => .p (.v (zs.getD (i % zs.length) undef))) (parts.toList.map fun x => (x.1, st.ev x.2)) = some cs := by exact rfl) (hps : pvs cs = some ps := by exact rfl) (hrows : FY sz n ps = rows := by exact rfl)
  (hzl : zs.length = sz := by exact rfl) (hok : parts.toList.all (fun x => Zf x.2) = true := by exact rfl) :
  ZC E N P ops ⟨some d, .buildSlice t n parts, ty, pos, af, gd⟩ st ⟨[], [(d, 0)]⟩ ⟨.c (.sl (d, 0) 0 n), [((d, 0), some (.row sz rows true))]⟩ := Ki ht hk hel hsz hpos hsm hz hat hf hps hrows hzl hok
theorem Z0c [T : Tb P] {parts : Array (Nat × Operand)} {t e n sz : Nat} {tt te : TE} {zs : List Value} {cs : List CV} {r : CD} {rows : List (List PV)} (hh : Qh rows K0) (ht : Zn T.ty t = some tt := by exact rfl) (hk : tt.kd = .slice e := by exact rfl) (hel : Zn T.ty e = some te := by exact rfl) (hsz : te.size = sz := by exact rfl) (hpos : Nat.blt 0 (n * sz) = true := by exact rfl) (hsm : Nat.ble (n * sz) 16777216 = true := by exact rfl)
  (hz : te.zero.cells.toList = zs := by exact rfl) (hat : zs.all Jm = true := by exact rfl) (hf : La (fun i => some (i * sz, sz)) ((List.range (n * sz)).map fun i => .p (.v (zs.getD (i % zs.length) undef))) (parts.toList.map fun x => (x.1, st.ev x.2)) = some cs := by exact rfl) (hc : crF st cs rows.flatten = some r := by exact rfl) (hp : Xw r.ps := by exact Ly) (hrows : FY sz n r.x = rows := by exact rfl)
  (hzl : zs.length = sz := by exact rfl) (hok : parts.toList.all (fun x => Zf x.2) = true := by exact rfl) :
  ZC E N P ops ⟨some d, .buildSlice t n parts, ty, pos, af, gd⟩ st ⟨AJ cs, [(d, 0)]⟩ ⟨.c (.sl (d, 0) 0 n), [((d, 0), some (.row sz rows true))]⟩ := Q63 ht hk hel hsz hpos hsm hz hat hf (LB hc hp) hrows hzl hok
theorem bsl0 [T : Tb P] {α : Type} {f : α → List PV} {t e sz : Nat} {tt te : TE} (hh : Qh f K0) (ht : Zn T.ty t = some tt := by exact rfl) (hk : tt.kd = .slice e := by exact rfl) (hel : Zn T.ty e = some te := by exact rfl) (hsz : te.size = sz := by exact rfl) (hpos : Nat.blt 0 sz = true := by exact rfl) :
  ZC E N P ops ⟨some d, .buildSlice t 0 #[], ty, pos, af, gd⟩ st ⟨[], [(d, 0)]⟩ ⟨.c (.sl (d, 0) 0 (([] : List α).map f).length), [((d, 0), some (.row sz (([] : List α).map f) true))]⟩ := Qjc ht hk hel hsz hpos
theorem srow [T : Tb P] {α : Type} {f : α → List PV} {L : List α} {x y : Operand} {t : TypeId} {te : TE} {b : Qw} {i k e : Nat} {x0 x1 : α} {ps : List PV} {v : TV} {dst : Option Nat} (hh : Qh x1 K0) (hx : st.ev x = .c (.ptr b i k) := by exact rfl) (hb : st.h b = some (.row e (L.map f) true) := by exact rfl) (hv : st.ev y = v := by exact rfl) (hk : v.known = true := by exact rfl) (hps : pvs v.cells = some ps := by exact rfl)
  (ht : Zn T.ty t = some te := by exact rfl) (hsz : ps.length = te.size := by exact rfl) (hin : Nat.ble (k + ps.length) e = true := by exact rfl) (hi : L[i]? = some x0 := by exact hi_) (hr' : setAt (f x0) k ps = f x1 := by exact rfl) (hcx : Zf x = true := by exact rfl) (hcy : Zf y = true := by exact rfl) :
  ZC E N P ops ⟨dst, .store t x y, ty, pos, af, gd⟩ st ⟨[b], []⟩ ⟨.c .any, [(b, some (.row e ((L.set i x1).map f) true))]⟩ := Q62 hi hx hb hv hk hps ht hsz hin hr' hcx hcy
theorem Qjr [T : Tb P] {α : Type} {f : α → List PV} {L : List α} {x y : Operand} {t : TypeId} {te : TE} {b : Qw} {i k e : Nat} {x0 x1 : α} {r : CD} {v : TV} {dst : Option Nat} (hh : Qh x1 K0) (hx : st.ev x = .c (.ptr b i k) := by exact rfl) (hb : st.h b = some (.row e (L.map f) true) := by exact rfl) (hv : st.ev y = v := by exact rfl) (hk : v.known = true := by exact rfl) (hc : crF st v.cells ((f x1).drop k) = some r := by exact rfl) (hp : Xw r.ps := by exact Ly)
  (ht : Zn T.ty t = some te := by exact rfl) (hsz : r.x.length = te.size := by exact rfl) (hin : Nat.ble (k + r.x.length) e = true := by exact rfl) (hi : L[i]? = some x0 := by exact hi_) (hr' : setAt (f x0) k r.x = f x1 := by exact rfl) (hcx : Zf x = true := by exact rfl) (hcy : Zf y = true := by exact rfl) :
  ZC E N P ops ⟨dst, .store t x y, ty, pos, af, gd⟩ st ⟨b :: AJ v.cells, []⟩ ⟨.c .any, [(b, some (.row e ((L.set i x1).map f) true))]⟩ := Q1g hi hx hb hv hk (LB hc hp) ht hsz hin hr' hcx hcy
theorem mk_ [T : Tb P] {α : Type} {f : α → List PV} {z : α} {x y : Operand} {t el e by' : Nat} {tt te : TE} {k k' : IntKind} {n : Int} {zs : List Value} {r : CD} (hh : Qh (fun _ : Unit => (f, z)) K0) (hn : 0 ≤ n ∧ n * (by' : Nat) ≤ 140737488355328) (h1 : st.ev x = .c (.p (.v (.int k n))) := by exact rfl) (h2 : st.ev y = .c (.p (.v (.int k' n))) := by exact rfl) (ht : Zn T.ty t = some tt := by exact rfl) (hk : tt.kd = .slice el := by exact rfl) (hel : Zn T.ty el = some te := by exact rfl) (hes : te.size = e := by exact rfl) (hbt : te.bytes = by' := by exact rfl) (hpos : (Nat.blt 0 by' && Nat.blt 0 e) = true := by exact rfl) (hz : te.zero.cells.toList = zs := by exact rfl)
  (hc : crF (⟨[], []⟩ : St) (zs.map fun v => .p (.v v)) (f z) = some r := by exact rfl) (hp : Xw r.ps := by exact Ly) (hx : r.x = f z := by exact rfl) (hat : zs.all Jm = true := by exact rfl) (hok : (Zf x && Zf y && Nat.beq zs.length e) = true := by exact rfl) :
  ZC E N P ops ⟨some d, .makeSlice t x y, ty, pos, af, gd⟩ st ⟨[], [(d, 0)]⟩ ⟨.c (.sl (d, 0) 0 ((List.replicate n.toNat z).map f).length), [((d, 0), some (.row e ((List.replicate n.toNat z).map f) true))]⟩ := Qzr hn h1 h2 ht hk hel hes hbt hpos hz (hx ▸ LB hc hp) hat hok
end
section
variable {E : En} {N : Nat} {P : Program} {T : Tb P} {ops : Array Oper} {o : Oper} {st : St} {d : Nat} {ty : Nat} {pos : String} {af : Array Edge} {gd : Option (Nat × Bool)} {cx : Cx} {a : Act} {w w' : World} {v : Value}
theorem Q69 {x y : Operand} {t tx el : TypeId} {te tt : TE} {e n : Nat} {b : Qw} {rowsA rows rows' rows2 : List (List PV)} {rb : List Qw} (hx : st.ev x = .c (.sl b 0 n)) (hcx : Zf x = true) (hb : st.h b = some (.row e rowsA true)) (hA : rowsA.take n = rows)
  (ht : Zn T.ty t = some tt) (hk : tt.kd = .slice el) (hel : Zn T.ty el = some te) (hes : te.size = e) (hz : te.zero.cells.size = e)
  (hsrc : Q5t E N P ops ⟨some d, .call { callee := .builtin .append, args := #[x, y], argTypes := #[t, tx] }, ty, pos, af, gd⟩ st rb tx e y rows') (h2 : rows ++ rows' = rows2) {n2 : Nat} (hn2 : n + rows'.length = n2) (hlen : n2 ≤ 140737488355328) (hby : n2 * te.bytes ≤ 140737488355328) :
  ZC E N P ops ⟨some d, .call { callee := .builtin .append, args := #[x, y], argTypes := #[t, tx] }, ty, pos, af, gd⟩ st ⟨b :: rb, [(d, 0)]⟩ ⟨.c (.sl (d, 0) 0 n2), [((d, 0), some (.row e rows2 true)), (b, none)]⟩ := by
 intro st' ha hf hd cx a w Q hr
 have ha' : Agree ops ⟨some d, .call { callee := .builtin .append, args := #[x, y], argTypes := #[t, tx] }, ty, pos, af, gd⟩ ⟨rb, []⟩ st st' := ⟨ha.1, fun b' hb' => ha.2 b' (List.mem_cons_of_mem _ hb')⟩
 obtain ⟨-, h4⟩ := Pt hx hcx ha (by simp [Op.operands, Call.operands]) hr
 have hb' : st'.h b = some (.row e rowsA true) := by rw [ha.2 b (by simp)]; exact hb
 obtain ⟨a', cap0, h5, h6, h7, h8, h9⟩ := h4 _ hb'
 obtain ⟨he, hreA, hrb⟩ := hr.bl b _ hb'
 have hn : rows.length = n := by rw [← hA, List.length_take]; simp only [Bk.len] at h8; omega
 have hre : ∀ r ∈ rows, r.length = e := fun r h => hreA r (by rw [← hA] at h; exact List.mem_of_mem_take h)
 have hup : ∀ (i : Nat) (r : List PV), rows[i]? = some r → rowsA[i]? = some r := fun i r h => by
  rw [← hA, List.getElem?_take] at h
  split at h
  ·exact h
  ·cases h
 obtain ⟨us, hR, hS⟩ := hsrc st' cx a w ha' hr
 have hfr := hf (d, 0) (by simp)
 subst h2
 subst hn2
 subst hn
 obtain ⟨i, hi1, hi2, hi3, hi4⟩ := Mv hel
 obtain ⟨bc, hbc⟩ := Y4 (P := P) (d := d) (ty := ty) (pos := pos) (af := af) (gd := gd) (w := w) (b := .append) (args := #[x, y]) (ats := #[t, tx]) (a := a)
 -- the elder cells
 have hown : ∃ xs, AK w cx.A e rows xs ∧ ((∃ a, Value.slice a' rows.length cap0 = .slice a 0 0 ∧ rows.length = 0) ∨ ∃ g cap cur el', Value.slice a' rows.length cap0 = .slice (some ⟨g, 0, none⟩) rows.length cap ∧ w.heap[g]? = some (.cells cur el' (0, 0)) ∧ rows.length ≤ cap ∧ cap ≤ maxLen ∧ cur.size = cap * e ∧ cur.toList.take (rows.length * e) = xs ∧ 0 < cap) ∧
   ∀ g, a' = some ⟨g, 0, none⟩ → 0 < cap0 → cx.ι b = some (g, 0) ∧ ¬ cx.A g := by
  by_cases hc0 : cap0 = 0
  ·have hr0 : rows = [] := List.eq_nil_of_length_eq_zero (by omega)
   subst hr0
   subst hc0
   exact ⟨[], AK.nil _ _ _, .inl ⟨a', rfl, rfl⟩, fun g _ h => by omega⟩
  ·rcases h9 with h9 | ⟨g, c, el', fz, h10, h11, h12, h13⟩
   ·exact absurd h9 hc0
   ·rw [h10] at hrb
    obtain ⟨-, c', el2, fz', capR, h14, h15, h16, h17, h18, h19, h20⟩ := hrb
    rw [h12] at h14
    cases h14
    obtain ⟨rfl, hnA⟩ := h15 rfl
    simp only [Bk.e, Nat.zero_mul, Nat.zero_add] at h11 h13
    replace h13 := h13 he
    refine ⟨c.toList.take (rows.length * e), ⟨?_, hre, fun i r k p hi hk => ?_⟩, .inr ⟨g, cap0, c, el', by rw [h11], h12, h6, h7, h13, rfl, by omega⟩, fun g' hg' _ => ?_⟩
    ·have hcl : c.toList.length = cap0 * e := by rw [Array.length_toList, h13]
     rw [List.length_take, hcl]
     have : rows.length * e ≤ cap0 * e := Nat.mul_le_mul_right e h6
     omega
    ·obtain ⟨cv, hcv, hp⟩ := h20 i r k p (hup i r hi) hk
     refine ⟨cv, ?_, hp⟩
     have hil := (List.getElem?_eq_some_iff.1 hi).1
     have hkl := (List.getElem?_eq_some_iff.1 hk).1
     have hrl := hre r (List.mem_of_getElem? hi)
     have hlt : i * e + k < rows.length * e := by
      have : (i + 1) * e ≤ rows.length * e := Nat.mul_le_mul_right e hil
      rw [Nat.add_mul] at this
      omega
     rw [List.getElem?_take, if_pos hlt, Array.getElem?_toList]; exact hcv
    ·rw [h11] at hg'
     cases hg'
     exact ⟨h10, hnA⟩
 obtain ⟨xs, hxs, hal, hιb⟩ := hown
 obtain ⟨v', w', hrun, hcase⟩ := Pw (P := P) w t tx ty el i te.zero e te.bytes (KN ht hk) hi1 hi4 (by rw [hi2, hes]) hi3 hz (.slice a' rows.length cap0) rows.length xs hxs.1 hal (a.eval y) rows'.length us hS (by unfold maxLen; omega) hby
 have hrun' : (execOp a.eval ⟨some d, .call { callee := .builtin .append, args := #[x, y], argTypes := #[t, tx] }, ty, pos, af, gd⟩).run P w = .ok (.value v') w' := by
  rw [hbc]
  simp only [List.map_toArray, List.map_cons, List.map_nil, h5, builtin, Sem.run_bind, hrun, Result.andThen_ok, Sem.run_pure]
 have hR2 := hxs.app hR
 have hle : (rows ++ rows').length = rows.length + rows'.length := List.length_append
 have hat : ∀ (cur' : Array Value), cur'.toList.take ((rows.length + rows'.length) * e) = xs ++ us → ∀ (i : Nat) (r : List PV) (k : Nat) (p : PV), (rows ++ rows')[i]? = some r → r[k]? = some p → ∃ cv, cur'[i * e + k]? = some cv ∧ RP w cx.A p cv := by
  intro cur' h i r k p hi' hk'
  obtain ⟨u, hu, hp⟩ := hR2.2.2 i r k p hi' hk'
  refine ⟨u, ?_, hp⟩
  rw [← h, List.getElem?_take] at hu
  split at hu
  ·simpa using hu
  ·cases hu
 have hno : ∀ x, (Ef.ap ⟨.c (.sl (d, 0) 0 (rows.length + rows'.length)), [((d, 0), some (.row e (rows ++ rows') true)), (b, none)]⟩ ⟨some d, .call { callee := .builtin .append, args := #[x, y], argTypes := #[t, tx] }, ty, pos, af, gd⟩ st').h (d, 0) = some (.row e (rows ++ rows') true) := fun x => by rw [Px, if_pos rfl]
 have hnil : (cx.upd (d, 0) none).ι (d, 0) = none := by simp [Cx.upd]
 have hsm : ∀ y, (cx.upd (d, 0) (some y)).ι (d, 0) = some y := fun y => by simp [Cx.upd]
 refine Ut hrun' ?_
 rcases hcase with ⟨a2, rfl, rfl, h0⟩ | ⟨g, cap, cur, el', cur', h1, h2, rfl, h3, h10, rfl, h11, h12, h13, h14⟩ | ⟨cap, cur', rfl, h2, h3, h10, h11, h12, h13, h14, h15⟩
 ·have hrows : rows ++ rows' = [] := List.eq_nil_of_length_eq_zero (by omega)
  refine ⟨cx.upd (d, 0) none, DJ hr hd (b := (d, 0)) (hd d rfl) hfr ⟨_, hb'⟩ (Xg.refl _ _) rfl rfl rfl (fun _ _ _ => rfl) (fun g q h => by cases h) ⟨he, by rw [hrows]; simp, by rw [hnil]; exact hrows⟩ ?_⟩
  have := hno x
  rw [hrows, h0] at this ⊢
  exact Li this
 ·cases h1
  obtain ⟨hι, hnA⟩ := hιb g rfl h14
  have hk2 : Xg cx.A w (w.setRow g cur') := ⟨by simp, fun g' hA _ => setRow_other w g g' cur' (fun e => hnA (e ▸ hA)), Iw h2 h11⟩
  refine ⟨cx.upd (d, 0) (some (g, 0)), DJ hr hd (b := (d, 0)) (hd d rfl) hfr ⟨_, hb'⟩ hk2 rfl rfl rfl (fun g' h _ => setRow_other w g g' cur' (fun e => h 0 (by rw [e]; exact hι))) (fun g' q h => by cases h; exact .inl ⟨⟨0, hι⟩, by simpa using (Array.getElem?_eq_some_iff.1 h2).1⟩) ⟨he, hR2.2.1, ?_⟩ ⟨.inr rfl, fun bk hbk => ?_⟩⟩
  ·rw [hsm]
   exact ⟨rfl, cur', el', (0, 0), cap0, setRow_heap w g cur cur' el' _ h2, fun _ => ⟨rfl, hnA⟩, (fun h => by cases h), by rw [h11, h12], by rw [hle]; exact h3, h10, fun i r k p hi' hk' => let ⟨cv, hc, hp⟩ := hat cur' h13 i r k p hi' hk'; ⟨cv, hc, hp.keeps (fun _ h => h) hk2⟩⟩
  ·rw [hno x] at hbk
   cases hbk
   exact ⟨_, _, rfl, h3, h10, by simp [Bk.len], .inr ⟨g, cur', el', (0, 0), hsm _, by simp, setRow_heap w g cur cur' el' _ h2, fun _ => by simp only [Bk.e]; rw [h11, h12, Nat.zero_add]⟩⟩
 ·refine ⟨cx.upd (d, 0) (some (w.heap.size, 0)), DJ hr hd (b := (d, 0)) (hd d rfl) hfr ⟨_, hb'⟩ (Xy h10) h11 h12 h13 (fun g' _ h => CB h10 h) (fun g' q h => by cases h; exact .inr ⟨rfl, by rw [h10]; simp⟩) ⟨he, hR2.2.1, ?_⟩ ⟨.inr rfl, fun bk hbk => ?_⟩⟩
  ·rw [hsm]
   exact ⟨rfl, cur', el, (0, 0), cap, Y6 h10, fun _ => ⟨rfl, fun h => by have := (hr.A _ h).1; omega⟩, (fun h => by cases h), h14, by rw [hle]; exact h2, h3, fun i r k p hi' hk' => let ⟨cv, hc, hp⟩ := hat cur' h15 i r k p hi' hk'; ⟨cv, hc, hp.keeps (fun _ h => h) (Xy h10)⟩⟩
  ·rw [hno x] at hbk
   cases hbk
   exact ⟨_, _, rfl, h2, h3, by simp [Bk.len], .inr ⟨w.heap.size, cur', el, (0, 0), hsm _, by simp, Y6 h10, fun _ => by simp only [Bk.e]; rw [h14, Nat.zero_add]⟩⟩
theorem NA [T : Tb P] {α : Type} {f : α → List PV} {L L' : List α} {x y : Operand} {t tx el : TypeId} {te tt : TE} {e m by' : Nat} {b : Qw} {rb : List Qw} (hby : m ≤ L.length ∧ (m + L'.length) * by' ≤ 140737488355328) (hx : st.ev x = .c (.sl b 0 m) := by exact rfl) (hcx : Zf x = true := by exact rfl) (hb : st.h b = some (.row e (L.map f) true) := by exact rfl) (ht : Zn T.ty t = some tt := by exact rfl) (hk : tt.kd = .slice el := by exact rfl) (hel : Zn T.ty el = some te := by exact rfl) (hes : te.size = e := by exact rfl) (hbt : te.bytes = by' := by exact rfl) (hpos : Nat.blt 0 by' = true := by exact rfl) (hz : te.zero.cells.size = e := by exact rfl)
  (hsrc : Q61 E N P ops ⟨some d, .call { callee := .builtin .append, args := #[x, y], argTypes := #[t, tx] }, ty, pos, af, gd⟩ st rb tx e y f L') :
  ZC E N P ops ⟨some d, .call { callee := .builtin .append, args := #[x, y], argTypes := #[t, tx] }, ty, pos, af, gd⟩ st ⟨b :: rb, [(d, 0)]⟩ ⟨.c (.sl (d, 0) 0 ((L.take m ++ L').map f).length), [((d, 0), some (.row e ((L.take m ++ L').map f) true)), (b, none)]⟩ := by
 have hb2 : m + L'.length ≤ 140737488355328 := Nat.le_trans (Nat.le_mul_of_pos_right _ (Nat.le_of_ble_eq_true hpos)) hby.2
 have hl : ((L.take m ++ L').map f).length = m + L'.length := by simp; omega
 rw [hl]
 exact Q69 hx hcx hb (List.map_take).symm ht hk hel hes hz hsrc (List.map_append).symm (by simp) (by simpa using hb2) (by rw [hbt]; simpa using hby.2)
end
def hB (k : Nat) : Qw := (Nat.add 65537 k, 0)
def inH : Nat → List (Nat × List (List PV)) → List (Qw × Option Bk)
 | _, [] => []
 | k, (e, rows) :: r => (hB k, some (.row e rows true)) :: inH (Nat.add k 1) r
def enT : Nat → List TV → List (Nat × TV)
 | _, [] => []
 | j, t :: r => (j, t) :: enT (Nat.add j 1) r
theorem Qjs : ∀ (ins : List (Nat × List (List PV))) (k : Nat) (b : Qw), XZ (inH k ins) b = if b.2 = 0 ∧ 65537 + k ≤ b.1 then (match ins[b.1 - (65537 + k)]? with | some x => some (some (.row x.1 x.2 true)) | none => none) else none := by
 intro ins
 induction ins with
 | nil => intro k b; simp [inH, XZ]
 | cons x ins ih =>
  obtain ⟨e, rows⟩ := x
  intro k b
  have key := ih (k + 1) b
  obtain ⟨b1, b2⟩ := b
  simp only [inH, XZ]
  cases hq : VP (hB k) (b1, b2) with
  | true =>
   have := Z6.1 hq
   simp only [hB, Nat.add_eq, Prod.mk.injEq] at this
   obtain ⟨h1, h2⟩ := this
   simp only
   rw [if_pos (by first | omega | (simp only; omega)), show b1 - (65537 + k) = 0 by omega]
   rfl
  | false =>
   have hne : ¬ (65537 + k = b1 ∧ 0 = b2) := by
    intro h
    have : VP (hB k) (b1, b2) = true := Z6.2 (by simp only [hB, Nat.add_eq, h.1, h.2])
    rw [hq] at this; cases this
   simp only [Nat.add_eq]
   rw [key]
   simp only
   by_cases h : b2 = 0 ∧ 65537 + (k + 1) ≤ b1
   ·rw [if_pos h, if_pos (by omega), show b1 - (65537 + k) = (b1 - (65537 + (k + 1))) + 1 by omega, List.getElem?_cons_succ]
   ·rw [if_neg h]
    rw [if_neg (by omega)]
def Qda (st : St) : Nat → List (Nat × List (List PV)) → List (Option (List (List PV))) → Prop
 | _, [], [] => True
 | k, x :: ins, y :: outs => (∀ rows', y = some rows' → st.h (hB k) = some (.row x.1 rows' true)) ∧ Qda st (Nat.add k 1) ins outs
 | _, _, _ => False
theorem Q6a {st : St} : ∀ {ins : List (Nat × List (List PV))} {outs : List (Option (List (List PV)))} {k : Nat}, Qda st k ins outs → outs.length = ins.length ∧ ∀ i e rows rows', ins[i]? = some (e, rows) → outs[i]? = some (some rows') → st.h (hB (k + i)) = some (.row e rows' true)
 | [], [], k, h => ⟨rfl, fun i e rows rows' h => by simp at h⟩
 | [], _ :: _, k, h => h.elim
 | _ :: _, [], k, h => h.elim
 | x :: ins, y :: outs, k, h => by
  obtain ⟨h1, h2⟩ := h
  obtain ⟨h3, h4⟩ := Q6a h2
  refine ⟨by simp [h3], fun i e rows rows' hi ho => ?_⟩
  cases i with
  | zero =>
   rw [List.getElem?_cons_zero] at hi ho
   cases hi; cases ho
   exact h1 rows' rfl
  | succ i =>
   rw [show k + (i + 1) = k + 1 + i by omega]
   exact h4 i e rows rows' (by simpa using hi) (by simpa using ho)
def Qad : Nat → List (Option (List (List PV))) → List Qw
 | _, [] => []
 | k, some _ :: r => hB k :: Qad (Nat.add k 1) r
 | k, none :: r => Qad (Nat.add k 1) r
theorem Q1q : ∀ {outs : List (Option (List (List PV)))} {k i : Nat} {rows' : List (List PV)}, outs[i]? = some (some rows') → hB (k + i) ∈ Qad k outs
 | [], k, i, rows', h => by simp at h
 | y :: outs, k, i, rows', h => by
  cases i with
  | zero => rw [List.getElem?_cons_zero] at h; cases h; exact List.mem_cons_self
  | succ i =>
   have h2 : outs[i]? = some (some rows') := by simpa using h
   have := Q1q (k := k + 1) h2
   rw [show k + (i + 1) = k + 1 + i by omega]
   cases y with
   | none => exact this
   | some y => exact List.mem_cons_of_mem _ this
def Qjt {P : Program} (T : Tb P) (fn : Func) (ins : List (Nat × List (List PV))) (r : List RS) (outs : List (Option (List (List PV)))) : Exit → St → Prop := fun e st => (e = .normal ∨ e = .ret) ∧ ∃ ts os bs, Mx T st fn.results.toList ts ∧ Nn st ts r os bs ∧ Qda st 0 ins outs ∧ Ll os = true ∧ Dh (os.filterMap id) bs = true ∧ Dh (Qad 0 outs) (os.filterMap id ++ bs) = true
structure CH (P : Program) (f : FuncId) (ins : List (Nat × List (List PV))) (ts : List TV) (r : List RS) (outs : List (Option (List (List PV)))) : Prop where
 ent : Lj P f = true
 run : ∃ (T : Tb P) (fn : Func) (body : Code), P.funcs[f]? = some fn ∧ fn.body = some body ∧ fn.ntmps ≤ 65536 ∧ ts.length ≤ fn.ntmps ∧ ∀ E, AW E fn.ntmps P body (Qjt T fn ins r outs) ⟨enT 0 ts, inH 0 ins⟩
inductive HC (st : St) (σ : List Qw) : CV → CV → List Qw → Prop
 | p {c : CV} {x : PV} {bs : List Qw} (h : ToC st c (.p x) none bs) : HC st σ c (.p x) bs
 | sl {c : Qw} {k n n' : Nat} (h : σ[k]? = some c) (hn : n = n') : HC st σ (.sl c 0 n) (.sl (hB k) 0 n') []
 | ptr {c : Qw} {k i j i' j' : Nat} (h : σ[k]? = some c) (hi : i = i') (hj : j = j') : HC st σ (.ptr c i j) (.ptr (hB k) i' j') []
inductive HCs (st : St) (σ : List Qw) : List CV → List CV → List Qw → Prop
 | nil : HCs st σ [] [] []
 | cons {c c' : CV} {b : List Qw} {cs cs' : List CV} {bs : List Qw} (h : HC st σ c c' b) (hs : HCs st σ cs cs' bs) : HCs st σ (c :: cs) (c' :: cs') (b ++ bs)
inductive HT (st : St) (σ : List Qw) : TV → TV → List Qw → Prop
 | c {c c' : CV} {bs : List Qw} (h : HC st σ c c' bs) : HT st σ (.c c) (.c c') bs
 | agg {cs cs' : List CV} {bs : List Qw} (h : HCs st σ cs cs' bs) : HT st σ (.agg cs) (.agg cs') bs
inductive HTs (st : St) (σ : List Qw) : List TV → List TV → List Qw → Prop
 | nil : HTs st σ [] [] []
 | cons {t t' : TV} {b : List Qw} {ts ts' : List TV} {bs : List Qw} (h : HT st σ t t' b) (hs : HTs st σ ts ts' bs) : HTs st σ (t :: ts) (t' :: ts') (b ++ bs)
def InS (st : St) : List Qw → List (Nat × List (List PV)) → Prop
 | [], [] => True
 | c :: σ, x :: ins => st.h c = some (.row x.1 x.2 true) ∧ InS st σ ins
 | _, _ => False
theorem Qju {st : St} : ∀ {σ : List Qw} {ins : List (Nat × List (List PV))}, InS st σ ins → σ.length = ins.length ∧ ∀ (k : Nat) c, σ[k]? = some c → ∃ e rows, ins[k]? = some (e, rows) ∧ st.h c = some (.row e rows true)
 | [], [], h => ⟨rfl, fun k c h => by simp at h⟩
 | [], _ :: _, h => h.elim
 | _ :: _, [], h => h.elim
 | c :: σ, x :: ins, h => by
  obtain ⟨h3, h4⟩ := Qju h.2
  refine ⟨by simp [h3], fun k c' hk => ?_⟩
  cases k with
  | zero => rw [List.getElem?_cons_zero] at hk; cases hk; exact ⟨x.1, x.2, rfl, h.1⟩
  | succ k => simpa using h4 k c' (by simpa using hk)
def HX : List Qw → List (Nat × List (List PV)) → List (Option (List (List PV))) → List (Qw × Option Bk)
 | c :: σ, x :: ins, y :: outs => (c, y.map fun rows' => .row x.1 rows' true) :: HX σ ins outs
 | _, _, _ => []
theorem Pf : ∀ {σ : List Qw} {ins : List (Nat × List (List PV))} {outs : List (Option (List (List PV)))} {b : Qw} {y : Option Bk}, XZ (HX σ ins outs) b = some y → ∃ (k : Nat) (x : Nat × List (List PV)) (o : Option (List (List PV))), σ[k]? = some b ∧ ins[k]? = some x ∧ outs[k]? = some o ∧ y = Option.map (fun rows' => Bk.row x.1 rows' true) o
 | [], _, _, b, y, h => by simp [HX, XZ] at h
 | _ :: _, [], _, b, y, h => by simp [HX, XZ] at h
 | _ :: _, _ :: _, [], b, y, h => by simp [HX, XZ] at h
 | c :: σ, x :: ins, o :: outs, b, y, h => by
  simp only [HX, XZ] at h
  cases hb : VP c b with
  | true => rw [hb] at h; cases h; exact ⟨0, x, o, by rw [Z6.1 hb]; exact List.getElem?_cons_zero, rfl, rfl, rfl⟩
  | false =>
   rw [hb] at h
   obtain ⟨k, x', o', h1, h2, h3, h4⟩ := Pf h
   exact ⟨k + 1, x', o', by simpa using h1, by simpa using h2, by simpa using h3, h4⟩
theorem Q1r : ∀ {σ : List Qw} {ins : List (Nat × List (List PV))} {outs : List (Option (List (List PV)))} {k : Nat} {b : Qw}, σ.length = ins.length → outs.length = ins.length → σ[k]? = some b → XZ (HX σ ins outs) b ≠ none
 | [], _, _, k, b, _, _, h => by simp at h
 | _ :: _, [], _, k, b, h, _, _ => by simp at h
 | _ :: _, _ :: _, [], k, b, _, h, _ => by simp at h
 | c :: σ, x :: ins, o :: outs, k, b, hl, hl2, h => by
  simp only [HX, XZ]
  cases hb : VP c b with
  | true => simp
  | false =>
   simp only
   cases k with
   | zero => rw [List.getElem?_cons_zero] at h; cases h; rw [Z6.2 rfl] at hb; cases hb
   | succ k => exact Q1r (by simpa using hl) (by simpa using hl2) (by simpa using h)
section
variable {E : En} {N : Nat} {cx : Cx} {st : St} {a : Act} {w w' : World} {P : Program} {T : Tb P} {ops : Array Oper} {o : Oper} {d : Nat} {ty : Nat} {pos : String} {af : Array Edge} {gg : Option (Nat × Bool)}
theorem PR (hr : Xx E N cx st a w) (hd : ∀ d, o.dst = some d → d < N) (hdN : d < N) {r : List RS} {us : List Value} {v : Value} {A2 : Nat → Prop} {gs2 : Nat → Option Nat} {pl : List (Qw × Option Bk)} {fz : List Qw}
  (hfresh : ∀ (n e : Nat) (rows : List (List PV)), (QP r)[n]? = some (.own e rows) → WA (d, n) st) (hA2 : ∀ x, cx.A x → A2 x)
  (hA2' : ∀ x, A2 x → cx.A x ∨ (w.heap.size ≤ x ∧ x < w'.heap.size) ∨ ∃ b, (b ∈ fz ∨ XZ pl b ≠ none) ∧ st.h b ≠ none ∧ ∃ q, cx.ι b = some (x, q))
  (hfz : ∀ b ∈ fz, (∃ e rows mu, st.h b = some (.row e rows mu)) ∧ ∀ g q, cx.ι b = some (g, q) → A2 g) (hfd : ∀ b, XZ pl b ≠ none → b ∉ fz)
  (hdl : ∀ b y, XZ pl b = some y → (∃ e rows, st.h b = some (.row e rows true)) ∧ ∀ bk, y = some bk → ∃ e rows rows', st.h b = some (.row e rows true) ∧ bk = .row e rows' true ∧ rows.length ≤ rows'.length ∧ RB ⟨cx.ι, A2⟩ w' st.h b (.row e rows' true))
  (hsz : w.heap.size ≤ w'.heap.size) (hszk : SzK w w') (hkept : ∀ x, x < w.heap.size → (∀ b, XZ pl b ≠ none → ∀ q, cx.ι b ≠ some (x, q)) → w'.heap[x]? = w.heap[x]?) (hos : w'.os = w.os) (htp : w'.tape = w.tape) (hou : w'.output = w.output)
  (hinj : Q9v gs2) (hgs : ∀ n x, gs2 n = some x → x < w'.heap.size ∧ (w.heap.size ≤ x ∨ ∃ b, XZ pl b = some none ∧ ∃ q, cx.ι b = some (x, q))) (hval : Nl w' A2 gs2 0 (QP r) us)
  (hrt : ∀ (cx : Cx) (h : Qw → Option Bk), (∀ k x u, (QP r)[k]? = some x → us[k]? = some u → RC cx w' h (adC d k x) u) → RT cx w' h (IG d r) v) :
  ∃ cx', Xx E N cx' (Ef.ap ⟨IG d r, AX d 0 (QP r) ++ (pl ++ YJ st fz)⟩ o st) (a.put o.dst v) w' := by
 obtain ⟨hul, hua⟩ := DO hval
 have hpn : ∀ b, XZ pl b ≠ none → ∃ e rows, st.h b = some (.row e rows true) := fun b h => by
  obtain ⟨y, hy⟩ := Option.ne_none_iff_exists'.1 h
  exact (hdl b y hy).1
 have hpll : ∀ b, XZ pl b ≠ none → st.h b ≠ none := fun b hb => by obtain ⟨_, _, h⟩ := hpn b hb; rw [h]; simp
 have hplA : ∀ b, XZ pl b ≠ none → ∀ x q, cx.ι b = some (x, q) → ¬ cx.A x := by
  intro b hb x q hx
  obtain ⟨e1, rows, hbk⟩ := hpn b hb
  obtain ⟨_, _, h8⟩ := hr.bl b _ hbk
  rw [hx] at h8
  obtain ⟨_, c, el, fz, capR, _, h9, _⟩ := h8
  exact (h9 rfl).2
 have hkeep : Xg cx.A w w' := ⟨hsz, fun x hA hx => hkept x hx (fun b hb q hq => hplA b hb x q hq hA), hszk⟩
 generalize hL : QP r = L at *
 let st' := Ef.ap ⟨IG d r, AX d 0 L ++ (pl ++ YJ st fz)⟩ o st
 -- the blocks behind
 have hh : ∀ x, st'.h x = match (if x.1 = d then L[x.2]? else none) with
   | some (.own e rows) => some (.row e rows true)
   | _ => match XZ pl x with
    | some y => y
    | none => if x ∈ fz then frz (st.h x) else st.h x := by
  intro x
  have key : (XZ (pl ++ YJ st fz ++ st.H) x).getD none = match XZ pl x with
    | some y => y
    | none => if x ∈ fz then frz (st.h x) else st.h x := by
   rw [List.append_assoc, VQ, VQ, Q9w]
   cases XZ pl x with
   | some y => rfl
   | none =>
    simp only [Option.none_or]
    by_cases h2 : x ∈ fz
    ·rw [if_pos h2, if_pos h2]; rfl
    ·rw [if_neg h2, if_neg h2]; rfl
  show (XZ (AX d 0 L ++ (pl ++ YJ st fz) ++ st.H) x).getD none = _
  rw [List.append_assoc, VQ, WB]
  by_cases hx : x.1 = d
  ·rw [if_pos ⟨hx, Nat.zero_le _⟩, if_pos hx, Nat.sub_zero]
   cases hy : L[x.2]? with
   | none => simp only [Option.none_or]; exact key
   | some y =>
    cases y with
    | p p => simp only [Option.none_or]; exact key
    | own e rows => rfl
  ·rw [if_neg (fun h => hx h.1), if_neg hx]
   simp only [Option.none_or]
   exact key
 -- which are new
 let nw : Qw → Bool := fun b => match (if b.1 = d then L[b.2]? else none) with
  | some (.own _ _) => true
  | _ => false
 have hnw : ∀ b, nw b = true → ∃ n e rows, b = (d, n) ∧ L[n]? = some (.own e rows) := by
  intro b hb
  simp only [nw] at hb
  by_cases h1 : b.1 = d
  ·rw [if_pos h1] at hb
   cases hx : L[b.2]? with
   | none => rw [hx] at hb; cases hb
   | some x =>
    rw [hx] at hb
    cases x with
    | p p => cases hb
    | own e rows => exact ⟨b.2, e, rows, by rw [← h1], hx⟩
  ·rw [if_neg h1] at hb; cases hb
 have hnw2 : ∀ n e rows, L[n]? = some (.own e rows) → nw (d, n) = true := by
  intro n e rows h
  simp only [nw, if_true, h]
 have hnwn : ∀ x, nw x = true → st.h x = none := fun x hx => by
  obtain ⟨n, e, rows, rfl, h⟩ := hnw x hx
  exact (hfresh n e rows h).1
 have hold' : ∀ x, st.h x ≠ none → nw x = false := fun x hx => by
  cases h : nw x with
  | false => rfl
  | true => exact absurd (hnwn x h) hx
 have hh1 : ∀ x, nw x = false → st'.h x = match XZ pl x with
   | some y => y
   | none => if x ∈ fz then frz (st.h x) else st.h x := by
  intro x hx
  rw [hh]
  simp only [nw] at hx
  revert hx
  generalize (if x.1 = d then L[x.2]? else none) = y
  intro hx
  match y, hx with
  | none, _ => rfl
  | some (.p _), _ => rfl
  | some (.own _ _), hx => cases hx
 have hh2 : ∀ n e rows, L[n]? = some (.own e rows) → st'.h (d, n) = some (.row e rows true) := by
  intro n e rows h
  rw [hh]
  simp only [if_true, h]
 -- what was live
 have hold : ∀ x, nw x = false → st'.h x ≠ none → st.h x ≠ none ∧ XZ pl x ≠ some none := by
  intro x hx h
  rw [hh1 x hx] at h
  cases hp : XZ pl x with
  | some y =>
   rw [hp] at h
   exact ⟨hpll x (by rw [hp]; simp), fun e => by cases e; exact h rfl⟩
  | none =>
   rw [hp] at h
   refine ⟨?_, by simp⟩
   simp only at h
   split at h
   ·intro e; rw [e] at h; exact h rfl
   ·exact h
 let cx2 : Cx := ⟨fun b => if nw b = true then ιOf (gs2 b.2) ((us[b.2]?).getD undef) else cx.ι b, A2⟩
 have hι1 : ∀ b, nw b = true → cx2.ι b = ιOf (gs2 b.2) ((us[b.2]?).getD undef) := fun b h => by show (if nw b = true then _ else _) = _; rw [if_pos h]
 have hι2 : ∀ b, nw b = false → cx2.ι b = cx.ι b := fun b h => by show (if nw b = true then _ else _) = _; rw [if_neg (by rw [h]; simp)]
 have hnew : ∀ b g q, nw b = true → cx2.ι b = some (g, q) → gs2 b.2 = some g := by
  intro b g q h1 h2
  rw [hι1 b h1] at h2
  exact (ιOf_in h2).1
 -- an old block that stays is not touched
 have hstay : ∀ x gx qx, st.h x ≠ none → XZ pl x = none → cx.ι x = some (gx, qx) → w'.heap[gx]? = w.heap[gx]? := by
  intro x gx qx h1 h3 h4
  refine hkept gx (hr.own x gx qx h1 h4).1 (fun y hy q' hq => ?_)
  exact hr.inj x y gx qx gx q' h1 (hpll y hy) h4 hq (fun e => hy (e ▸ h3)) rfl
 have hown2 : ∀ k x u, L[k]? = some x → us[k]? = some u → RC cx2 w' st'.h (adC d k x) u := by
  intro k x u hk hu
  obtain ⟨u', hu', h1, h2⟩ := hua k x hk
  rw [hu] at hu'
  cases hu'
  rw [Nat.zero_add] at h2
  cases x with
  | p p => exact h2
  | own e rows =>
   have hn := hnw2 k e rows hk
   exact P9 (cx := cx2) h2 (hh2 k e rows hk) (by rw [hι1 _ hn]; simp [hu])
 refine ⟨cx2, hr.step (ef := ⟨IG d r, AX d 0 L ++ (pl ++ YJ st fz)⟩) hd ((AX d 0 L).map (·.1)) (fun x hx => ?_) hA2 (fun x hx => ?_) hkeep (fun x hx hM => ?_) hos htp hou (fun x hx => ?_) (fun x bk hx => ?_) (fun x x' gx qx gx' qx' hx hx' hi hi' hne => ?_) (fun x gx qx hx hi => ?_) ?_ ?_⟩
 ·obtain ⟨y, hy⟩ := HE hx
  rw [WB] at hy
  split at hy
  ·rename_i h1
   rw [Nat.sub_zero] at hy
   cases hz : L[x.2]? with
   | none => rw [hz] at hy; cases hy
   | some z =>
    rw [hz] at hy
    cases z with
    | p p => cases hy
    | own e rows =>
     have := hfresh x.2 e rows hz
     obtain ⟨b1, b2⟩ := x
     simp only at h1
     rw [← h1.1] at this
     exact this
  ·cases hy
 ·rcases hA2' x hx with h | h | ⟨y, hy, hyl, q, hq⟩
  ·exact .inl h
  ·exact .inr ⟨h.2, .inl (Nat.le_trans hr.sz h.1)⟩
  ·obtain ⟨h1, h2⟩ := hr.own y x q hyl hq
   exact .inr ⟨Nat.lt_of_lt_of_le h1 hsz, h2⟩
 ·refine hkept x (Nat.lt_of_lt_of_le hx hr.sz) (fun y hy q' hq => ?_)
  rcases (hr.own y x q' (hpll y hy) hq).2 with h | h
  ·omega
  ·exact hM h
 ·have hb' : nw x = false := by
   cases h : nw x with
   | false => rfl
   | true =>
    obtain ⟨n, e, rows, rfl, h1⟩ := hnw x h
    exfalso
    refine hx ?_
    have := WB d L 0 (d, n)
    rw [if_pos ⟨rfl, Nat.zero_le _⟩, Nat.sub_zero, h1] at this
    exact List.mem_map.2 ⟨_, YH this, rfl⟩
  intro bk' hbk
  have hbk2 : st'.h x = some bk' := hbk
  obtain ⟨hl1, hl2⟩ := hold x hb' (by rw [hbk2]; simp)
  rw [hh1 x hb'] at hbk2
  cases hp : XZ pl x with
  | some y =>
   rw [hp] at hbk2
   simp only at hbk2
   subst hbk2
   obtain ⟨e, rows, rows', h1, rfl, h3, h4⟩ := (hdl x _ hp).2 _ rfl
   refine ⟨_, h1, rfl, h3, hι2 x hb', fun gx qx c el fz' h6 h7 => ?_⟩
   obtain ⟨c', el', fz2, h8, h9⟩ := hszk gx c el fz' h7
   exact ⟨c', el', fz2, h8, fun _ => h9⟩
  | none =>
   rw [hp] at hbk2
   simp only at hbk2
   have hex : ∃ bk, st.h x = some bk ∧ bk.e = bk'.e ∧ bk.len ≤ bk'.len := by
    split at hbk2
    ·rename_i hf
     obtain ⟨⟨e, rows, mu, h1⟩, _⟩ := hfz x hf
     rw [h1] at hbk2 ⊢
     cases hbk2
     exact ⟨_, rfl, rfl, Nat.le_refl _⟩
    ·exact ⟨bk', hbk2, rfl, Nat.le_refl _⟩
   obtain ⟨bk, h3, h4, h5⟩ := hex
   refine ⟨bk, h3, h4, h5, hι2 x hb', fun gx qx c el fz' h6 h7 => ⟨c, el, fz', ?_, fun _ => rfl⟩⟩
   rw [hstay x gx qx hl1 hp h6]; exact h7
 ·have hx0 : st'.h x = some bk := hx
  cases hb' : nw x with
  | true =>
   obtain ⟨n, e, rows, rfl, h1⟩ := hnw x hb'
   rw [hh2 n e rows h1] at hx0
   cases hx0
   obtain ⟨u, hu, h2, h3⟩ := hua n _ h1
   refine .inr (Pb (cx := cx2) (go := gs2 n) (u := u) ?_ ?_)
   ·rw [Nat.zero_add] at h3; exact h3
   ·rw [hι1 _ hb']; simp [hu]
  | false =>
   obtain ⟨hl1, hl2⟩ := hold x hb' (by rw [hx0]; simp)
   have hx1 := hx0
   rw [hh1 x hb'] at hx1
   cases hp : XZ pl x with
   | some y =>
    rw [hp] at hx1
    simp only at hx1
    subst hx1
    obtain ⟨e, rows, rows', h1, rfl, h3, h4⟩ := (hdl x _ hp).2 _ rfl
    right
    obtain ⟨h5, h6, h7⟩ := h4
    refine ⟨h5, h6, ?_⟩
    rw [hι2 x hb']
    exact h7
   | none =>
    rw [hp] at hx1
    simp only at hx1
    split at hx1
    ·rename_i hf
     obtain ⟨⟨e, rows, mu, h3⟩, h4⟩ := hfz x hf
     rw [h3] at hx1
     cases hx1
     right
     obtain ⟨h5, h6, h7⟩ := hr.bl x _ h3
     refine ⟨h5, h6, ?_⟩
     rw [hι2 x hb']
     revert h7
     cases hi : cx.ι x with
     | none => exact id
     | some y =>
      obtain ⟨gx, qx⟩ := y
      rintro ⟨rfl, c, el, fz', capR, h8, h9, h10, h11, h12, h13, h14⟩
      exact ⟨rfl, c, el, fz', capR, by rw [hstay x gx 0 hl1 hp hi]; exact h8, (fun h => by cases h), fun _ => h4 gx 0 hi, h11, h12, h13, fun i r k p hi hk => let ⟨cv, hcv, hp⟩ := h14 i r k p hi hk; ⟨cv, hcv, hp.keeps hA2 hkeep⟩⟩
    ·rename_i hf
     refine .inl ⟨?_, hx1, hι2 x hb', fun gx qx hi => ?_⟩
     ·intro hm
      obtain ⟨y, hy⟩ := HE hm
      rw [WB] at hy
      split at hy
      ·rename_i h1
       rw [Nat.sub_zero] at hy
       simp only [nw] at hb'
       rw [if_pos h1.1] at hb'
       revert hb' hy
       generalize L[x.2]? = z
       intro hb' hy
       match z, hb', hy with
       | none, _, hy => cases hy
       | some (.p _), _, hy => cases hy
       | some (.own _ _), hb', _ => cases hb'
      ·cases hy
     ·refine ⟨hstay x gx qx hl1 hp hi, fun hnA hA => ?_⟩
      rcases hA2' gx hA with h | h | ⟨y, hy, hyl, q2, hq2⟩
      ·exact hnA h
      ·have := (hr.own x gx qx hl1 hi).1
       omega
      ·refine hr.inj x y gx qx gx q2 hl1 hyl hi hq2 ?_ rfl
       rintro rfl
       rcases hy with hy | hy
       ·exact hf hy
       ·exact hy hp
 ·have hmix : ∀ x x' gx qx gx' qx', nw x = true → nw x' = false → st'.h x' ≠ none → cx2.ι x = some (gx, qx) → cx2.ι x' = some (gx', qx') → gx ≠ gx' := by
   intro x x' gx qx gx' qx' h1 h2 h3 h4 h5 e
   subst e
   obtain ⟨h6, h8⟩ := hgs _ _ (hnew x gx qx h1 h4)
   obtain ⟨hl1, hl2⟩ := hold x' h2 h3
   rw [hι2 x' h2] at h5
   rcases h8 with h8 | ⟨y, hy, q', hq⟩
   ·have := (hr.own x' gx qx' hl1 h5).1
    omega
   ·refine hr.inj x' y gx qx' gx q' hl1 (hpll y (by rw [hy]; simp)) h5 hq ?_ rfl
    rintro rfl
    exact hl2 hy
  cases h1 : nw x <;> cases h2 : nw x'
  ·rw [hι2 x h1] at hi
   rw [hι2 x' h2] at hi'
   exact hr.inj x x' gx qx gx' qx' (hold x h1 hx).1 (hold x' h2 hx').1 hi hi' hne
  ·exact fun e => hmix x' x gx' qx' gx qx h2 h1 hx hi' hi e.symm
  ·exact hmix x x' gx qx gx' qx' h1 h2 hx' hi hi'
  ·have e1 := hnew x gx qx h1 hi
   have e2 := hnew x' gx' qx' h2 hi'
   obtain ⟨n, e, rows, rfl, _⟩ := hnw x h1
   obtain ⟨n', e', rows', rfl, _⟩ := hnw x' h2
   rintro rfl
   have := hinj n n' gx e1 e2
   exact hne (by rw [this])
 ·cases h1 : nw x with
  | true =>
   obtain ⟨h5, h7⟩ := hgs _ _ (hnew x gx qx h1 hi)
   refine ⟨h5, ?_⟩
   rcases h7 with h7 | ⟨y, hy, q', hq⟩
   ·exact .inl (Nat.le_trans hr.sz h7)
   ·exact (hr.own y gx q' (hpll y (by rw [hy]; simp)) hq).2
  | false =>
   rw [hι2 x h1] at hi
   obtain ⟨h3, h4⟩ := hr.own x gx qx (hold x h1 hx).1 hi
   exact ⟨Nat.lt_of_lt_of_le h3 hsz, h4⟩
 ·refine hrt cx2 _ (fun k x u hk hu => hown2 k x u hk hu)
 ·intro b hb
  refine hι2 b ?_
  cases h : nw b with
  | false => rfl
  | true =>
   obtain ⟨n, e, rows, h1, _⟩ := hnw b h
   have := hr.hN
   rcases hb with hb | hb
   ·rw [hb] at h1
    simp only [K5, Prod.mk.injEq] at h1
    omega
   ·rw [h1] at hb
    simp only at hb
    omega
theorem Q6b {st' : St} {σ : List Qw} {c c' : CV} {bs : List Qw} (h : HC st σ c c' bs) (hb : ∀ b ∈ bs, st'.h b = st.h b) : HC st' σ c c' bs := by
 cases h with
 | p h => exact .p (Iy h hb)
 | sl h hn => exact .sl h hn
 | ptr h hi hj => exact .ptr h hi hj
theorem Qfc {st' : St} {σ : List Qw} {cs cs' : List CV} {bs : List Qw} (h : HCs st σ cs cs' bs) (hb : ∀ b ∈ bs, st'.h b = st.h b) : HCs st' σ cs cs' bs := by
 induction h with
 | nil => exact .nil
 | cons h hs ih => exact .cons (Q6b h fun b hm => hb b (List.mem_append_left _ hm)) (ih fun b hm => hb b (List.mem_append_right _ hm))
theorem Qfd {st' : St} {σ : List Qw} {ts ts' : List TV} {bs : List Qw} (h : HTs st σ ts ts' bs) (hb : ∀ b ∈ bs, st'.h b = st.h b) : HTs st' σ ts ts' bs := by
 induction h with
 | nil => exact .nil
 | cons h hs ih =>
  refine .cons ?_ (ih fun b hm => hb b (List.mem_append_right _ hm))
  cases h with
  | c h => exact .c (Q6b h fun b hm => hb b (List.mem_append_left _ hm))
  | agg h => exact .agg (Qfc h fun b hm => hb b (List.mem_append_left _ hm))
theorem Qdb {σ : List Qw} {c c' : CV} {bs : List Qw} (h : HC st σ c c' bs) : ∀ b ∈ bs, ∃ e rows mu, st.h b = some (.row e rows mu) := by
 cases h with
 | p h => exact AY h
 | sl h _ => simp
 | ptr h _ _ => simp
theorem Qjv {σ : List Qw} {ts ts' : List TV} {bs : List Qw} (h : HTs st σ ts ts' bs) : ∀ b ∈ bs, ∃ e rows mu, st.h b = some (.row e rows mu) := by
 have hcs : ∀ {cs cs' bs}, HCs st σ cs cs' bs → ∀ b ∈ bs, ∃ e rows mu, st.h b = some (.row e rows mu) := by
  intro cs cs' bs h
  induction h with
  | nil => simp
  | cons h hs ih =>
   intro b hb
   rcases List.mem_append.1 hb with hb | hb
   ·exact Qdb h b hb
   ·exact ih b hb
 induction h with
 | nil => simp
 | cons h hs ih =>
  intro b hb
  rcases List.mem_append.1 hb with hb | hb
  ·cases h with
   | c h => exact Qdb h b hb
   | agg h => exact hcs h b hb
  ·exact ih b hb
theorem Q0j {st' : St} : ∀ {σ : List Qw} {ins : List (Nat × List (List PV))}, InS st σ ins → (∀ b ∈ σ, st'.h b = st.h b) → InS st' σ ins
 | [], [], h, _ => trivial
 | [], _ :: _, h, _ => h.elim
 | _ :: _, [], h, _ => h.elim
 | c :: σ, x :: ins, h, hb => ⟨by rw [hb c List.mem_cons_self]; exact h.1, Q0j h.2 fun b hm => hb b (List.mem_cons_of_mem _ hm)⟩
theorem Qae : ∀ {ts : List TV} {j s : Nat} {t : TV}, Zn (enT j ts) s = some t → ∃ i, s = j + i ∧ ts[i]? = some t
 | [], j, s, t, h => by simp [enT, Zn] at h
 | x :: ts, j, s, t, h => by
  simp only [enT, Zn] at h
  cases hb : Nat.beq j s with
  | true => rw [hb] at h; cases h; exact ⟨0, by rw [Nat.eq_of_beq_eq_true hb]; rfl, rfl⟩
  | false =>
   rw [hb] at h
   obtain ⟨i, h1, h2⟩ := Qae h
   exact ⟨i + 1, by simp only [Nat.add_eq] at h1; omega, by simpa using h2⟩
theorem Qsa (hr : Xx E N cx st a w) {σ : List Qw} {A2 : Nat → Prop} {pin1 : Qw → Option (Nat × Nat)} {h0 : Qw → Option Bk} (hA : ∀ x, cx.A x → A2 x) (hpin : ∀ k c, σ[k]? = some c → pin1 (hB k) = cx.ι c) (hh : ∀ k c, σ[k]? = some c → h0 (hB k) = st.h c) :
  ∀ {ts ts' : List TV} {bs : List Qw}, HTs st σ ts ts' bs → (∀ b ∈ bs, ∀ g q, cx.ι b = some (g, q) → A2 g) → ∀ {vs : List Value}, vs.length = ts.length → (∀ (i : Nat) (t : TV), ts[i]? = some t → ∃ v, vs[i]? = some v ∧ RT cx w st.h t v) →
  ts'.length = ts.length ∧ ∀ (i : Nat) (t : TV), ts'[i]? = some t → ∃ v, vs[i]? = some v ∧ RT ⟨pin1, A2⟩ w h0 t v := by
 have hC : ∀ {c c' bs v}, HC st σ c c' bs → (∀ b ∈ bs, ∀ g q, cx.ι b = some (g, q) → A2 g) → RC cx w st.h c v → RC ⟨pin1, A2⟩ w h0 c' v := by
  intro c c' bs v h hb hv
  cases h with
  | p h => exact Mw hr h hv hA hb (fun b h => by cases h)
  | @sl c k n n' hk hn =>
   subst hn
   intro bk hbk
   rw [hh k c hk] at hbk
   obtain ⟨a', cap, h1, h2, h3, h4, h5⟩ := hv bk hbk
   refine ⟨a', cap, h1, h2, h3, h4, ?_⟩
   rcases h5 with h5 | ⟨g, c1, el, fz, h6, h7⟩
   ·exact .inl h5
   ·exact .inr ⟨g, c1, el, fz, (hpin k c hk).trans h6, h7⟩
  | @ptr c k i j i' j' hk hi hj =>
   subst hi hj
   intro bk hbk
   rw [hh k c hk] at hbk
   obtain ⟨g, o, h1, h2⟩ := hv bk hbk
   exact ⟨g, o, (hpin k c hk).trans h1, h2⟩
 have hL : ∀ {cs cs' bs}, HCs st σ cs cs' bs → (∀ b ∈ bs, ∀ g q, cx.ι b = some (g, q) → A2 g) → ∀ {us : List Value}, us.length = cs.length → (∀ (i : Nat) (c : CV), cs[i]? = some c → ∃ u, us[i]? = some u ∧ u.oneCell' = true ∧ RC cx w st.h c u) →
   cs'.length = cs.length ∧ ∀ (i : Nat) (c : CV), cs'[i]? = some c → ∃ u, us[i]? = some u ∧ u.oneCell' = true ∧ RC ⟨pin1, A2⟩ w h0 c u := by
  intro cs cs' bs h
  induction h with
  | nil => intro _ us _ _; exact ⟨rfl, fun i c h => by simp at h⟩
  | @cons c c' b cs cs' bs h hs ih =>
   intro hb us hl hu
   cases us with
   | nil => simp at hl
   | cons u us =>
    obtain ⟨h1, h2⟩ := ih (fun b' hb' => hb b' (List.mem_append_right _ hb')) (us := us) (by simpa using hl) (fun i c hi => by simpa using hu (i + 1) c (by simpa using hi))
    refine ⟨by simp [h1], fun i x hi => ?_⟩
    cases i with
    | zero =>
     rw [List.getElem?_cons_zero] at hi
     cases hi
     obtain ⟨u', hu', h3, h4⟩ := hu 0 c rfl
     exact ⟨u', hu', h3, hC h (fun b' hb' => hb b' (List.mem_append_left _ hb')) h4⟩
    | succ i => simpa using h2 i x (by simpa using hi)
 intro ts ts' bs h
 induction h with
 | nil => intro _ vs _ _; exact ⟨rfl, fun i t h => by simp at h⟩
 | @cons t t' b ts ts' bs h hs ih =>
  intro hb vs hl hv
  cases vs with
  | nil => simp at hl
  | cons v vs =>
   obtain ⟨h1, h2⟩ := ih (fun b' hb' => hb b' (List.mem_append_right _ hb')) (vs := vs) (by simpa using hl) (fun i t hi => by simpa using hv (i + 1) t (by simpa using hi))
   refine ⟨by simp [h1], fun i x hi => ?_⟩
   cases i with
   | zero =>
    rw [List.getElem?_cons_zero] at hi
    cases hi
    obtain ⟨v', hv', h3⟩ := hv 0 t rfl
    refine ⟨v', hv', ?_⟩
    cases h with
    | c h =>
     have hone : v'.oneCell' = true := by
      rcases h3.1 with h4 | h4
      ·subst h4
       cases h with
       | p h => cases h
      ·exact h4
     exact ⟨.inr hone, hC h (fun b' hb' => hb b' (List.mem_append_left _ hb')) h3.2⟩
    | agg h =>
     obtain ⟨us, rfl, h4, h5⟩ := h3
     obtain ⟨h6, h7⟩ := hL h (fun b' hb' => hb b' (List.mem_append_left _ hb')) (us := us.toList) (by simpa using h4) (fun i c hi => by simpa using h5 i c hi)
     exact ⟨us, rfl, by simpa [h4] using h6.symm, fun i c hi => by simpa using h7 i c hi⟩
   | succ i => simpa using h2 i x (by simpa using hi)
theorem Qfe {f : FuncId} {xs : Array Operand} {tys : Array TypeId} {ins : List (Nat × List (List PV))} {ts : List TV} {r : List RS} {outs : List (Option (List (List PV)))} {σ bs ids : List Qw} {bl : List (Qw × Option Bk)} {t : TV}
  (hcon : CH P f ins ts r outs) (hin : InS st σ ins) (hargs : HTs st σ (xs.toList.map st.ev) ts bs) (hlen : ∀ (k : Nat) (x : Nat × List (List PV)) (rows' : List (List PV)), ins[k]? = some x → outs[k]? = some (some rows') → x.2.length ≤ rows'.length) (hol : outs.length = ins.length)
  (hok : xs.toList.all Zf = true := by exact rfl) (hnod : Ll (σ.map some) = true := by exact rfl) (hdis : Dh σ bs = true := by exact rfl) (hids : (AX d 0 (QP r)).map (·.1) = ids := by exact rfl) (hbl : AX d 0 (QP r) ++ (HX σ ins outs ++ YJ st bs) = bl := by exact rfl) (ht : IG d r = t := by exact rfl) :
  ZC E N P ops ⟨some d, .call { callee := .value (.func f), args := xs, argTypes := tys }, ty, pos, af, gg⟩ st ⟨σ ++ bs, ids⟩ ⟨t, bl⟩ := by
 subst hids
 subst hbl
 subst ht
 intro st' ha hf hd cx a w Q hr
 have hbe : ∀ b ∈ σ ++ bs, st'.h b = st.h b := ha.2
 have hin' := Q0j hin (st' := st') fun b hb => hbe b (List.mem_append_left _ hb)
 have hargs' := Qfd hargs (st' := st') fun b hb => hbe b (List.mem_append_right _ hb)
 obtain ⟨hsl, hsat⟩ := Qju hin'
 have hlive := Qjv hargs'
 have hbn : ∀ b ∈ bs, st'.h b ≠ none := fun b hb => by obtain ⟨_, _, _, h⟩ := hlive b hb; rw [h]; simp
 have hdis' := VL hdis
 have hnod' : ∀ {i j : Nat} {c : Qw}, σ[i]? = some c → σ[j]? = some c → i = j := fun {i j c} h1 h2 => DK hnod i j c (by rw [List.getElem?_map, h1]; rfl) (by rw [List.getElem?_map, h2]; rfl)
 have hσn : ∀ {k : Nat} {c : Qw}, σ[k]? = some c → st'.h c ≠ none := fun h => by obtain ⟨_, _, _, h2⟩ := hsat _ _ h; rw [h2]; simp
 let A2 : Nat → Prop := fun x => cx.A x ∨ ∃ b ∈ bs, st'.h b ≠ none ∧ ∃ q, cx.ι b = some (x, q)
 have hAsz : ∀ x, A2 x → x < w.heap.size := by
  rintro x (h | ⟨b, hb, hbl, q, hq⟩)
  ·exact (hr.A x h).1
  ·exact (hr.own b x q hbl hq).1
 have hmut : ∀ {k : Nat} {c : Qw}, σ[k]? = some c → ∀ g q, cx.ι c = some (g, q) → ¬ A2 g := by
  intro k c hk g q hg
  obtain ⟨e1, rows, _, hbk⟩ := hsat k c hk
  obtain ⟨_, _, h8⟩ := hr.bl c _ hbk
  rw [hg] at h8
  obtain ⟨_, c1, el, fz, capR, _, h9, _⟩ := h8
  rintro (h | ⟨z, hz, hzl, q2, hq2⟩)
  ·exact (h9 rfl).2 h
  ·refine hr.inj c z g q g q2 (hσn hk) hzl hg hq2 ?_ rfl
   rintro rfl
   exact hdis' c (List.mem_of_getElem? hk) hz
 let pin1 : Qw → Option (Nat × Nat) := fun b => if b.2 = 0 ∧ 65537 ≤ b.1 then (match σ[b.1 - 65537]? with | some c => cx.ι c | none => none) else none
 have hpin : ∀ k c, σ[k]? = some c → pin1 (hB k) = cx.ι c := by
  intro k c hk
  show (if (hB k).2 = 0 ∧ 65537 ≤ (hB k).1 then _ else _) = _
  rw [if_pos (by simp [hB])]
  simp only [hB, Nat.add_eq, Nat.add_sub_cancel_left, hk]
 let st0 : St := ⟨enT 0 ts, inH 0 ins⟩
 have hh0 : ∀ k c, σ[k]? = some c → st0.h (hB k) = st'.h c := by
  intro k c hk
  obtain ⟨e, rows, h1, h2⟩ := hsat k c hk
  show (XZ (inH 0 ins) (hB k)).getD none = _
  rw [Qjs, if_pos (by simp [hB])]
  simp only [hB, Nat.add_eq, Nat.add_zero, Nat.add_sub_cancel_left, h1]
  rw [h2]; rfl
 have hst0 : ∀ b bk, st0.h b = some bk → ∃ k c e rows, b = hB k ∧ σ[k]? = some c ∧ ins[k]? = some (e, rows) ∧ bk = .row e rows true ∧ st'.h c = some bk := by
  intro b bk hb
  have hb1 : (XZ (inH 0 ins) b).getD none = some bk := hb
  rw [Qjs] at hb1
  by_cases h : b.2 = 0 ∧ 65537 + 0 ≤ b.1
  ·rw [if_pos h] at hb1
   cases hx : ins[b.1 - (65537 + 0)]? with
   | none => rw [hx] at hb1; cases hb1
   | some x =>
    rw [hx] at hb1
    cases hb1
    obtain ⟨e, rows⟩ := x
    have hlt := (List.getElem?_eq_some_iff.1 hx).1
    obtain ⟨c, hc⟩ : ∃ c, σ[b.1 - (65537 + 0)]? = some c := ⟨σ[b.1 - (65537 + 0)], by simp⟩
    obtain ⟨e2, rows2, h2, h3⟩ := hsat _ c hc
    rw [hx] at h2; cases h2
    refine ⟨b.1 - (65537 + 0), c, e, rows, ?_, hc, hx, rfl, h3⟩
    obtain ⟨b1, b2⟩ := b
    simp only [hB, Nat.add_eq, Prod.mk.injEq] at h ⊢
    omega
  ·rw [if_neg h] at hb1; cases hb1
 obtain ⟨T, fn, body, hfn, hbody, hN2, htl, haw⟩ := hcon.run
 let E1 : En := ⟨w, A2, fun x => ∃ (k : Nat) (c : Qw) (q : Nat), σ[k]? = some c ∧ cx.ι c = some (x, q), pin1⟩
 have hev : ∀ x ∈ xs.toList, RT cx w st'.h (st.ev x) (a.eval x) := by
  intro x hx
  rw [← JK ha (x := x) (by simp only [Op.operands, Call.operands]; simp at hx ⊢; exact .inr hx)]
  exact hr.ev (List.all_eq_true.1 hok x hx)
 obtain ⟨htsl, hts⟩ := Qsa hr (pin1 := pin1) (h0 := st0.h) (A2 := A2) (fun x hx => .inl hx) hpin hh0 hargs' (fun b hb g q hg => .inr ⟨b, hb, hbn b hb, q, hg⟩) (vs := (xs.map a.eval).toList) (by simp) (fun i t hi => by
  rw [List.getElem?_map, Option.map_eq_some_iff] at hi
  obtain ⟨x, hx, rfl⟩ := hi
  exact ⟨a.eval x, by rw [Array.toList_map, List.getElem?_map, hx]; rfl, hev x (List.mem_of_getElem? hx)⟩)
 have hvsz : (xs.map a.eval).size = ts.length := by rw [htsl]; simp
 have hr1 : Xx E1 fn.ntmps ⟨pin1, A2⟩ st0 { tmps := (xs.map a.eval) ++ Array.replicate (fn.ntmps - (xs.map a.eval).size) undef, defers := [] } w := by
  refine ⟨rfl, by simp only [Array.size_append, Array.size_replicate]; omega, fun s => ?_, fun b bk hb => ?_, fun b b' g o g' o' hb hb' hi hi' hne => ?_, fun b g o hb hi => ?_, fun x hx => ⟨hAsz x hx, .inl hx⟩, fun x hx => hx, fun _ _ _ => rfl, Nat.le_refl _, rfl, rfl, rfl, hN2, fun _ _ => rfl, .refl _⟩
  ·have e : st0.g s = (Zn (enT 0 ts) s).getD (.c .any) := rfl
   rw [e]
   cases hl : Zn (enT 0 ts) s with
   | none => exact ⟨.inl rfl, trivial⟩
   | some t =>
    obtain ⟨i, h1, h2⟩ := Qae hl
    rw [Nat.zero_add] at h1
    subst h1
    obtain ⟨v, h3, h4⟩ := hts s t h2
    have hi := (List.getElem?_eq_some_iff.1 h3).1
    have : ((xs.map a.eval) ++ Array.replicate (fn.ntmps - (xs.map a.eval).size) undef).getD s undef = v := by
     rw [Array.getD_eq_getD_getElem?, Array.getElem?_append_left (by simpa using hi)]
     rw [Array.getElem?_toList] at h3
     rw [h3]; rfl
    rw [this]
    exact h4
  ·obtain ⟨k, c, e, rows, rfl, h1, h2, rfl, h3⟩ := hst0 b bk hb
   obtain ⟨h5, h6, h7⟩ := hr.bl c _ h3
   refine ⟨h5, h6, ?_⟩
   have hp : (⟨pin1, A2⟩ : Cx).ι (hB k) = cx.ι c := hpin k c h1
   rw [hp]
   have hm := hmut h1
   revert h7 hm
   cases cx.ι c with
   | none => exact fun h _ => h
   | some y =>
    obtain ⟨gx, qx⟩ := y
    rintro ⟨rfl, c1, el, fz', capR, h8, h9, h10, h11, h12, h13, h14⟩ hm
    exact ⟨rfl, c1, el, fz', capR, h8, fun _ => ⟨(h9 rfl).1, hm gx 0 rfl⟩, (fun h => by cases h), h11, h12, h13, fun i r k p hi hk => let ⟨cv, hcv, hp⟩ := h14 i r k p hi hk; ⟨cv, hcv, hp.mono (fun x hx => .inl hx) (Nat.le_refl _) (fun _ _ _ => rfl)⟩⟩
  ·obtain ⟨bk, hb1⟩ := Option.ne_none_iff_exists'.1 hb
   obtain ⟨bk', hb2⟩ := Option.ne_none_iff_exists'.1 hb'
   obtain ⟨k, c, _, _, rfl, h1, _, _, _⟩ := hst0 b bk hb1
   obtain ⟨k', c', _, _, rfl, h1', _, _, _⟩ := hst0 b' bk' hb2
   have e1 : cx.ι c = some (g, o) := (hpin k c h1).symm.trans hi
   have e2 : cx.ι c' = some (g', o') := (hpin k' c' h1').symm.trans hi'
   refine hr.inj c c' g o g' o' (hσn h1) (hσn h1') e1 e2 ?_
   rintro rfl
   exact hne (by rw [hnod' h1 h1'])
  ·obtain ⟨bk, hb1⟩ := Option.ne_none_iff_exists'.1 hb
   obtain ⟨k, c, _, _, rfl, h1, _, _, _⟩ := hst0 b bk hb1
   have e1 : cx.ι c = some (g, o) := (hpin k c h1).symm.trans hi
   exact ⟨(hr.own c g o (hσn h1) e1).1, .inr ⟨k, c, o, h1, e1⟩⟩
 have hfl : YJ st bs = YJ st' bs := List.map_congr_left fun b hb => by rw [hbe b (List.mem_append_right _ hb)]
 have hcalls : Calls P f (xs.map a.eval) w (fun e w' => ∃ v cx', e = .returned v ∧ Xx E N cx' (Ef.ap ⟨IG d r, AX d 0 (QP r) ++ (HX σ ins outs ++ YJ st' bs)⟩ ⟨some d, .call { callee := .value (.func f), args := xs, argTypes := tys }, ty, pos, af, gg⟩ st') (a.put (some d) v) w') := by
  refine calls_of_wp hfn hbody (wp_mono (haw E1 _ _ _ hr1) ?_)
  rintro e a' w' ⟨st2, cx2, ⟨he, tsr, os, bs', h1, h2, hout, h3, h4, h5⟩, hr'⟩
  obtain ⟨vs', h6, h7, h8⟩ := Ix hr' h1
  have hres := EJ (fn := fn) (rs := fn.results.toList) (by simp) h6
  have hnod2 := DK h3
  have hdis2 := VL h4
  have hsur := VL h5
  obtain ⟨hbl2, hol2⟩ := Lp h2
  obtain ⟨-, houtat⟩ := Q6a hout
  have hpin2 : ∀ k c, σ[k]? = some c → cx2.ι (hB k) = cx.ι c := fun k c hk => (hr'.pin (hB k) (.inr (by simp [hB]))).trans (hpin k c hk)
  let A' : Nat → Prop := fun x => cx2.A x ∨ ∃ b ∈ bs', st2.h b ≠ none ∧ ∃ q, cx2.ι b = some (x, q)
  have hlive2 : ∀ b, some b ∈ os → st2.h b ≠ none := fun b hb => by obtain ⟨_, _, h⟩ := hol2 b hb; rw [h]; simp
  have hmut2 : ∀ b, some b ∈ os → ∀ g q, cx2.ι b = some (g, q) → ¬ cx2.A g := by
   intro b hb g q hg
   obtain ⟨e1, rows, hbk⟩ := hol2 b hb
   obtain ⟨_, _, h8⟩ := hr'.bl b _ hbk
   rw [hg] at h8
   obtain ⟨_, c, el, fz, capR, _, h9, _⟩ := h8
   exact (h9 rfl).2
  have hnA : ∀ b, some b ∈ os → ∀ g q, cx2.ι b = some (g, q) → ¬ A' g := by
   rintro b hb g q hg (h | ⟨b2, hb2, hb2l, q2, hg2⟩)
   ·exact hmut2 b hb g q hg h
   ·refine hr'.inj b b2 g q g q2 (hlive2 b hb) hb2l hg hg2 ?_ rfl
    rintro rfl
    exact hdis2 b (List.mem_filterMap.2 ⟨some b, hb, rfl⟩) hb2
  have hval := (Mz hr' (A' := A') (fun x hx => .inl hx) h2 (n := 0) (gs := fun n => CF cx2 ((os[n]?).getD none)) (vs := vs') (fun b hb g q hg => .inr ⟨b, hb, hbl2 b hb, q, hg⟩) (fun b hb g q hg => hnA b hb g q hg) (fun k o hk => by rw [Nat.zero_add, hk]; rfl) h7 h8).1
  have hgo : ∀ (n x : Nat), CF cx2 ((os[n]?).getD none) = some x → ∃ b q, os[n]? = some (some b) ∧ cx2.ι b = some (x, q) := by
   intro n x hx
   cases ho : os[n]? with
   | none => rw [ho] at hx; cases hx
   | some o =>
    rw [ho] at hx
    cases o with
    | none => cases hx
    | some b =>
     simp only [CF, Option.getD_some, Option.bind_some, Option.map_eq_some_iff] at hx
     obtain ⟨⟨x', q⟩, h8, rfl⟩ := hx
     exact ⟨b, q, rfl, h8⟩
  have hfin : ∃ v, (results fn a'.tmps).run P w' = .ok v w' ∧ Q5w w' A' (fun n => CF cx2 ((os[n]?).getD none)) r v := by
   refine ⟨_, hres, ?_⟩
   match r, vs', hval with
   | [], [], _ => exact ⟨#[], rfl, trivial⟩
   | [t], [v], h => exact h.1
   | t :: t2 :: r, v :: v2 :: vs, h => exact ⟨_, rfl, h⟩
   | [t], v :: v2 :: vs, h => exact h.2.elim
   | t :: t2 :: r, [v], h => exact h.2.elim
  obtain ⟨v, hv1, hv2⟩ := hfin
  obtain ⟨us, hus, hrt⟩ := HJ (d := d) hv2
  have hplk : ∀ {k : Nat} {c : Qw} {o : Option (List (List PV))} {x : Nat × List (List PV)}, σ[k]? = some c → outs[k]? = some o → ins[k]? = some x → XZ (HX σ ins outs) c = some (o.map fun rows' => .row x.1 rows' true) := by
   intro k c o x hk ho hx
   obtain ⟨y, hy⟩ := Option.ne_none_iff_exists'.1 (Q1r hsl hol hk)
   obtain ⟨k', x', o', g1, g2, g3, g4⟩ := Pf hy
   have := hnod' hk g1
   subst this
   rw [hx] at g2; rw [ho] at g3
   cases g2; cases g3
   rw [hy, g4]
  have hpl : ∀ b, XZ (HX σ ins outs) b ≠ none → ∃ k, σ[k]? = some b := fun b hb => by
   obtain ⟨y, hy⟩ := Option.ne_none_iff_exists'.1 hb
   obtain ⟨k', x', o', g1, _⟩ := Pf hy
   exact ⟨k', g1⟩
  have hMp : ∀ x, E1.M x → ∃ b, XZ (HX σ ins outs) b ≠ none ∧ st'.h b ≠ none ∧ ∃ q, cx.ι b = some (x, q) := by
   rintro x ⟨k, c, q, hk, hq⟩
   exact ⟨c, Q1r hsl hol hk, hσn hk, q, hq⟩
  have hR2 : a'.defers = [] ∧ ∃ v, (results fn a'.tmps).run P w' = .ok v w' ∧ ∃ v' cx', Ending.returned v = .returned v' ∧ Xx E N cx' (Ef.ap ⟨IG d r, AX d 0 (QP r) ++ (HX σ ins outs ++ YJ st' bs)⟩ ⟨some d, .call { callee := .value (.func f), args := xs, argTypes := tys }, ty, pos, af, gg⟩ st') (a.put (some d) v') w' := by
   refine ⟨hr'.defers, v, hv1, v, ?_⟩
   have hcore := PR (o := ⟨some d, .call { callee := .value (.func f), args := xs, argTypes := tys }, ty, pos, af, gg⟩) hr hd (hd d rfl) (w' := w') (pl := HX σ ins outs) (fz := bs) (gs2 := fun n => CF cx2 ((os[n]?).getD none)) (us := us) (A2 := A') (v := v) (r := r) (fun n e rows hx => hf (d, n) ?_) (fun x hx => .inl (hr'.A0 x (.inl hx))) (fun x hx => ?_) (fun b hb => ⟨hlive b hb, fun g q hg => .inl (hr'.A0 g (.inr ⟨b, hb, hbn b hb, q, hg⟩))⟩) (fun b hb hb2 => ?_) (fun b y hy => ?_) hr'.sz hr'.cz (fun x hx hn => hr'.kept x hx fun hM => ?_) hr'.os hr'.tape hr'.output (fun n m x hx hy => ?_) (fun n x hx => ?_) hus hrt
   ·obtain ⟨cx', hc⟩ := hcore
    exact ⟨cx', rfl, hc⟩
   ·have := WB d (QP r) 0 (d, n)
    rw [if_pos ⟨rfl, Nat.zero_le _⟩, Nat.sub_zero, hx] at this
    exact List.mem_map.2 ⟨_, YH this, rfl⟩
   ·have hM : ∀ x, E1.M x → cx.A x ∨ (w.heap.size ≤ x ∧ x < w'.heap.size) ∨ ∃ b, (b ∈ bs ∨ XZ (HX σ ins outs) b ≠ none) ∧ st'.h b ≠ none ∧ ∃ q, cx.ι b = some (x, q) := fun x hx => by
     obtain ⟨b, g1, g2, g3⟩ := hMp x hx
     exact .inr (.inr ⟨b, .inr g1, g2, g3⟩)
    rcases hx with hx | ⟨b, hb, hbl', q, hq⟩
    ·obtain ⟨g1, g2 | g2 | g2⟩ := hr'.A x hx
     ·rcases g2 with g2 | ⟨b, hb, g3, g4⟩
      ·exact .inl g2
      ·exact .inr (.inr ⟨b, .inl hb, g3, g4⟩)
     ·exact .inr (.inl ⟨g2, g1⟩)
     ·exact hM x g2
    ·obtain ⟨g1, g2 | g2⟩ := hr'.own b x q hbl' hq
     ·exact .inr (.inl ⟨g2, g1⟩)
     ·exact hM x g2
   ·obtain ⟨k, hk⟩ := hpl b hb
    exact hdis' b (List.mem_of_getElem? hk) hb2
   ·obtain ⟨k, x, o, g1, g2, g3, g4⟩ := Pf hy
    obtain ⟨e1, rows1, g5, g6⟩ := hsat k b g1
    rw [g2] at g5; cases g5
    refine ⟨⟨e1, rows1, g6⟩, fun bk hbk => ?_⟩
    rw [g4] at hbk
    cases o with
    | none => cases hbk
    | some rows' =>
     cases hbk
     refine ⟨e1, rows1, rows', g6, rfl, hlen k _ rows' g2 g3, ?_⟩
     have g7 := houtat k e1 rows1 rows' g2 g3
     rw [Nat.zero_add] at g7
     obtain ⟨g8, g9, g10⟩ := hr'.bl (hB k) _ g7
     refine ⟨g8, g9, ?_⟩
     show match cx.ι b with | none => _ | some (g, o) => _
     rw [hpin2 k b g1] at g10
     have hsk : hB k ∈ Qad 0 outs := by have := Q1q (k := 0) g3; rwa [Nat.zero_add] at this
     have hnb : ∀ gx qx, cx.ι b = some (gx, qx) → ¬ cx2.A gx → ¬ A' gx := by
      rintro gx qx hgx hna (h | ⟨b2, hb2, hb2l, q2, hg2⟩)
      ·exact hna h
      ·refine hr'.inj (hB k) b2 gx qx gx q2 (by rw [g7]; simp) hb2l ((hpin2 k b g1).trans hgx) hg2 ?_ rfl
       rintro rfl
       exact hsur (hB k) hsk (List.mem_append_right _ hb2)
     revert g10 hnb
     cases cx.ι b with
     | none => exact fun h _ => h
     | some y =>
      obtain ⟨gx, qx⟩ := y
      rintro ⟨rfl, c1, el, fz', capR, i8, i9, i10, i11, i12, i13, i14⟩ hnb
      exact ⟨rfl, c1, el, fz', capR, i8, fun _ => ⟨(i9 rfl).1, hnb gx 0 rfl (i9 rfl).2⟩, (fun h => by cases h), i11, i12, i13, fun i r k p hi hk => let ⟨cv, hcv, hp⟩ := i14 i r k p hi hk; ⟨cv, hcv, hp.mono (fun x hx => .inl hx) (Nat.le_refl _) (fun _ _ _ => rfl)⟩⟩
   ·obtain ⟨b, g1, g2, q, g3⟩ := hMp x hM
    exact hn b g1 q g3
   ·obtain ⟨b, q, h8, h9⟩ := hgo n x hx
    obtain ⟨b2, q2, h10, h11⟩ := hgo m x hy
    by_cases hbb : b = b2
    ·subst hbb; exact hnod2 n m b h8 h10
    ·exact absurd rfl (hr'.inj b b2 x q x q2 (hlive2 b (List.mem_of_getElem? h8)) (hlive2 b2 (List.mem_of_getElem? h10)) h9 h11 hbb)
   ·obtain ⟨b, q, h8, h9⟩ := hgo n x hx
    have hbl3 := hlive2 b (List.mem_of_getElem? h8)
    obtain ⟨g1, g2⟩ := hr'.own b x q hbl3 h9
    refine ⟨g1, ?_⟩
    rcases g2 with g2 | ⟨k, c, q', hk, hq⟩
    ·exact .inl g2
    ·right
     refine ⟨c, ?_, q', hq⟩
     obtain ⟨e1, rows1, g5, g6⟩ := hsat k c hk
     have hkl := (List.getElem?_eq_some_iff.1 g5).1
     obtain ⟨o, ho⟩ : ∃ o, outs[k]? = some o := ⟨outs[k], by simp⟩
     rw [hplk hk ho g5]
     cases o with
     | none => rfl
     | some rows' =>
      exfalso
      have g7 := houtat k e1 rows1 rows' g5 ho
      rw [Nat.zero_add] at g7
      have hsk : hB k ∈ Qad 0 outs := by have := Q1q (k := 0) ho; rwa [Nat.zero_add] at this
      refine hr'.inj b (hB k) x q x q' hbl3 (by rw [g7]; simp) h9 ((hpin2 k c hk).trans hq) ?_ rfl
      rintro rfl
      exact hsur (hB k) hsk (List.mem_append_left _ (List.mem_filterMap.2 ⟨_, List.mem_of_getElem? h8, rfl⟩))
  rcases he with rfl | rfl
  ·exact hR2
  ·exact hR2
 unfold Oper.wp
 rw [HK hcon.ent, Oper.upon_enter, hfl]
 refine hcalls.mono ?_
 rintro e w' ⟨v, cx', rfl, h⟩
 exact ⟨cx', h⟩
def Qaf : List Qw → Nat → Option Qw
 | [], _ => none
 | b :: _, 0 => some b
 | _ :: r, k + 1 => Qaf r k
theorem Q1s : ∀ {l : List Qw} {k : Nat} {b : Qw}, Qaf l k = some b → l[k]? = some b
 | [], k, b, h => by simp [Qaf] at h
 | x :: l, 0, b, h => by simpa [Qaf] using h
 | x :: l, k + 1, b, h => by simpa using Q1s (l := l) (by simpa [Qaf] using h)
def hcF (st : St) (σ : List Qw) (c c' : CV) : Option (CV × List Qw × List Prop) := match c', c with
 | .sl b' _ n', .sl b off n => match Qaf σ (Nat.sub b'.1 65537) with
  | some c0 => gd (VP c0 b && (VP b' (hB (Nat.sub b'.1 65537)) && Nat.beq off 0)) (some (.sl b' 0 n', [], [n = n']))
  | none => none
 | .ptr b' i' j', .ptr b i j => match Qaf σ (Nat.sub b'.1 65537) with
  | some c0 => gd (VP c0 b && VP b' (hB (Nat.sub b'.1 65537))) (some (.ptr b' i' j', [], [i = i', j = j']))
  | none => none
 | .p x', c => match Qab st c (.p x') with
  | some ⟨.p x, none, b, p⟩ => some (.p x, b, p)
  | _ => none
 | _, _ => none
theorem Qjw {σ : List Qw} {c c' x : CV} {b : List Qw} {p : List Prop} (h : hcF st σ c c' = some (x, b, p)) (hp : Xw p) : HC st σ c x b := by
 unfold hcF at h
 split at h
 ·split at h
  ·rename_i h1
   obtain ⟨h2, h3⟩ := Kk h
   cases h3
   simp only [Bool.and_eq_true] at h2
   have e1 := Z6.1 h2.1
   have e2 := Z6.1 h2.2.1
   have e3 := Nat.eq_of_beq_eq_true h2.2.2
   subst e1 e3
   rw [e2]
   cases hp with | cons hp _ => exact .sl (Q1s h1) hp
  ·cases h
 ·split at h
  ·rename_i h1
   obtain ⟨h2, h3⟩ := Kk h
   cases h3
   simp only [Bool.and_eq_true] at h2
   have e1 := Z6.1 h2.1
   have e2 := Z6.1 h2.2
   subst e1
   rw [e2]
   cases hp with | cons hp hq => cases hq with | cons hq _ => exact .ptr (Q1s h1) hp hq
  ·cases h
 ·split at h
  ·rename_i h1; cases h; exact .p (MJ h1 hp)
  ·cases h
 ·cases h
def Qag (st : St) (σ : List Qw) : List CV → List CV → Option (List CV × List Qw × List Prop)
 | c :: cs, c' :: cs' => match hcF st σ c c' with
  | some (x, b, p) => match Qag st σ cs cs' with
   | some (xs, bs, ps) => match G1 b bs, G1 p ps with
    | some b', some p' => some (x :: xs, b', p')
    | _, _ => none
   | none => none
  | none => none
 | [], [] => some ([], [], [])
 | _, _ => none
theorem Qdc {σ : List Qw} : ∀ {cs cs' xs : List CV} {b : List Qw} {p : List Prop}, Qag st σ cs cs' = some (xs, b, p) → Xw p → HCs st σ cs xs b
 | c :: cs, c' :: cs', xs, b, p, h, hp => by
  simp only [Qag] at h
  split at h
  ·rename_i h1
   split at h
   ·rename_i h2
    split at h
    ·rename_i hb hq
     cases h
     rw [KO hb]
     rw [KO hq] at hp
     exact .cons (Qjw h1 hp.app.1) (Qdc h2 hp.app.2)
    ·cases h
   ·cases h
  ·cases h
 | [], [], xs, b, p, h, hp => by simp only [Qag] at h; cases h; exact .nil
 | [], _ :: _, _, _, _, h, _ => by simp [Qag] at h
 | _ :: _, [], _, _, _, h, _ => by simp [Qag] at h
def MM (st : St) (σ : List Qw) : List TV → List TV → Option (List TV × List Qw × List Prop)
 | .c c :: ts, .c c' :: ts' => match hcF st σ c c' with
  | some (x, b, p) => match MM st σ ts ts' with
   | some (xs, bs, ps) => match G1 b bs, G1 p ps with
    | some b', some p' => some (.c x :: xs, b', p')
    | _, _ => none
   | none => none
  | none => none
 | .agg c :: ts, .agg c' :: ts' => match Qag st σ c c' with
  | some (x, b, p) => match MM st σ ts ts' with
   | some (xs, bs, ps) => match G1 b bs, G1 p ps with
    | some b', some p' => some (.agg x :: xs, b', p')
    | _, _ => none
   | none => none
  | none => none
 | [], [] => some ([], [], [])
 | _, _ => none
theorem Qsb {σ : List Qw} : ∀ {ts ts' xs : List TV} {b : List Qw} {p : List Prop}, MM st σ ts ts' = some (xs, b, p) → Xw p → HTs st σ ts xs b := by
 intro ts
 induction ts with
 | nil =>
  intro ts' xs b p h hp
  cases ts' with
  | nil => simp only [MM] at h; cases h; exact .nil
  | cons => simp [MM] at h
 | cons t ts ih =>
  intro ts' xs b p h hp
  cases ts' with
  | nil => cases t <;> simp [MM] at h
  | cons t' ts' =>
   cases t with
   | c c =>
    cases t' with
    | c c' =>
     simp only [MM] at h
     split at h
     ·rename_i h1
      split at h
      ·rename_i h2
       split at h
       ·rename_i hb hq
        cases h
        rw [KO hb]
        rw [KO hq] at hp
        exact .cons (.c (Qjw h1 hp.app.1)) (ih h2 hp.app.2)
       ·cases h
      ·cases h
     ·cases h
    | agg => simp [MM] at h
    | tup => simp [MM] at h
   | agg c =>
    cases t' with
    | agg c' =>
     simp only [MM] at h
     split at h
     ·rename_i h1
      split at h
      ·rename_i h2
       split at h
       ·rename_i hb hq
        cases h
        rw [KO hb]
        rw [KO hq] at hp
        exact .cons (.agg (Qdc h1 hp.app.1)) (ih h2 hp.app.2)
       ·cases h
      ·cases h
     ·cases h
    | c => simp [MM] at h
    | tup => simp [MM] at h
   | tup => simp [MM] at h
def inF (st : St) : List Qw → List (Nat × List (List PV)) → Option (List Prop)
 | c :: σ, x :: ins => match st.h c with
  | some (.row e rows true) => match Nat.beq e x.1 with
   | true => match inF st σ ins with
    | some ps => some ((rows = x.2) :: ps)
    | none => none
   | false => none
  | _ => none
 | [], [] => some []
 | _, _ => none
theorem Qjx : ∀ {σ : List Qw} {ins : List (Nat × List (List PV))} {ps : List Prop}, inF st σ ins = some ps → Xw ps → InS st σ ins
 | c :: σ, x :: ins, ps, h, hp => by
  simp only [inF] at h
  split at h
  ·rename_i hb
   split at h
   ·rename_i he
    split at h
    ·rename_i h2
     cases h
     cases hp with
     | cons hp hq =>
      subst hp
      have := Nat.eq_of_beq_eq_true he
      subst this
      exact ⟨hb, Qjx h2 hq⟩
    ·cases h
   ·cases h
  ·cases h
 | [], [], ps, h, hp => trivial
 | [], _ :: _, _, h, _ => by simp [inF] at h
 | _ :: _, [], _, h, _ => by simp [inF] at h
def sgC (b' : Qw) : List CV → List CV → Option Qw
 | .sl b _ _ :: cs, .sl y _ _ :: cs' => match VP y b' with
  | true => some b
  | false => sgC b' cs cs'
 | .ptr b _ _ :: cs, .ptr y _ _ :: cs' => match VP y b' with
  | true => some b
  | false => sgC b' cs cs'
 | _ :: cs, _ :: cs' => sgC b' cs cs'
 | _, _ => none
def sgT (b' : Qw) : List TV → List TV → Option Qw
 | t :: ts, t' :: ts' => match sgC b' t.cs1 t'.cs1 with
  | some b => some b
  | none => sgT b' ts ts'
 | _, _ => none
def sgF (ts ts' : List TV) : Nat → List (Nat × List (List PV)) → Option (List Qw)
 | _, [] => some []
 | k, _ :: ins => match sgT (hB k) ts ts' with
  | some b => match sgF ts ts' (Nat.add k 1) ins with
   | some l => some (b :: l)
   | none => none
  | none => none
def Qff : List (Nat × List (List PV)) → List (Option (List (List PV))) → Option (List Prop)
 | x :: ins, y :: outs => match Qff ins outs with
  | some ps => match y with
   | some rows' => some ((x.2.length ≤ rows'.length) :: ps)
   | none => some ps
  | none => none
 | [], [] => some []
 | _, _ => none
theorem Qdd : ∀ {ins : List (Nat × List (List PV))} {outs : List (Option (List (List PV)))} {ps : List Prop}, Qff ins outs = some ps → Xw ps → outs.length = ins.length ∧ ∀ (k : Nat) (x : Nat × List (List PV)) (rows' : List (List PV)), ins[k]? = some x → outs[k]? = some (some rows') → x.2.length ≤ rows'.length
 | x :: ins, y :: outs, ps, h, hp => by
  simp only [Qff] at h
  split at h
  ·rename_i ps' h1
   have key : Xw ps' ∧ ∀ rows', y = some rows' → x.2.length ≤ rows'.length := by
    split at h
    ·cases h; cases hp with | cons hp hq => exact ⟨hq, fun rows' e => by cases e; exact hp⟩
    ·cases h; exact ⟨hp, fun rows' e => by cases e⟩
   obtain ⟨h2, h3⟩ := Qdd h1 key.1
   refine ⟨by simp [h2], fun k x' rows' hx ho => ?_⟩
   cases k with
   | zero => rw [List.getElem?_cons_zero] at hx ho; cases hx; cases ho; exact key.2 rows' rfl
   | succ k => exact h3 k x' rows' (by simpa using hx) (by simpa using ho)
  ·cases h
 | [], [], ps, h, hp => ⟨rfl, fun k x rows' h => by simp at h⟩
 | [], _ :: _, _, h, _ => by simp [Qff] at h
 | _ :: _, [], _, h, _ => by simp [Qff] at h
theorem callh {f : FuncId} {xs : Array Operand} {tys : Array TypeId} {ins : List (Nat × List (List PV))} {ts ts2 : List TV} {r : List RS} {outs : List (Option (List (List PV)))} {σ bs ids : List Qw} {bl : List (Qw × Option Bk)} {t : TV} {pi pa pl : List Prop}
  (hcon : CH P f ins ts r outs) (hσ : sgF (xs.toList.map st.ev) ts 0 ins = some σ := by exact rfl) (hin : inF st σ ins = some pi := by exact rfl) (hargs : MM st σ (xs.toList.map st.ev) ts = some (ts2, bs, pa) := by exact rfl) (he : ts2 = ts := by exact rfl) (hlen : Qff ins outs = some pl := by exact rfl)
  (hok : xs.toList.all Zf = true := by exact rfl) (hnod : Ll (σ.map some) = true := by exact rfl) (hdis : Dh σ bs = true := by exact rfl) (hids : (AX d 0 (QP r)).map (·.1) = ids := by exact rfl) (hbl : AX d 0 (QP r) ++ (HX σ ins outs ++ YJ st bs) = bl := by exact rfl) (ht : IG d r = t := by exact rfl) (hpl : Xw pl := by exact Ly) (hpi : Xw pi := by exact Ly) (hpa : Xw pa := by exact Ly) :
  ZC E N P ops ⟨some d, .call { callee := .value (.func f), args := xs, argTypes := tys }, ty, pos, af, gg⟩ st ⟨σ ++ bs, ids⟩ ⟨t, bl⟩ := by
 subst he
 obtain ⟨h1, h2⟩ := Qdd hlen hpl
 exact Qfe hcon (Qjx hin hpi) (Qsb hargs hpa) h2 h1 hok hnod hdis hids hbl ht
def Q0k (st : St) : Nat → List (Nat × List (List PV)) → List (Option (List (List PV))) → Option (List Prop)
 | k, x :: ins, y :: outs => match Q0k st (Nat.add k 1) ins outs with
  | some ps => match y with
   | none => some ps
   | some rows' => match st.h (hB k) with
    | some (.row e rows true) => match Nat.beq e x.1 with
     | true => some ((rows = rows') :: ps)
     | false => none
    | _ => none
  | none => none
 | _, [], [] => some []
 | _, _, _ => none
theorem PS : ∀ {ins : List (Nat × List (List PV))} {outs : List (Option (List (List PV)))} {k : Nat} {ps : List Prop}, Q0k st k ins outs = some ps → Xw ps → Qda st k ins outs
 | x :: ins, y :: outs, k, ps, h, hp => by
  simp only [Q0k] at h
  split at h
  ·rename_i ps' h1
   cases y with
   | none => simp only at h; cases h; refine ⟨fun rows' e => ?_, PS h1 hp⟩; cases e
   | some rows0 =>
    simp only at h
    split at h
    ·rename_i hb
     split at h
     ·rename_i he
      cases h
      cases hp with
      | cons hp hq =>
       subst hp
       have := Nat.eq_of_beq_eq_true he
       refine ⟨fun rows' e => ?_, PS h1 hq⟩
       cases e
       rw [hb, this]
     ·cases h
    ·cases h
  ·cases h
 | [], [], k, ps, h, hp => trivial
 | [], _ :: _, _, _, h, _ => by simp [Q0k] at h
 | _ :: _, [], _, _, h, _ => by simp [Q0k] at h
theorem finH {T : Tb P} {fn : Func} {e : Exit} {ins : List (Nat × List (List PV))} {r : List RS} {outs : List (Option (List (List PV)))} {ts : List TV} {c : CR} {po : List Prop} (h1 : Od T st fn.results.toList = some ts) (h2 : Lb st ts r = some c) (ho : Q0k st 0 ins outs = some po) (hp : Xw c.ps) (hq : Xw po) (h3 : c.x = r) (h4 : Ll c.o = true) (h5 : Dh (c.o.filterMap id) c.bs = true) (h6 : Dh (Qad 0 outs) (c.o.filterMap id ++ c.bs) = true) (he : e = .normal ∨ e = .ret) : Qjt T fn ins r outs e st := by
 subst h3
 exact ⟨he, _, _, _, HQ h1, HR h2 hp, PS ho hq, h4, h5, h6⟩
end
def Qjy {P : Program} (T : Tb P) (fn : Func) (fm : Frm) (r : List RS) (out : List PV) : Exit → St → Prop := fun e st => (e = .normal ∨ e = .ret) ∧ ∃ ts os bs cs bs', Mx T st fn.results.toList ts ∧ Nn st ts r os bs ∧ st.h K5 = some (.box cs (some fm)) ∧ Gp st cs out bs' ∧ Ll os = true ∧ Dh (os.filterMap id) (bs ++ bs') = true
structure CP (P : Program) (f : FuncId) (fm : Frm) (row : List PV) (ts : List TV) (r : List RS) (out : List PV) : Prop where
 ent : Lj P f = true
 run : ∃ (T : Tb P) (fn : Func) (body : Code), P.funcs[f]? = some fn ∧ fn.body = some body ∧ fn.ntmps ≤ 65536 ∧ ts.length ≤ fn.ntmps ∧ ∀ E, AW E fn.ntmps P body (Qjy T fn fm r out) ⟨enT 0 ts, [(K5, some (.box (row.map .p) (some fm)))]⟩
inductive HPs (st : St) (c : Qw) (i : Nat) : List TV → List TV → List Qw → Prop
 | nil : HPs st c i [] [] []
 | ptr {ts ts' : List TV} {bs : List Qw} (hs : HPs st c i ts ts' bs) : HPs st c i (.c (.ptr c i 0) :: ts) (.c (.ptr K5 0 0) :: ts') bs
 | c {x : CV} {p : PV} {b : List Qw} {ts ts' : List TV} {bs : List Qw} (h : ToC st x (.p p) none b) (hs : HPs st c i ts ts' bs) : HPs st c i (.c x :: ts) (.c (.p p) :: ts') (b ++ bs)
 | agg {xs : List CV} {ps : List PV} {b : List Qw} {ts ts' : List TV} {bs : List Qw} (h : Gp st xs ps b) (hs : HPs st c i ts ts' bs) : HPs st c i (.agg xs :: ts) (.agg (ps.map .p) :: ts') (b ++ bs)
section
variable {E : En} {N : Nat} {cx : Cx} {st : St} {a : Act} {w w' : World} {P : Program} {T : Tb P} {ops : Array Oper} {o : Oper} {d : Nat} {ty : Nat} {pos : String} {af : Array Edge} {gg : Option (Nat × Bool)}
theorem Qfg {st' : St} {c : Qw} {i : Nat} {ts ts' : List TV} {bs : List Qw} (h : HPs st c i ts ts' bs) (hb : ∀ b ∈ bs, st'.h b = st.h b) : HPs st' c i ts ts' bs := by
 induction h with
 | nil => exact .nil
 | ptr hs ih => exact .ptr (ih hb)
 | c h hs ih => exact .c (Iy h fun b hm => hb b (List.mem_append_left _ hm)) (ih fun b hm => hb b (List.mem_append_right _ hm))
 | agg h hs ih => exact .agg (PD h fun b hm => hb b (List.mem_append_left _ hm)) (ih fun b hm => hb b (List.mem_append_right _ hm))
theorem Qjz {c : Qw} {i : Nat} {ts ts' : List TV} {bs : List Qw} (h : HPs st c i ts ts' bs) : ∀ b ∈ bs, ∃ e rows mu, st.h b = some (.row e rows mu) := by
 induction h with
 | nil => simp
 | ptr hs ih => exact ih
 | c h hs ih =>
  intro b hb
  rcases List.mem_append.1 hb with hb | hb
  ·exact AY h b hb
  ·exact ih b hb
 | agg h hs ih =>
  intro b hb
  rcases List.mem_append.1 hb with hb | hb
  ·exact Np h b hb
  ·exact ih b hb
theorem Qsc {c : Qw} {i : Nat} {ts ts' : List TV} {bs : List Qw} (h : HPs st c i ts ts' bs) : ts'.length = ts.length := by
 induction h with
 | nil => rfl
 | ptr _ ih => simp [ih]
 | c _ _ ih => simp [ih]
 | agg _ _ ih => simp [ih]
theorem Qsd (hr : Xx E N cx st a w) {A2 : Nat → Prop} {cx1 : Cx} (hA1 : cx1.A = A2) {h0 : Qw → Option Bk} {c : Qw} {i e : Nat} {rows : List (List PV)} {row : List PV} {fm : Frm} (hA : ∀ x, cx.A x → A2 x) (hc : st.h c = some (.row e rows true)) (hp : ∀ g o, cx.ι c = some (g, o) → o = 0 ∧ cx1.ι K5 = some (g, i * e)) (hh : h0 K5 = some (.box (row.map .p) (some fm))) :
  ∀ {ts ts' : List TV} {bs : List Qw}, HPs st c i ts ts' bs → (∀ b ∈ bs, ∀ g q, cx.ι b = some (g, q) → A2 g) → ∀ {vs : List Value}, vs.length = ts.length → (∀ (i : Nat) (t : TV), ts[i]? = some t → ∃ v, vs[i]? = some v ∧ RT cx w st.h t v) →
  ∀ (i : Nat) (t : TV), ts'[i]? = some t → ∃ v, vs[i]? = some v ∧ RT cx1 w h0 t v := by
 subst hA1
 intro ts ts' bs h
 induction h with
 | nil => intro _ vs _ _ i t h; simp at h
 | @ptr ts ts' bs hs ih =>
  intro hb vs hl hv j t hj
  cases vs with
  | nil => simp at hl
  | cons v vs =>
   cases j with
   | zero =>
    rw [List.getElem?_cons_zero] at hj
    cases hj
    obtain ⟨v', hv', h1, h2⟩ := hv 0 _ rfl
    obtain ⟨g, q, h3, h4⟩ := h2 _ hc
    obtain ⟨rfl, h5⟩ := hp g q h3
    refine ⟨v', hv', .inr (by rw [h4]; rfl), fun bk hbk => ⟨g, i * e, h5, ?_⟩⟩
    rw [hh] at hbk
    cases hbk
    rw [h4]; simp [Bk.e]
   | succ j => exact ih hb (vs := vs) (by simpa using hl) (fun i t hi => by simpa using hv (i + 1) t (by simpa using hi)) j t (by simpa using hj)
 | @c x p b ts ts' bs h hs ih =>
  intro hb vs hl hv j t hj
  cases vs with
  | nil => simp at hl
  | cons v vs =>
   cases j with
   | zero =>
    rw [List.getElem?_cons_zero] at hj
    cases hj
    obtain ⟨v', hv', h1, h2⟩ := hv 0 _ rfl
    have h3 : RP w cx1.A p v' := Mw hr h h2 hA (fun b' hb' => hb b' (List.mem_append_left _ hb')) (fun b' hb' => by cases hb')
    exact ⟨v', hv', .inr h3.one, h3⟩
   | succ j => exact ih (fun b' hb' => hb b' (List.mem_append_right _ hb')) (vs := vs) (by simpa using hl) (fun i t hi => by simpa using hv (i + 1) t (by simpa using hi)) j t (by simpa using hj)
 | @agg xs ps b ts ts' bs h hs ih =>
  intro hb vs hl hv j t hj
  cases vs with
  | nil => simp at hl
  | cons v vs =>
   cases j with
   | zero =>
    rw [List.getElem?_cons_zero] at hj
    cases hj
    obtain ⟨v', hv', us, rfl, h2, h3⟩ := hv 0 _ rfl
    have h4 := DR hr (A' := cx1.A) hA (gs := fun _ => none) (Iz h) (n := 0) (vs := us.toList) (fun b' hb' => hb b' (List.mem_append_left _ hb')) (fun b' hb' => by rw [List.mem_map] at hb'; obtain ⟨y, _, hy⟩ := hb'; cases hy) (fun k o hk => by rw [List.getElem?_map, Option.map_eq_some_iff] at hk; obtain ⟨y, _, rfl⟩ := hk; rfl) (by simpa using h2) (fun i c hi => by obtain ⟨u, hu, h5, h6⟩ := h3 i c hi; exact ⟨u, by simpa using hu, h5, h6⟩)
    obtain ⟨h5, h6⟩ := DO h4
    refine ⟨_, hv', us, rfl, by simpa using h5, fun k c hk => ?_⟩
    rw [List.getElem?_map, Option.map_eq_some_iff] at hk
    obtain ⟨y, hy, rfl⟩ := hk
    obtain ⟨u, hu, h7, h8⟩ := h6 k (.p y) (by rw [List.getElem?_map, hy]; rfl)
    exact ⟨u, by simpa using hu, h7, h8⟩
   | succ j => exact ih (fun b' hb' => hb b' (List.mem_append_right _ hb')) (vs := vs) (by simpa using hl) (fun i t hi => by simpa using hv (i + 1) t (by simpa using hi)) j t (by simpa using hj)
theorem Qfh {f : FuncId} {xs : Array Operand} {tys : Array TypeId} {c : Qw} {e i : Nat} {rows : List (List PV)} {row out : List PV} {ts : List TV} {r : List RS} {bs ids : List Qw} {bl : List (Qw × Option Bk)} {t : TV}
  (hcon : CP P f ⟨e, i, rows⟩ row ts r out) (hc : st.h c = some (.row e rows true)) (hrow : rows[i]? = some row) (hargs : HPs st c i (xs.toList.map st.ev) ts bs)
  (hok : xs.toList.all Zf = true := by exact rfl) (hdis : Dh [c] bs = true := by exact rfl) (hids : (AX d 0 (QP r)).map (·.1) = ids := by exact rfl) (hbl : AX d 0 (QP r) ++ ([(c, some (.row e (rows.set i out) true))] ++ YJ st bs) = bl := by exact rfl) (ht : IG d r = t := by exact rfl) :
  ZC E N P ops ⟨some d, .call { callee := .value (.func f), args := xs, argTypes := tys }, ty, pos, af, gg⟩ st ⟨c :: bs, ids⟩ ⟨t, bl⟩ := by
 subst hids
 subst hbl
 subst ht
 intro st' ha hf hd cx a w Q hr
 have hbe : ∀ b ∈ c :: bs, st'.h b = st.h b := ha.2
 have hc' : st'.h c = some (.row e rows true) := by rw [hbe c List.mem_cons_self]; exact hc
 have hargs' := Qfg hargs (st' := st') fun b hb => hbe b (List.mem_cons_of_mem _ hb)
 have hlive := Qjz hargs'
 have hbn : ∀ b ∈ bs, st'.h b ≠ none := fun b hb => by obtain ⟨_, _, _, h⟩ := hlive b hb; rw [h]; simp
 have hdis' : c ∉ bs := VL hdis c (by simp)
 have hcn : st'.h c ≠ none := by rw [hc']; simp
 have hil := (List.getElem?_eq_some_iff.1 hrow).1
 let A2 : Nat → Prop := fun x => cx.A x ∨ ∃ b ∈ bs, st'.h b ≠ none ∧ ∃ q, cx.ι b = some (x, q)
 have hAsz : ∀ x, A2 x → x < w.heap.size := by
  rintro x (h | ⟨b, hb, hbl, q, hq⟩)
  ·exact (hr.A x h).1
  ·exact (hr.own b x q hbl hq).1
 obtain ⟨he0, hre, hrb⟩ := hr.bl c _ hc'
 obtain ⟨g, hg, c0, el0, capR, hgc, hnA0, hcsz, hcl, hcm, hcat⟩ : ∃ g, cx.ι c = some (g, 0) ∧ ∃ c0 el0 capR, w.heap[g]? = some (.cells c0 el0 (0, 0)) ∧ ¬ cx.A g ∧ c0.size = capR * e ∧ rows.length ≤ capR ∧ capR ≤ maxLen ∧ ∀ (i : Nat) (r : List PV) (k : Nat) (p : PV), rows[i]? = some r → r[k]? = some p → ∃ cv, c0[i * e + k]? = some cv ∧ RP w cx.A p cv := by
  cases hi : cx.ι c with
  | none => rw [hi] at hrb; rw [hrb] at hil; simp at hil
  | some y =>
   obtain ⟨g, q⟩ := y
   rw [hi] at hrb
   obtain ⟨rfl, c0, el0, fz, capR, h1, h2, h3, h4, h5, h6, h7⟩ := hrb
   obtain ⟨rfl, h8⟩ := h2 rfl
   exact ⟨g, rfl, c0, el0, capR, h1, h8, h4, h5, h6, h7⟩
 have hgl : g < w.heap.size := (Array.getElem?_eq_some_iff.1 hgc).1
 have hgA2 : ¬ A2 g := by
  rintro (h | ⟨z, hz, hzl, q2, hq2⟩)
  ·exact hnA0 h
  ·refine hr.inj c z g 0 g q2 hcn hzl hg hq2 ?_ rfl
   rintro rfl
   exact hdis' hz
 have hrl : row.length = e := hre row (List.mem_of_getElem? hrow)
 have hie : i * e + e ≤ rows.length * e := by have : (i + 1) * e ≤ rows.length * e := Nat.mul_le_mul_right e hil; rw [Nat.add_mul] at this; omega
 have hre2 : rows.length * e ≤ c0.size := by rw [hcsz]; exact Nat.mul_le_mul_right e hcl
 let pin1 : Qw → Option (Nat × Nat) := fun b => if b = K5 then some (g, i * e) else none
 have hpin : pin1 K5 = some (g, i * e) := by simp [pin1]
 let st0 : St := ⟨enT 0 ts, [(K5, some (.box (row.map .p) (some ⟨e, i, rows⟩)))]⟩
 have hst0 : ∀ b bk, st0.h b = some bk → b = K5 ∧ bk = .box (row.map .p) (some ⟨e, i, rows⟩) := by
  intro b bk hb
  have hb1 : (XZ [(K5, some (Bk.box (row.map .p) (some ⟨e, i, rows⟩)))] b).getD none = some bk := hb
  simp only [XZ] at hb1
  cases hq : VP K5 b with
  | true => rw [hq] at hb1; cases hb1; exact ⟨(Z6.1 hq).symm, rfl⟩
  | false => rw [hq] at hb1; cases hb1
 have hh0 : st0.h K5 = some (.box (row.map .p) (some ⟨e, i, rows⟩)) := rfl
 obtain ⟨T, fn, body, hfn, hbody, hN2, htl, haw⟩ := hcon.run
 let E1 : En := ⟨w, A2, fun x => x = g, pin1⟩
 have hev : ∀ x ∈ xs.toList, RT cx w st'.h (st.ev x) (a.eval x) := by
  intro x hx
  rw [← JK ha (x := x) (by simp only [Op.operands, Call.operands]; simp at hx ⊢; exact .inr hx)]
  exact hr.ev (List.all_eq_true.1 hok x hx)
 have hts := Qsd hr (cx1 := ⟨pin1, A2⟩) rfl (h0 := st0.h) (A2 := A2) (fun x hx => .inl hx) hc' (fun g' o' h => by rw [hg] at h; cases h; exact ⟨rfl, hpin⟩) hh0 hargs' (fun b hb g q hg => .inr ⟨b, hb, hbn b hb, q, hg⟩) (vs := (xs.map a.eval).toList) (by simp) (fun i t hi => by
  rw [List.getElem?_map, Option.map_eq_some_iff] at hi
  obtain ⟨x, hx, rfl⟩ := hi
  exact ⟨a.eval x, by rw [Array.toList_map, List.getElem?_map, hx]; rfl, hev x (List.mem_of_getElem? hx)⟩)
 have hvsz : (xs.map a.eval).size = ts.length := by rw [Qsc hargs']; simp
 have hr1 : Xx E1 fn.ntmps ⟨pin1, A2⟩ st0 { tmps := (xs.map a.eval) ++ Array.replicate (fn.ntmps - (xs.map a.eval).size) undef, defers := [] } w := by
  refine ⟨rfl, by simp only [Array.size_append, Array.size_replicate]; omega, fun s => ?_, fun b bk hb => ?_, fun b b' g o g' o' hb hb' hi hi' hne => ?_, fun b g' o hb hi => ?_, fun x hx => ⟨hAsz x hx, .inl hx⟩, fun x hx => hx, fun _ _ _ => rfl, Nat.le_refl _, rfl, rfl, rfl, hN2, fun _ _ => rfl, .refl _⟩
  ·have e : st0.g s = (Zn (enT 0 ts) s).getD (.c .any) := rfl
   rw [e]
   cases hl : Zn (enT 0 ts) s with
   | none => exact ⟨.inl rfl, trivial⟩
   | some t =>
    obtain ⟨i, h1, h2⟩ := Qae hl
    rw [Nat.zero_add] at h1
    subst h1
    obtain ⟨v, h3, h4⟩ := hts s t h2
    have hi := (List.getElem?_eq_some_iff.1 h3).1
    have : ((xs.map a.eval) ++ Array.replicate (fn.ntmps - (xs.map a.eval).size) undef).getD s undef = v := by
     rw [Array.getD_eq_getD_getElem?, Array.getElem?_append_left (by simpa using hi)]
     rw [Array.getElem?_toList] at h3
     rw [h3]; rfl
    rw [this]
    exact h4
  ·obtain ⟨rfl, rfl⟩ := hst0 b bk hb
   have hmono : ∀ p v, RP w cx.A p v → RP w A2 p v := fun p v h => h.mono (fun x hx => .inl hx) (Nat.le_refl _) (fun _ _ _ => rfl)
   refine ⟨g, i * e, c0, el0, hpin, hgc, hgA2, by rw [List.length_map, hrl]; omega, fun k x hx => ?_, rfl, by rw [List.length_map]; exact hrl, he0, hre2, hre, fun j r k p _ hj hk => ?_⟩
   ·rw [List.getElem?_map, Option.map_eq_some_iff] at hx
    obtain ⟨p, hp, rfl⟩ := hx
    obtain ⟨cv, h1, h2⟩ := hcat i row k p hrow hp
    exact ⟨cv, h1, h2.one, hmono p cv h2⟩
   ·obtain ⟨cv, h1, h2⟩ := hcat j r k p hj hk
    exact ⟨cv, h1, hmono p cv h2⟩
  ·obtain ⟨bk, hb1⟩ := Option.ne_none_iff_exists'.1 hb
   obtain ⟨bk', hb2⟩ := Option.ne_none_iff_exists'.1 hb'
   exact absurd ((hst0 b bk hb1).1.trans (hst0 b' bk' hb2).1.symm) hne
  ·obtain ⟨bk, hb1⟩ := Option.ne_none_iff_exists'.1 hb
   obtain ⟨rfl, _⟩ := hst0 b bk hb1
   have hi' : pin1 K5 = some (g', o) := hi
   rw [hpin] at hi'
   cases hi'
   exact ⟨hgl, .inr rfl⟩
 have hfl : YJ st bs = YJ st' bs := List.map_congr_left fun b hb => by rw [hbe b (List.mem_cons_of_mem _ hb)]
 have hcalls : Calls P f (xs.map a.eval) w (fun ex w' => ∃ v cx', ex = .returned v ∧ Xx E N cx' (Ef.ap ⟨IG d r, AX d 0 (QP r) ++ ([(c, some (.row e (rows.set i out) true))] ++ YJ st' bs)⟩ ⟨some d, .call { callee := .value (.func f), args := xs, argTypes := tys }, ty, pos, af, gg⟩ st') (a.put (some d) v) w') := by
  refine calls_of_wp hfn hbody (wp_mono (haw E1 _ _ _ hr1) ?_)
  rintro ex a' w' ⟨st2, cx2, ⟨hex, tsr, os, bs', cs, bs2, h1, h2, hbox, htp, h3, h4⟩, hr'⟩
  obtain ⟨vs', h6, h7, h8⟩ := Ix hr' h1
  have hres := EJ (fn := fn) (rs := fn.results.toList) (by simp) h6
  have hnod2 := DK h3
  have hdis2 := VL h4
  obtain ⟨hbl2, hol2⟩ := Lp h2
  have hpl2 := Np htp
  have hpin2 : cx2.ι K5 = some (g, i * e) := (hr'.pin K5 (.inl rfl)).trans hpin
  have hbl3 : ∀ b ∈ bs' ++ bs2, st2.h b ≠ none := fun b hb => by
   rcases List.mem_append.1 hb with h | h
   ·exact hbl2 b h
   ·obtain ⟨_, _, _, h⟩ := hpl2 b h; rw [h]; simp
  let A' : Nat → Prop := fun x => cx2.A x ∨ ∃ b ∈ bs' ++ bs2, st2.h b ≠ none ∧ ∃ q, cx2.ι b = some (x, q)
  have hlive2 : ∀ b, some b ∈ os → st2.h b ≠ none := fun b hb => by obtain ⟨_, _, h⟩ := hol2 b hb; rw [h]; simp
  have hmut2 : ∀ b, some b ∈ os → ∀ g q, cx2.ι b = some (g, q) → ¬ cx2.A g := by
   intro b hb g q hg
   obtain ⟨e1, rows, hbk⟩ := hol2 b hb
   obtain ⟨_, _, h8⟩ := hr'.bl b _ hbk
   rw [hg] at h8
   obtain ⟨_, c, el, fz, capR, _, h9, _⟩ := h8
   exact (h9 rfl).2
  have hnA : ∀ b, some b ∈ os → ∀ g q, cx2.ι b = some (g, q) → ¬ A' g := by
   rintro b hb g q hg (h | ⟨b2, hb2, hb2l, q2, hg2⟩)
   ·exact hmut2 b hb g q hg h
   ·refine hr'.inj b b2 g q g q2 (hlive2 b hb) hb2l hg hg2 ?_ rfl
    rintro rfl
    exact hdis2 b (List.mem_filterMap.2 ⟨some b, hb, rfl⟩) hb2
  have hpl : st2.h K5 ≠ none := by rw [hbox]; simp
  have hrow' : ∀ b ∈ bs' ++ bs2, b ≠ K5 := by
   intro b hb e
   subst e
   have : ∃ e rows mu, st2.h K5 = some (.row e rows mu) := by
    rcases List.mem_append.1 hb with h | h
    ·have hSs : ∀ {ts xs os bs}, Nn st2 ts xs os bs → ∀ b ∈ bs, ∃ e rows mu, st2.h b = some (.row e rows mu) := by
      have hCs : ∀ {cs xs os bs}, AQ st2 cs xs os bs → ∀ b ∈ bs, ∃ e rows mu, st2.h b = some (.row e rows mu) := by
       intro cs xs os bs h
       induction h with
       | nil => simp
       | cons h hs ih =>
        intro b hb
        rcases List.mem_append.1 hb with hb | hb
        ·exact AY h b hb
        ·exact ih b hb
      intro ts xs os bs h
      induction h with
      | nil => simp
      | cons h hs ih =>
       intro b hb
       rcases List.mem_append.1 hb with hb | hb
       ·cases h with
        | c h => exact AY h b hb
        | agg h => exact hCs h b hb
       ·exact ih b hb
     exact hSs h2 _ h
    ·exact hpl2 _ h
   obtain ⟨_, _, _, h⟩ := this
   rw [hbox] at h; cases h
  have hgA' : ∀ hna : ¬ cx2.A g, ¬ A' g := by
   rintro hna (h | ⟨b2, hb2, hb2l, q2, hg2⟩)
   ·exact hna h
   ·exact hr'.inj K5 b2 g (i * e) g q2 hpl hb2l hpin2 hg2 (fun e => hrow' b2 hb2 e.symm) rfl
  have hval := (Mz hr' (A' := A') (fun x hx => .inl hx) h2 (n := 0) (gs := fun n => CF cx2 ((os[n]?).getD none)) (vs := vs') (fun b hb g q hg => .inr ⟨b, List.mem_append_left _ hb, hbl2 b hb, q, hg⟩) (fun b hb g q hg => hnA b hb g q hg) (fun k o hk => by rw [Nat.zero_add, hk]; rfl) h7 h8).1
  have hgo : ∀ (n x : Nat), CF cx2 ((os[n]?).getD none) = some x → ∃ b q, os[n]? = some (some b) ∧ cx2.ι b = some (x, q) := by
   intro n x hx
   cases ho : os[n]? with
   | none => rw [ho] at hx; cases hx
   | some o =>
    rw [ho] at hx
    cases o with
    | none => cases hx
    | some b =>
     simp only [CF, Option.getD_some, Option.bind_some, Option.map_eq_some_iff] at hx
     obtain ⟨⟨x', q⟩, h8, rfl⟩ := hx
     exact ⟨b, q, rfl, h8⟩
  have hfin : ∃ v, (results fn a'.tmps).run P w' = .ok v w' ∧ Q5w w' A' (fun n => CF cx2 ((os[n]?).getD none)) r v := by
   refine ⟨_, hres, ?_⟩
   match r, vs', hval with
   | [], [], _ => exact ⟨#[], rfl, trivial⟩
   | [t], [v], h => exact h.1
   | t :: t2 :: r, v :: v2 :: vs, h => exact ⟨_, rfl, h⟩
   | [t], v :: v2 :: vs, h => exact h.2.elim
   | t :: t2 :: r, [v], h => exact h.2.elim
  obtain ⟨v, hv1, hv2⟩ := hfin
  obtain ⟨us, hus, hrt⟩ := HJ (d := d) hv2
  have hlk : ∀ b y, XZ [(c, some (Bk.row e (rows.set i out) true))] b = some y → b = c ∧ y = some (.row e (rows.set i out) true) := by
   intro b y h
   simp only [XZ] at h
   cases hq : VP c b with
   | true => rw [hq] at h; cases h; exact ⟨(Z6.1 hq).symm, rfl⟩
   | false => rw [hq] at h; cases h
  have hlk2 : ∀ b, XZ [(c, some (Bk.row e (rows.set i out) true))] b ≠ none → b = c := fun b h => by
   obtain ⟨y, hy⟩ := Option.ne_none_iff_exists'.1 h
   exact (hlk b y hy).1
  have hlkc : XZ [(c, some (Bk.row e (rows.set i out) true))] c ≠ none := by simp only [XZ]; rw [Z6.2 rfl]; simp
  -- the list behind
  obtain ⟨g3, o3, c3, el3, j1, j2, j3, j4, j5, j6⟩ := hr'.bl K5 _ hbox
  rw [hpin2] at j1
  cases j1
  obtain ⟨k1, k2, k3, k4, k5, k6⟩ := j6
  obtain ⟨c4, el4, fz4, l1, l2⟩ := hr'.cz g c0 el0 (0, 0) hgc
  rw [j2] at l1
  cases l1
  have hcsl := (My (Iz htp)).1
  rw [List.length_map] at hcsl
  have hRBc : RB ⟨cx.ι, A'⟩ w' st'.h c (.row e (rows.set i out) true) := by
   refine ⟨he0, fun r hr => ?_, ?_⟩
   ·rcases List.mem_or_eq_of_mem_set hr with h | h
    ·exact hre r h
    ·rw [h, ← hcsl]; exact k2
   ·show match cx.ι c with | none => _ | some (g, o) => _
    rw [hg]
    refine ⟨rfl, c3, el3, (0, 0), capR, j2, fun _ => ⟨rfl, hgA' j3⟩, (fun h => by cases h), by rw [l2, hcsz], by rw [List.length_set]; exact hcl, hcm, fun j r k p hj hk => ?_⟩
    by_cases hji : j = i
    ·subst hji
     rw [List.getElem?_set_self hil] at hj
     cases hj
     have m1 := DR hr' (A' := A') (fun x hx => .inl hx) (gs := fun _ => none) (Iz htp) (n := 0) (vs := (c3.toList.drop (j * e)).take cs.length) (fun b hb g q hg => .inr ⟨b, List.mem_append_right _ hb, hbl3 b (List.mem_append_right _ hb), q, hg⟩) (fun b hb => by rw [List.mem_map] at hb; obtain ⟨y, _, hy⟩ := hb; cases hy) (fun k o hk => by rw [List.getElem?_map, Option.map_eq_some_iff] at hk; obtain ⟨y, _, rfl⟩ := hk; rfl) (by simp only [List.length_take, List.length_drop, Array.length_toList]; omega) (fun i x hi => by
      obtain ⟨cv, h13, h14, h15⟩ := j5 i x hi
      have hil := (List.getElem?_eq_some_iff.1 hi).1
      exact ⟨cv, by rw [List.getElem?_take, if_pos hil, List.getElem?_drop, Array.getElem?_toList]; exact h13, h14, h15⟩)
     obtain ⟨m2, m3⟩ := DO m1
     obtain ⟨u, hu, m4, m5⟩ := m3 k (.p p) (by rw [List.getElem?_map, hk]; rfl)
     refine ⟨u, ?_, m5⟩
     have hkl := (List.getElem?_eq_some_iff.1 hk).1
     rw [List.getElem?_take, if_pos (by omega), List.getElem?_drop, Array.getElem?_toList] at hu
     exact hu
    ·rw [List.getElem?_set_ne (fun e => hji e.symm)] at hj
     obtain ⟨cv, m1, m2⟩ := k6 j r k p hji hj hk
     exact ⟨cv, m1, m2.mono (fun x hx => .inl hx) (Nat.le_refl _) (fun _ _ _ => rfl)⟩
  have hR2 : a'.defers = [] ∧ ∃ v, (results fn a'.tmps).run P w' = .ok v w' ∧ ∃ v' cx', Ending.returned v = .returned v' ∧ Xx E N cx' (Ef.ap ⟨IG d r, AX d 0 (QP r) ++ ([(c, some (.row e (rows.set i out) true))] ++ YJ st' bs)⟩ ⟨some d, .call { callee := .value (.func f), args := xs, argTypes := tys }, ty, pos, af, gg⟩ st') (a.put (some d) v') w' := by
   refine ⟨hr'.defers, v, hv1, v, ?_⟩
   have hMc : ∀ x, x = g → ∃ b, (b ∈ bs ∨ XZ [(c, some (Bk.row e (rows.set i out) true))] b ≠ none) ∧ st'.h b ≠ none ∧ ∃ q, cx.ι b = some (x, q) := fun x hx => ⟨c, .inr hlkc, hcn, 0, by rw [hx]; exact hg⟩
   have hcore := PR (o := ⟨some d, .call { callee := .value (.func f), args := xs, argTypes := tys }, ty, pos, af, gg⟩) hr hd (hd d rfl) (w' := w') (pl := [(c, some (.row e (rows.set i out) true))]) (fz := bs) (gs2 := fun n => CF cx2 ((os[n]?).getD none)) (us := us) (A2 := A') (v := v) (r := r) (fun n e' rows' hx => hf (d, n) ?_) (fun x hx => .inl (hr'.A0 x (.inl hx))) (fun x hx => ?_) (fun b hb => ⟨hlive b hb, fun g q hg => .inl (hr'.A0 g (.inr ⟨b, hb, hbn b hb, q, hg⟩))⟩) (fun b hb hb2 => ?_) (fun b y hy => ?_) hr'.sz hr'.cz (fun x hx hn => hr'.kept x hx fun hM => ?_) hr'.os hr'.tape hr'.output (fun n m x hx hy => ?_) (fun n x hx => ?_) hus hrt
   ·obtain ⟨cx', hc⟩ := hcore
    exact ⟨cx', rfl, hc⟩
   ·have := WB d (QP r) 0 (d, n)
    rw [if_pos ⟨rfl, Nat.zero_le _⟩, Nat.sub_zero, hx] at this
    exact List.mem_map.2 ⟨_, YH this, rfl⟩
   ·rcases hx with hx | ⟨b, hb, hbl', q, hq⟩
    ·obtain ⟨g1, g2 | g2 | g2⟩ := hr'.A x hx
     ·rcases g2 with g2 | ⟨b, hb, g3, g4⟩
      ·exact .inl g2
      ·exact .inr (.inr ⟨b, .inl hb, g3, g4⟩)
     ·exact .inr (.inl ⟨g2, g1⟩)
     ·exact .inr (.inr (hMc x g2))
    ·obtain ⟨g1, g2 | g2⟩ := hr'.own b x q hbl' hq
     ·exact .inr (.inl ⟨g2, g1⟩)
     ·exact .inr (.inr (hMc x g2))
   ·rw [hlk2 b hb] at hb2; exact hdis' hb2
   ·obtain ⟨rfl, rfl⟩ := hlk b y hy
    exact ⟨⟨e, rows, hc'⟩, fun bk hbk => by cases hbk; exact ⟨e, rows, _, hc', rfl, by rw [List.length_set]; exact Nat.le_refl _, hRBc⟩⟩
   ·exact hn c hlkc 0 (by rw [show x = g from hM]; exact hg)
   ·obtain ⟨b, q, h8, h9⟩ := hgo n x hx
    obtain ⟨b2, q2, h10, h11⟩ := hgo m x hy
    by_cases hbb : b = b2
    ·subst hbb; exact hnod2 n m b h8 h10
    ·exact absurd rfl (hr'.inj b b2 x q x q2 (hlive2 b (List.mem_of_getElem? h8)) (hlive2 b2 (List.mem_of_getElem? h10)) h9 h11 hbb)
   ·obtain ⟨b, q, h8, h9⟩ := hgo n x hx
    have hbl3 := hlive2 b (List.mem_of_getElem? h8)
    obtain ⟨g1, g2 | g2⟩ := hr'.own b x q hbl3 h9
    ·exact ⟨g1, .inl g2⟩
    ·exfalso
     have g3 : x = g := g2
     subst g3
     refine hr'.inj b K5 x q x (i * e) hbl3 hpl h9 hpin2 ?_ rfl
     rintro rfl
     obtain ⟨_, _, h⟩ := hol2 _ (List.mem_of_getElem? h8)
     rw [hbox] at h; cases h
  rcases hex with rfl | rfl
  ·exact hR2
  ·exact hR2
 unfold Oper.wp
 rw [HK hcon.ent, Oper.upon_enter, hfl]
 refine hcalls.mono ?_
 rintro ex w' ⟨v, cx', rfl, h⟩
 exact ⟨cx', h⟩
def Q1t (st : St) (c : Qw) (i : Nat) : List TV → List TV → Option (List TV × List Qw × List Prop)
 | .c (.ptr b j k) :: ts, _ :: ts' => match VP b c, k with
  | true, 0 => match Q1t st c i ts ts' with
   | some (xs, bs, ps) => some (.c (.ptr K5 0 0) :: xs, bs, (j = i) :: ps)
   | none => none
  | _, _ => none
 | .c x :: ts, .c (.p y) :: ts' => match Qab st x (.p y) with
  | some ⟨.p p, none, b, q⟩ => match Q1t st c i ts ts' with
   | some (xs, bs, ps) => match G1 b bs, G1 q ps with
    | some b', some q' => some (.c (.p p) :: xs, b', q')
    | _, _ => none
   | none => none
  | _ => none
 | .agg x :: ts, .agg y :: ts' => match H9 st x (y.map fun z => match z with | .p p => .p p | _ => .p (.o undef)) with
  | some ⟨x', o, b, q⟩ => match x'.mapM (fun r => match r with | .p y => some y | _ => none), o.all (·.isNone) with
   | some ys, true => match Q1t st c i ts ts' with
    | some (xs, bs, ps) => match G1 b bs, G1 q ps with
     | some b', some q' => some (.agg (ys.map .p) :: xs, b', q')
     | _, _ => none
    | none => none
   | _, _ => none
  | none => none
 | [], [] => some ([], [], [])
 | _, _ => none
theorem Qse {c : Qw} {i : Nat} : ∀ {ts ts' xs : List TV} {b : List Qw} {p : List Prop}, Q1t st c i ts ts' = some (xs, b, p) → Xw p → HPs st c i ts xs b := by
 intro ts
 induction ts with
 | nil =>
  intro ts' xs b p h hp
  cases ts' with
  | nil => simp only [Q1t] at h; cases h; exact .nil
  | cons => simp [Q1t] at h
 | cons t ts ih =>
  intro ts' xs b p h hp
  unfold Q1t at h
  split at h
  ·rename_i h0
   cases h0
   split at h
   ·rename_i hb
    split at h
    ·rename_i h2
     cases h
     have := Z6.1 hb
     subst this
     cases hp with | cons hp hq => subst hp; exact .ptr (ih h2 hq)
    ·cases h
   ·cases h
  ·rename_i h0
   cases h0
   split at h
   ·rename_i h1
    split at h
    ·rename_i h2
     split at h
     ·rename_i hb hq
      cases h
      rw [KO hb]
      rw [KO hq] at hp
      exact .c (MJ h1 hp.app.1) (ih h2 hp.app.2)
     ·cases h
    ·cases h
   ·cases h
  ·rename_i h0
   cases h0
   split at h
   ·rename_i h1
    split at h
    ·rename_i h3 h4
     split at h
     ·rename_i h2
      split at h
      ·rename_i hb hq
       cases h
       rw [KO hb]
       rw [KO hq] at hp
       exact .agg (Q1n (DU h1 hp.app.1) h3 h4) (ih h2 hp.app.2)
      ·cases h
     ·cases h
    ·cases h
   ·cases h
  ·rename_i h0; cases h0
  ·cases h
def ptF : List TV → List TV → Option (Qw × Nat)
 | .c (.ptr b j _) :: _, .c (.ptr _ _ _) :: _ => some (b, j)
 | _ :: ts, _ :: ts' => ptF ts ts'
 | _, _ => none
theorem callp {f : FuncId} {xs : Array Operand} {tys : Array TypeId} {c : Qw} {e i : Nat} {rows : List (List PV)} {row out : List PV} {ts ts2 : List TV} {r : List RS} {bs ids : List Qw} {bl : List (Qw × Option Bk)} {t : TV} {pa : List Prop}
  (hcon : CP P f ⟨e, i, rows⟩ row ts r out) (hrow : rows[i]? = some row) (hpa : Xw pa) (hσ : ptF (xs.toList.map st.ev) ts = some (c, i) := by exact rfl) (hc : st.h c = some (.row e rows true) := by exact rfl) (hargs : Q1t st c i (xs.toList.map st.ev) ts = some (ts2, bs, pa) := by exact rfl) (he : ts2 = ts := by exact rfl)
  (hok : xs.toList.all Zf = true := by exact rfl) (hdis : Dh [c] bs = true := by exact rfl) (hids : (AX d 0 (QP r)).map (·.1) = ids := by exact rfl) (hbl : AX d 0 (QP r) ++ ([(c, some (.row e (rows.set i out) true))] ++ YJ st bs) = bl := by exact rfl) (ht : IG d r = t := by exact rfl) :
  ZC E N P ops ⟨some d, .call { callee := .value (.func f), args := xs, argTypes := tys }, ty, pos, af, gg⟩ st ⟨c :: bs, ids⟩ ⟨t, bl⟩ := by
 subst he
 exact Qfh hcon hc hrow (Qse hargs hpa) hok hdis hids hbl ht
theorem Z0d {V : Type} {enc : V → List PV} {L : List V} {x x' : V} {f : FuncId} {xs : Array Operand} {tys : Array TypeId} {c : Qw} {e i : Nat} {ts ts2 : List TV} {r : List RS} {bs ids : List Qw} {bl : List (Qw × Option Bk)} {t : TV} {pa : List Prop}
  (hcon : CP P f ⟨e, i, L.map enc⟩ (enc x) ts r (enc x')) (hσ : ptF (xs.toList.map st.ev) ts = some (c, i) := by exact rfl) (hc : st.h c = some (.row e (L.map enc) true) := by exact rfl) (hargs : Q1t st c i (xs.toList.map st.ev) ts = some (ts2, bs, pa) := by exact rfl) (he : ts2 = ts := by exact rfl)
  (hok : xs.toList.all Zf = true := by exact rfl) (hdis : Dh [c] bs = true := by exact rfl) (hids : (AX d 0 (QP r)).map (·.1) = ids := by exact rfl) (hbl : AX d 0 (QP r) ++ ([(c, some (.row e ((L.set i x').map enc) true))] ++ YJ st bs) = bl := by exact rfl) (ht : IG d r = t := by exact rfl) (hpa : Xw pa := by exact Ly) (hrow : L[i]? = some x := by exact hi_) :
  ZC E N P ops ⟨some d, .call { callee := .value (.func f), args := xs, argTypes := tys }, ty, pos, af, gg⟩ st ⟨c :: bs, ids⟩ ⟨t, bl⟩ :=
 callp hcon (by rw [List.getElem?_map, hrow]; rfl) hpa hσ hc hargs he hok hdis hids (by rw [← hbl, List.map_set]) ht
structure CPs where
 x : List PV
 bs : List Qw
 ps : List Prop
def Z0e (st : St) (cs : List CV) (out : List PV) : Option CPs := match H9 st cs (out.map .p) with
 | some ⟨x, o, b, p⟩ => match x.mapM (fun r => match r with | .p y => some y | _ => none), o.all (·.isNone) with
  | some ys, true => some ⟨ys, b, p⟩
  | _, _ => none
 | none => none
theorem Qsf {cs : List CV} {out : List PV} {c : CPs} (h : Z0e st cs out = some c) (hp : Xw c.ps) : Gp st cs c.x c.bs := by
 unfold Z0e at h
 split at h
 ·rename_i h1
  split at h
  ·rename_i h2 h3; cases h; exact Q1n (DU h1 hp) h2 h3
  ·cases h
 ·cases h
theorem finP {T : Tb P} {fn : Func} {e : Exit} {fm : Frm} {r : List RS} {out : List PV} {ts : List TV} {c : CR} {cs : List CV} {c2 : CPs} (h1 : Od T st fn.results.toList = some ts) (h2 : Lb st ts r = some c) (hb : st.h K5 = some (.box cs (some fm))) (h6 : Z0e st cs out = some c2) (hp : Xw c.ps) (hq : Xw c2.ps) (h3 : c.x = r) (h7 : c2.x = out) (h4 : Ll c.o = true) (h5 : Dh (c.o.filterMap id) (c.bs ++ c2.bs) = true) (he : e = .normal ∨ e = .ret) : Qjy T fn fm r out e st := by
 subst h3 h7
 exact ⟨he, _, _, _, _, _, HQ h1, HR h2 hp, hb, Qsf h6 hq, h4, h5⟩
end
class Fh {R : Type} (W : (R → Prop) → Prop) (f : outParam Nat) (ins : outParam (List (Nat × List (List PV)))) (ts : outParam (List TV)) (res : outParam (R → List RS)) (outs : outParam (R → List (Option (List (List PV))))) : Prop extends Gm W where
 run : ∀ r, Rr W r → CH Tryz.prog f ins ts (res r) (outs r)
theorem cch {R : Type} {W : (R → Prop) → Prop} {f : Nat} {ins : List (Nat × List (List PV))} {ts : List TV} {res : R → List RS} {outs : R → List (Option (List (List PV)))} [g : Fh W f ins ts res outs] {r : R} (h : Rr W r) : CH Tryz.prog f ins ts (res r) (outs r) := g.run r h
class Fq {R : Type} (W : (R → Prop) → Prop) (V : outParam Type) (f : outParam Nat) (enc : outParam (V → List PV)) (x : outParam V) (ts : outParam (List TV)) (res : outParam (R → List RS)) (out : outParam (R → V)) : Prop extends Gm W where
 run : ∀ (L : List V) (i : Nat) (r : R), Rr W r → CP Tryz.prog f ⟨(enc x).length, i, L.map enc⟩ (enc x) ts (res r) (enc (out r))
theorem ccp {R V : Type} {W : (R → Prop) → Prop} {f : Nat} {enc : V → List PV} {x : V} {ts : List TV} {res : R → List RS} {out : R → V} [g : Fq W V f enc x ts res out] {L : List V} {i : Nat} {r : R} (h : Rr W r) : CP Tryz.prog f ⟨(enc x).length, i, L.map enc⟩ (enc x) ts (res r) (enc (out r)) := g.run L i r h
end Go.Proofs.YtimfmcpbkdpmoaaGreat
namespace Go.Proofs.YtimfmcpbkdpmoaaGreat
open Go.RowKit Go.ChangeShapes Go.WideShapes
namespace M64
theorem maskN (a : Nat) (ha : a < 18446744073709551616) : bits .and .u64 (a : Int) 4294967295 = ((a % 4294967296 : Nat) : Int) := by
 have h := bits_and_u64_nat a 4294967295 ha (by omega)
 have e : a &&& 4294967295 = a % 4294967296 := Nat.and_two_pow_sub_one_eq_mod a 32
 rw [e] at h
 exact h
theorem divN (a : Nat) : (a : Int) / 4294967296 = ((a / 4294967296 : Nat) : Int) := by omega
theorem mulN (a b : Nat) : (a : Int) * (b : Int) = ((a * b : Nat) : Int) := (Int.natCast_mul a b).symm
theorem addN (a b : Nat) : (a : Int) + (b : Int) = ((a + b : Nat) : Int) := (Int.natCast_add a b).symm
theorem wrapN (a : Nat) (ha : a < 18446744073709551616) : IntKind.u64.wrap (a : Int) = (a : Int) := by rw [IntKind.wrap_u64]; omega
theorem wrapM (a : Nat) : IntKind.u64.wrap (a : Int) = ((a % 18446744073709551616 : Nat) : Int) := by rw [IntKind.wrap_u64]; omega
end M64
set_option maxHeartbeats 1000000 in
theorem Qfi (x y : Nat) (hx : x < 18446744073709551616) (hy : y < 18446744073709551616) (w : World) :
  Calls Tryz.prog 166 #[.int .u64 x, .int .u64 y] w fun e w' => e = .returned (.tuple #[.int .u64 ((x * y / 18446744073709551616 : Nat) : Int), .int .u64 ((x * y % 18446744073709551616 : Nat) : Int)]) ∧ w = w' := by
 obtain ⟨bd, bt, bw, hhi⟩ := Lib.mul64_hi x y hx hy
 have ba := Lib.half_mul_le (a := x / 4294967296) (b := y / 4294967296) (by omega) (by omega)
 have bb := Lib.half_mul_le (a := x / 4294967296) (b := y % 4294967296) (by omega) (by omega)
 have bc := Lib.half_mul_le (a := x % 4294967296) (b := y / 4294967296) (by omega) (by omega)
 have ba' : x / 4294967296 * (y / 4294967296) < 18446744073709551616 := by omega
 have bb' : x / 4294967296 * (y % 4294967296) < 18446744073709551616 := by omega
 have bc' : x % 4294967296 * (y / 4294967296) < 18446744073709551616 := by omega
 have bh1 : x / 4294967296 * (y / 4294967296) + (x / 4294967296 * (y % 4294967296) + x % 4294967296 * (y % 4294967296) / 4294967296) / 4294967296 < 18446744073709551616 := by omega
 have bh : x / 4294967296 * (y / 4294967296) + (x / 4294967296 * (y % 4294967296) + x % 4294967296 * (y % 4294967296) / 4294967296) / 4294967296 + ((x / 4294967296 * (y % 4294967296) + x % 4294967296 * (y % 4294967296) / 4294967296) % 4294967296 + x % 4294967296 * (y / 4294967296)) / 4294967296 < 18446744073709551616 := by omega
 go_enter Tryz.func166, Tryz.ntmps166
 go_wp2
 simp only [M64.maskN x hx, M64.maskN y hy, M64.divN, M64.mulN, M64.addN, M64.wrapN _ bd, M64.wrapN _ bb', M64.wrapN _ bt, M64.maskN _ bt, M64.wrapN _ bc', M64.wrapN _ bw, M64.wrapN _ ba', M64.wrapN _ bh1, M64.wrapN _ bh, M64.wrapM (x * y)]
 rw [hhi]
 go_ret2
 exact ⟨rfl, rfl⟩
end Go.Proofs.YtimfmcpbkdpmoaaGreat
namespace Go.Proofs.YtimfmcpbkdpmoaaGreat
open Go.RowKit Go.ChangeShapes Go.WideShapes
end Go.Proofs.YtimfmcpbkdpmoaaGreat
namespace Go.Proofs.YtimfmcpbkdpmoaaGreat
open Go.RowKit Go.ChangeShapes Go.WideShapes
def AZ (a b m : Int) : Int := if max a 0 + max b 0 > max m 0 then max m 0 else max a 0 + max b 0
def Qsg (a b m : Int) : Bool := decide (max a 0 + max b 0 > max m 0)
theorem Qk0 {k : IntKind} {x x' : Int} {y y' : Bool} (h1 : x = x') (h2 : y = y') : Ending.returned (.tuple #[.int k x, .bool y]) = .returned (.tuple #[.int k x', .bool y']) := by rw [h1, h2]
theorem Qsh (a b m : Int) (w : World) (ha : -9223372036854775808 ≤ a ∧ a ≤ 9223372036854775807) (hb : -9223372036854775808 ≤ b ∧ b ≤ 9223372036854775807) (hm : -9223372036854775808 ≤ m ∧ m ≤ 9223372036854775807) :
  Calls Tryz.prog 58 #[.int .i64 a, .int .i64 b, .int .i64 m] w fun e w' => e = .returned (.tuple #[.int .i64 (AZ a b m), .bool (Qsg a b m)]) ∧ w = w' := by
 go_enter Tryz.func58, Tryz.ntmps58
 go_wp2
 all_goals
  go_ret2
  exact ⟨Qk0 (by unfold AZ; split <;> omega) (by unfold Qsg; first | exact (decide_eq_true (by omega)).symm | exact (decide_eq_false (by omega)).symm), rfl⟩
end Go.Proofs.YtimfmcpbkdpmoaaGreat
namespace Go.Proofs.YtimfmcpbkdpmoaaGreat
open Go.RowKit Go.ChangeShapes Go.WideShapes
set_option maxHeartbeats 1000000 in
theorem Qk1 (x y : Nat) (hx : x < 18446744073709551616) (hy : y < 18446744073709551616) (w : World) :
  Calls Tryz.prog 110 #[.int .u64 x, .int .u64 y] w fun e w' => e = .returned (.tuple #[.int .u64 ((x * y / 18446744073709551616 : Nat) : Int), .int .u64 ((x * y % 18446744073709551616 : Nat) : Int)]) ∧ w = w' := by
 have C := Lib.hid (Qfi x y hx hy w)
 generalize x * y / 18446744073709551616 = p at *
 generalize x * y % 18446744073709551616 = q at *
 go_enter Tryz.func110, Tryz.ntmps110
 go_wp2_with (go_at_call 166; refine C.out.mono ?_; rintro e w' ⟨rfl, rfl⟩)
 go_ret2
 exact ⟨rfl, rfl⟩
def LC (a b m : Int) : Int := if max a 0 * max b 0 > max m 0 then max m 0 else max a 0 * max b 0
def Qk2 (a b m : Int) : Bool := decide (max a 0 * max b 0 > max m 0)
theorem Qfj (x y : Int) (w : World) (hx0 : 0 ≤ x) (hx : x < 18446744073709551616) (hy0 : 0 ≤ y) (hy : y < 18446744073709551616) :
  Calls Tryz.prog 110 #[.int .u64 x, .int .u64 y] w fun e w' => ∃ p : Int, e = .returned (.tuple #[.int .u64 (p / 18446744073709551616), .int .u64 (p % 18446744073709551616)]) ∧ w = w' ∧ 0 ≤ p ∧ Hid (p = x * y) := by
 obtain ⟨X, rfl⟩ := Int.eq_ofNat_of_zero_le hx0
 obtain ⟨Y, rfl⟩ := Int.eq_ofNat_of_zero_le hy0
 refine (Qk1 X Y (by omega) (by omega) w).mono ?_
 rintro e w' ⟨rfl, rfl⟩
 exact ⟨((X * Y : Nat) : Int), by simp, rfl, by omega, show _ = _ by simp⟩
theorem Qsi {a b m x y p : Int} (hx : x = max a 0) (hy : y = max b 0) (hp : p = x * y) : LC a b m = if p > max m 0 then max m 0 else p := by unfold LC; rw [hp, hx, hy]
theorem Qsj {a b m x y p : Int} (hx : x = max a 0) (hy : y = max b 0) (hp : p = x * y) : Qk2 a b m = decide (p > max m 0) := by unfold Qk2; rw [hp, hx, hy]
set_option maxHeartbeats 1600000 in
theorem Qk3 (a b m : Int) (w : World) (ha : -9223372036854775808 ≤ a ∧ a ≤ 9223372036854775807) (hb : -9223372036854775808 ≤ b ∧ b ≤ 9223372036854775807) (hm : -9223372036854775808 ≤ m ∧ m ≤ 9223372036854775807) :
  Calls Tryz.prog 59 #[.int .i64 a, .int .i64 b, .int .i64 m] w fun e w' => e = .returned (.tuple #[.int .i64 (LC a b m), .bool (Qk2 a b m)]) ∧ w = w' := by
 go_enter Tryz.func59, Tryz.ntmps59
 go_wp2_with fail
 all_goals
  refine (Qfj _ _ _ (by omega) (by omega) (by omega) (by omega)).mono ?_
  rintro e w' ⟨p, rfl, rfl, hp0, hp⟩
  have hs := Qsi (a := a) (b := b) (m := m) (by omega) (by omega) hp.out
  have ht := Qsj (a := a) (b := b) (m := m) (by omega) (by omega) hp.out
  have HS := Lib.hid hs
  have HT := Lib.hid ht
  clear hs ht hp
  go_wp2
  all_goals
   go_ret2
   exact ⟨Qk0 (by rw [HS.out]; split <;> omega) (by rw [HT.out]; first | exact (decide_eq_true (by omega)).symm | exact (decide_eq_false (by omega)).symm), rfl⟩
end Go.Proofs.YtimfmcpbkdpmoaaGreat
namespace Go.Proofs.YtimfmcpbkdpmoaaGreat
open Go.RowKit Go.ChangeShapes Go.WideShapes
def Qk4 (k : Int) : List Int :=
 if k = 1 then [0, 3] else if k = 2 then [0] else if k = 3 then [0, 1] else if k = 5 then [0, 12] else if k = 6 then [0, 4, 5] else if k = 7 then [0, 1, 5] else if k = 8 then [0, 1, 5, 6, 7]
 else if k = 9 then [2] else if k = 10 then [8, 9, 12] else if k = 11 then [8] else if k = 12 ∨ k = 15 then [8, 9] else if k = 13 then [10, 11] else if k = 14 then [10] else if k = 16 then [0, 13] else []
def Lc (k : Int) : Prop := 1 ≤ k ∧ k ≤ 17
instance (k : Int) : Decidable (Lc k) := by unfold Lc; infer_instance
def Q1u (k : Int) : Bool := decide (Lc k ∧ ¬ (k = 6 ∨ k = 7 ∨ k = 8 ∨ k = 9 ∨ k = 15 ∨ k = 16 ∨ k = 17))
theorem Qk5 {k : Int} (h : Lc k) : k = 1 ∨ k = 2 ∨ k = 3 ∨ k = 4 ∨ k = 5 ∨ k = 6 ∨ k = 7 ∨ k = 8 ∨ k = 9 ∨ k = 10 ∨ k = 11 ∨ k = 12 ∨ k = 13 ∨ k = 14 ∨ k = 15 ∨ k = 16 ∨ k = 17 := by
 obtain ⟨h1, h2⟩ := h; omega
theorem Qdf {k : Int} (h : ¬ Lc k) : (k == 1) = false ∧ (k == 2) = false ∧ (k == 3) = false ∧ (k == 4) = false ∧ (k == 5) = false ∧ (k == 6) = false ∧ (k == 7) = false ∧ (k == 8) = false ∧ (k == 9) = false ∧ (k == 10) = false ∧ (k == 11) = false ∧ (k == 12) = false ∧ (k == 13) = false ∧ (k == 14) = false ∧ (k == 15) = false ∧ (k == 16) = false ∧ (k == 17) = false := by
 unfold Lc at h
 refine ⟨?_, ?_, ?_, ?_, ?_, ?_, ?_, ?_, ?_, ?_, ?_, ?_, ?_, ?_, ?_, ?_, ?_⟩ <;> exact beq_eq_false_iff_ne.2 (by omega)
theorem Qk6 {P : Program} {T e : TypeId} (hT : P.underlying T = some (.slice e)) (d : Nat) (a : Addr) (n c : Nat) (w : World) : Sem.run P (Op.equalIn (d + 1) T (.slice (some a) n c) (.slice none 0 0)) w = .ok false w := by
 simp [Op.equalIn, run_underlying hT]
theorem Qsk {P : Program} {T e : TypeId} (hT : P.underlying T = some (.slice e)) (a : Addr) (n c : Nat) (w : World) : Sem.run P (binOp .neq T (.slice (some a) n c) (.slice none 0 0)) w = .ok (.bool true) w := by
 have h := Qk6 hT 9999 a n c w
 show Sem.run P (do let b ← Op.equalIn (9999 + 1) T (.slice (some a) n c) (.slice none 0 0); pure (Value.bool (!b)) : Sem Value) w = _
 generalize Op.equalIn (9999 + 1) T (.slice (some a) n c) (.slice none 0 0) = q at *
 simp [h]
theorem Qfk {P : Program} {T e : TypeId} (hT : P.underlying T = some (.slice e)) (d : Nat) (w : World) : Sem.run P (Op.equalIn (d + 1) T (.slice none 0 0) (.slice none 0 0)) w = .ok true w := by
 simp [Op.equalIn, run_underlying hT]
theorem Qk7 {P : Program} {T e : TypeId} (hT : P.underlying T = some (.slice e)) (w : World) : Sem.run P (binOp .neq T (.slice none 0 0) (.slice none 0 0)) w = .ok (.bool false) w := by
 have h := Qfk hT 9999 w
 show Sem.run P (do let b ← Op.equalIn (9999 + 1) T (.slice none 0 0) (.slice none 0 0); pure (Value.bool (!b)) : Sem Value) w = _
 generalize Op.equalIn (9999 + 1) T (.slice none 0 0) (.slice none 0 0) = q at *
 simp [h]
theorem Qk8 (w : World) (e : TypeId) (l : List Int) (cs : Array Value) (n : Nat) (h : cs.toList = l.map (.int .i64)) (hl : l.length = n) (hn : n ≤ 100) : (w.alloc (.cells cs e)).ownsRow w.heap.size e 1 (.slice (some ⟨w.heap.size, 0, none⟩) n n) n (l.map (.int .i64)) := by
 have hs : cs.size = n * 1 := by rw [← Array.length_toList, h, List.length_map, hl, Nat.mul_one]
 have := World.ownsRow_lit (e := e) w cs n (Nat.le_refl _) (by unfold maxLen; omega) (by omega)
 rw [h] at this
 exact this
set_option maxRecDepth 100000 in
set_option maxHeartbeats 1600000 in
theorem Qk9 (k : Int) (w : World) (hk : Lc k) :
  Calls Tryz.prog 62 #[.int .i64 k] w fun e w' => ∃ a, e = .returned (.slice (some a) (Qk4 k).length (Qk4 k).length) ∧ Ints .i64 w' (.slice (some a) (Qk4 k).length (Qk4 k).length) (Qk4 k) ∧ w.grownBy w' none := by
 rcases Qk5 hk with rfl | rfl | rfl | rfl | rfl | rfl | rfl | rfl | rfl | rfl | rfl | rfl | rfl | rfl | rfl | rfl | rfl
 all_goals
  go_enter Tryz.func62, Tryz.ntmps62
  go_wp2
  go_ret
  exact ⟨_, rfl, Q5e (Qk8 w _ _ _ _ rfl rfl (by decide)) (by decide), Q5f _ _⟩
set_option maxRecDepth 100000 in
theorem Qsl (k : Int) (w : World) (hk : ¬ Lc k) :
  Calls Tryz.prog 62 #[.int .i64 k] w fun e w' => e = .returned (.slice none 0 0) ∧ w = w' := by
 obtain ⟨k1, k2, k3, k4, k5, k6, k7, k8, k9, k10, k11, k12, k13, k14, k15, k16, k17⟩ := Qdf hk
 clear hk
 go_enter Tryz.func62, Tryz.ntmps62
 go_wp2
 go_ret
 exact ⟨rfl, rfl⟩
set_option maxRecDepth 100000 in
set_option maxHeartbeats 1600000 in
theorem Qah (k : Int) (w : World) :
    Calls Tryz.prog 34 #[.int .i64 k] w fun e w' => e = .returned (.bool (Q1u k)) ∧ w.grownBy w' none := by
  by_cases hk : Lc k
  · have CU := Lib.hid (fun w => Qk9 k w hk)
    have hnn := fun a n c w => Qsk (P := Tryz.prog) Tryz.underlying22 a n c w
    rcases Qk5 hk with rfl | rfl | rfl | rfl | rfl | rfl | rfl | rfl | rfl | rfl | rfl | rfl | rfl | rfl | rfl | rfl | rfl
    all_goals
      clear hk
      go_enter Tryz.func34, Tryz.ntmps34
      go_wp2_with fail
      first
        | (go_ret; exact ⟨rfl, Gg _⟩)
        | (refine (CU.out _).mono ?_
           rintro e w1 ⟨a, rfl, -, g1⟩
           go_wp2
           go_ret
           exact ⟨rfl, g1⟩)
  · have CU := Lib.hid (fun w => Qsl k w hk)
    have hnn := fun w => Qk7 (P := Tryz.prog) Tryz.underlying22 w
    have HF : Hid (Q1u k = false) := by show _ = _; unfold Q1u; rw [decide_eq_false]; exact fun h => hk h.1
    obtain ⟨k1, k2, k3, k4, k5, k6, k7, k8, k9, k10, k11, k12, k13, k14, k15, k16, k17⟩ := Qdf hk
    clear hk
    go_enter Tryz.func34, Tryz.ntmps34
    go_wp2_with fail
    refine (CU.out _).mono ?_
    rintro e w1 ⟨rfl, rfl⟩
    go_wp2
    go_ret
    rw [HF.out]
    exact ⟨rfl, Gg _⟩
theorem HY {P : Program} {f : FuncId} {avs : List AV} {x y : Value} (he : Lj P f = true) (hx : Jm x = true) (hy : Jm y = true) (hn : avs.any AV.isRef = false) (h : ∀ A q w vs, AsR w A (fun _ => none) w.heap.size q avs vs.toList → Calls P f vs w fun e w' => e = .returned (.tuple #[x, y]) ∧ w.grownBy w' none) : Va P f avs [.c (.p (.v x)), .c (.p (.v y))] [] := by
 refine ⟨he, fun A gs g q w vs hA hinj hgs hg hR => ?_⟩
 obtain ⟨hg1, rfl⟩ := hg hn
 have e : gs = fun _ => none := funext hg1
 subst e
 refine (h A q w vs hR).mono ?_
 rintro _ w' ⟨rfl, hgr⟩
 exact ⟨_, A, fun _ => none, rfl, fun _ h => h, fun _ h => .inl h, hgr.size, fun y hy _ _ => hgr.block y hy (by simp), ⟨hgr.os, .kept fun y hy => hgr.block y hy (by simp)⟩, hgr.tape, hgr.output, fun n m y h => (by cases h), fun n y h => (by cases h), ⟨#[x, y], rfl, ⟨V3 hx, .v x hx, trivial⟩, ⟨V3 hy, .v y hy, trivial⟩, trivial⟩, fun h => by rw [hn] at h; cases h⟩
def CN (a : Int) : Prop := -9223372036854775808 ≤ a ∧ a ≤ 9223372036854775807
theorem Q6c {a : Int} (h : CN a) : Jm (.int .i64 a) = true := by
 unfold CN at h
 simp [Jm, Lit.wf, IntKind.min, IntKind.max, IntKind.signed, IntKind.bits]; omega
theorem PT {a b m : Int} (ha : CN a) (hb : CN b) (hm : CN m) : CN (AZ a b m) := by
 unfold CN at *; unfold AZ; split <;> omega
theorem Qka {a b m : Int} (hm : CN m) : CN (LC a b m) := by
 have hp : 0 ≤ max a 0 * max b 0 := Int.mul_nonneg (by omega) (by omega)
 unfold CN at *; unfold LC; split <;> omega
theorem Q1v {a b m : Int} {r : Int × Bool} (h : (CN a ∧ CN b ∧ CN m) ∧ r = (AZ a b m, Qsg a b m)) : Va Tryz.prog 58 [.c (.v (.int .i64 a)), .c (.v (.int .i64 b)), .c (.v (.int .i64 m))] [.c (.p (.v (.int .i64 (r.1)))), .c (.p (.v (.bool (r.2))))] [] := by
 obtain ⟨⟨ha, hb, hm⟩, rfl⟩ := h
 refine HY (by kernel_rfl) (Q6c (PT ha hb hm)) rfl rfl fun A q w vs hR => ?_
 rw [Nr (xs := [.int .i64 a, .int .i64 b, .int .i64 m]) hR]
 refine (Qsh a b m w ha hb hm).mono ?_
 rintro e w' ⟨rfl, rfl⟩
 exact ⟨rfl, Gg w⟩
theorem Q1w {a b m : Int} {r : Int × Bool} (h : (CN a ∧ CN b ∧ CN m) ∧ r = (LC a b m, Qk2 a b m)) : Va Tryz.prog 59 [.c (.v (.int .i64 a)), .c (.v (.int .i64 b)), .c (.v (.int .i64 m))] [.c (.p (.v (.int .i64 (r.1)))), .c (.p (.v (.bool (r.2))))] [] := by
 obtain ⟨⟨ha, hb, hm⟩, rfl⟩ := h
 refine HY (by kernel_rfl) (Q6c (Qka hm)) rfl rfl fun A q w vs hR => ?_
 rw [Nr (xs := [.int .i64 a, .int .i64 b, .int .i64 m]) hR]
 refine (Qk3 a b m w ha hb hm).mono ?_
 rintro e w' ⟨rfl, rfl⟩
 exact ⟨rfl, Gg w⟩
theorem IH {a0 : Int} {r : Bool} (h : r = Q1u a0) : Va Tryz.prog 34 [.c (.v (.int .i64 a0))] [.c (.p (.v (.bool r)))] [] := by
 subst h
 refine SE (by kernel_rfl) rfl rfl fun A q w vs hR => ?_
 rw [Nr (xs := [.int .i64 a0]) hR]
 exact Qah a0 w
end Go.Proofs.YtimfmcpbkdpmoaaGreat
