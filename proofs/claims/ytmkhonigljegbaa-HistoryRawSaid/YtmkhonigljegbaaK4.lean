/- Parts of the proof, laid together. No condition. -/
import Derived.Test.YtmkhonigljegbaaK3
import Derived.Deep.Slices
import Derived.ChangeArms
import Derived.Below
set_option linter.unusedVariables false
set_option linter.unusedSimpArgs false
namespace Go.Proofs.Ytmkhonigljegbaa
open Go.RowKit
inductive YF where
  | int (k : IntKind)
  | bool
  | str
  | sl (ts : List YF)
inductive PT : YF → PV → Prop where
  | int (k : IntKind) (a : Int) (h : (Lit.int k a).wf = true) : PT (.int k) (.v (.int k a))
  | bool (b : Bool) : PT .bool (.v (.bool b))
  | str (s : ByteArray) (h : s.size ≤ maxLen) : PT .str (.v (.string s))
  | sl (ts : List YF) (rows : List (List PV)) (h1 : ∀ r ∈ rows, r.length = ts.length) (h2 : ∀ r ∈ rows, ∀ (i : Nat) (d : YF) (p : PV), ts[i]? = some d → r[i]? = some p → PT d p) : PT (.sl ts) (.l ts.length rows)
def BO : List YF → List PV → Prop
  | [], [] => True
  | d :: ds, p :: ps => PT d p ∧ BO ds ps
  | _, _ => False
theorem CY : ∀ {ts : List YF} {r : List PV}, r.length = ts.length → (∀ (i : Nat) (d : YF) (p : PV), ts[i]? = some d → r[i]? = some p → PT d p) → BO ts r
  | [], [], _, _ => trivial
  | d :: ds, p :: ps, hl, h => ⟨h 0 d p rfl rfl, CY (by simpa using hl) fun i d' p' h1 h2 => h (i + 1) d' p' (by simpa using h1) (by simpa using h2)⟩
  | [], _ :: _, hl, _ => by simp at hl
  | _ :: _, [], hl, _ => by simp at hl
theorem pts_cons {d : YF} {ds : List YF} {ps : List PV} (h : BO (d :: ds) ps) : ∃ p ps', ps = p :: ps' ∧ PT d p ∧ BO ds ps' := by
  cases ps with
  | nil => exact h.elim
  | cons p ps => exact ⟨p, ps, rfl, h.1, h.2⟩
theorem Y2 {ps : List PV} (h : BO [] ps) : ps = [] := by
  cases ps with
  | nil => rfl
  | cons p ps => exact h.elim
theorem Zc {k : IntKind} {p : PV} (h : PT (.int k) p) : ∃ a, p = .v (.int k a) := by cases h with | int _ a _ => exact ⟨a, rfl⟩
theorem DW {p : PV} (h : PT .bool p) : ∃ b, p = .v (.bool b) := by cases h with | bool b => exact ⟨b, rfl⟩
theorem XC {p : PV} (h : PT .str p) : ∃ s, p = .v (.string s) := by cases h with | str s _ => exact ⟨s, rfl⟩
theorem Bf {α : Type} {f : α → List PV} : ∀ {rows : List (List PV)}, (∀ r ∈ rows, ∃ a, r = f a) → ∃ L : List α, rows = L.map f
  | [], _ => ⟨[], rfl⟩
  | r :: rows, h => by
    obtain ⟨a, ha⟩ := h r (by simp)
    obtain ⟨L, hL⟩ := Bf (f := f) (rows := rows) fun r hr => h r (by simp [hr])
    exact ⟨a :: L, by simp [ha, hL]⟩
theorem pt_sl {α : Type} {ts : List YF} {p : PV} {f : α → List PV} (h : PT (.sl ts) p) (hf : ∀ r, BO ts r → ∃ a, r = f a) : ∃ L : List α, p = .l ts.length (L.map f) := by
  cases h with
  | sl _ rows h1 h2 =>
    obtain ⟨L, hL⟩ := Bf (f := f) (rows := rows) fun r hr => hf r (CY (h1 r hr) (h2 r hr))
    exact ⟨L, by rw [hL]⟩
theorem YS (k : IntKind) {r : List PV} (h : BO [.int k] r) : ∃ a, r = eI k a := by
  obtain ⟨p, ps, rfl, h1, h2⟩ := pts_cons h
  obtain ⟨a, rfl⟩ := Zc h1
  exact ⟨a, by rw [Y2 h2]; rfl⟩
theorem Bg {r : List PV} (h : BO [.str] r) : ∃ a, r = eS a := by
  obtain ⟨p, ps, rfl, h1, h2⟩ := pts_cons h
  obtain ⟨a, rfl⟩ := XC h1
  exact ⟨a, by rw [Y2 h2]; rfl⟩
def XD (g : TypeId → Option (List YF)) (c : TypeId → Nat) : List Field → Nat → Option (List YF)
  | [], _ => some []
  | f :: fs, off => match g f.type with
    | some a => if f.offset = off ∧ c f.type = a.length then (match XD g c fs (off + a.length) with | some b => some (a ++ b) | none => none) else none
    | none => none
def XE (P : Program) : Nat → TypeId → Option (List YF)
  | 0, _ => none
  | n + 1, t => match P.underlying t with
    | some (.int k) => some [.int k]
    | some .bool => some [.bool]
    | some .string => some [.str]
    | some (.slice e) => match XE P n e with
      | some ts => if P.cellsOf e = ts.length ∧ 0 < ts.length then some [.sl ts] else none
      | none => none
    | some (.struct fs) => match XD (XE P n) P.cellsOf fs.toList 0 with
      | some ts => if P.cellsOf t = ts.length then some ts else none
      | none => none
    | _ => none
def Wr (w : World) (A : Nat → Prop) : List YF → List PV → List Value → Prop
  | [], [], [] => True
  | d :: ds, p :: ps, v :: vs => PT d p ∧ RP w A p v ∧ Wr w A ds ps vs
  | _, _, _ => False
section
variable {H : Type} {enc : TypeId × Value → H} {P : Program} {w : World} {A : Nat → Prop} {spare : Nat → Bool} {held : Bool}
theorem Wr.len : ∀ {ts : List YF} {ps : List PV} {cs : List Value}, Wr w A ts ps cs → ps.length = ts.length ∧ cs.length = ts.length
  | [], [], [], _ => ⟨rfl, rfl⟩
  | _ :: ts, _ :: ps, _ :: cs, h => by
    have := Wr.len h.2.2
    simp [this.1, this.2]
theorem Wr.pts : ∀ {ts : List YF} {ps : List PV} {cs : List Value}, Wr w A ts ps cs → BO ts ps
  | [], [], [], _ => trivial
  | _ :: ts, _ :: ps, _ :: cs, h => ⟨h.1, Wr.pts h.2.2⟩
theorem Wr.at : ∀ {ts : List YF} {ps : List PV} {cs : List Value}, Wr w A ts ps cs → ∀ (i : Nat) (d : YF) (p : PV), ts[i]? = some d → ps[i]? = some p → PT d p
  | _ :: ts, _ :: ps, _ :: cs, h, 0, d, p, h1, h2 => by
    simp at h1 h2
    rw [← h1, ← h2]; exact h.1
  | _ :: ts, _ :: ps, _ :: cs, h, i + 1, d, p, h1, h2 => Wr.at h.2.2 i d p (by simpa using h1) (by simpa using h2)
  | [], [], [], _, i, d, p, h1, _ => by simp at h1
theorem Wr.rp : ∀ {ts : List YF} {ps : List PV} {cs : List Value}, Wr w A ts ps cs → ∀ (i : Nat) (p : PV) (v : Value), ps[i]? = some p → cs[i]? = some v → RP w A p v
  | _ :: ts, _ :: ps, _ :: cs, h, 0, p, v, h1, h2 => by
    simp at h1 h2
    rw [← h1, ← h2]; exact h.2.1
  | _ :: ts, _ :: ps, _ :: cs, h, i + 1, p, v, h1, h2 => Wr.rp h.2.2 i p v (by simpa using h1) (by simpa using h2)
  | [], [], [], _, i, p, v, h1, _ => by simp at h1
theorem Wr.app : ∀ {ts ts' : List YF} {ps ps' : List PV} {cs cs' : List Value}, Wr w A ts ps cs → Wr w A ts' ps' cs' → Wr w A (ts ++ ts') (ps ++ ps') (cs ++ cs')
  | [], _, [], _, [], _, _, h' => h'
  | _ :: ts, _, _ :: ps, _, _ :: cs, _, h, h' => ⟨h.1, h.2.1, Wr.app h.2.2 h'⟩
theorem D1 {g : TypeId → Option (List YF)} {c : TypeId → Nat} {cs : List Value} : ∀ (fs : List Field) (off : Nat) (ts : List YF), XD g c fs off = some ts → cs.length = off + ts.length →
    (∀ f ∈ fs, ∀ a, g f.type = some a → c f.type = a.length → ∃ ps, Wr w A a ps ((cs.drop f.offset).take (c f.type))) → ∃ ps, Wr w A ts ps (cs.drop off)
  | [], off, ts, h, hl, _ => by
    simp only [XD, Option.some.injEq] at h
    subst h
    have : cs.drop off = [] := List.drop_eq_nil_of_le (by simpa using Nat.le_of_eq hl)
    rw [this]
    exact ⟨[], trivial⟩
  | f :: fs, off, ts, h, hl, hf => by
    unfold XD at h
    cases hg : g f.type with
    | none => simp [hg] at h
    | some a =>
      rw [hg] at h
      simp only at h
      by_cases hc : f.offset = off ∧ c f.type = a.length
      · rw [if_pos hc] at h
        cases hb : XD g c fs (off + a.length) with
        | none => simp [hb] at h
        | some b =>
          rw [hb] at h
          simp only [Option.some.injEq] at h
          subst h
          obtain ⟨pa, ha⟩ := hf f (by simp) a hg hc.2
          obtain ⟨pb, hb'⟩ := D1 fs (off + a.length) b hb (by simp at hl; omega) (fun f' h' => hf f' (by simp [h']))
          rw [hc.1, hc.2] at ha
          have := Wr.app ha hb'
          rw [← List.drop_drop, List.take_append_drop] at this
          exact ⟨_, this⟩
      · rw [if_neg hc] at h; cases h
theorem DX {a : Addr} {v : Value} (h : w.cell? a = some v) : a = ⟨a.block, a.off, none⟩ ∧ a.block < w.heap.size := by
  have hs := World.cell?_spot h
  refine ⟨by cases a; simp_all, ?_⟩
  unfold World.cell? at h
  rcases Nat.lt_or_ge a.block w.heap.size with hl | hl
  · exact hl
  · rw [Array.getElem?_eq_none hl] at h; simp at h
theorem open_flat (hA : ∀ g, g < w.heap.size → A g) : ∀ (n : Nat) (t : TypeId) (ts : List YF) (fuel : Nat) (cs : List Value) (x : DataW H × List MemPlace), XE P n t = some ts → DataW.trod enc P w 0 spare held fuel t cs = some x → ∃ ps, Wr w A ts ps cs
  | 0, _, _, _, _, _, h, _ => by simp [XE] at h
  | n + 1, t, ts, fuel, cs, x, h, ht => by
    unfold XE at h
    cases hu : P.underlying t with
    | none => simp [hu] at h
    | some d =>
      rw [hu] at h
      cases d with
      | int k =>
        simp only [Option.some.injEq] at h
        subst h
        obtain ⟨a, rfl, _, hw⟩ := DataW.trod_int hu ht
        exact ⟨[.v (.int k a)], .int k a hw, .v _ hw, trivial⟩
      | bool =>
        simp only [Option.some.injEq] at h
        subst h
        obtain ⟨b, rfl, _⟩ := DataW.trod_bool hu ht
        exact ⟨[.v (.bool b)], .bool b, .v _ rfl, trivial⟩
      | string =>
        simp only [Option.some.injEq] at h
        subst h
        obtain ⟨s, rfl, _, hs⟩ := DataW.trod_string hu ht
        exact ⟨[.v (.string s)], .str s hs, .v _ (by simpa [Kv] using hs), trivial⟩
      | struct fs =>
        simp only at h
        cases hfl : XD (XE P n) P.cellsOf fs.toList 0 with
        | none => simp [hfl] at h
        | some ts' =>
          rw [hfl] at h
          simp only at h
          by_cases hc : P.cellsOf t = ts'.length
          · rw [if_pos hc] at h
            simp only [Option.some.injEq] at h
            subst h
            obtain ⟨xs, k, _, _, hl, hxl, hf⟩ := DataW.trod_struct hu ht
            have := D1 (w := w) (A := A) (cs := cs) fs.toList 0 ts' hfl (by omega) (fun f hm a ha hca => by
              obtain ⟨i, hi, hfi⟩ := List.getElem_of_mem hm
              have hi' : i < fs.size := by simpa using hi
              have e := hf i f (by rw [Array.getElem?_eq_getElem hi']; simpa using hfi)
              rw [List.getElem?_eq_getElem (by omega)] at e
              exact open_flat hA n f.type a k _ _ ha e)
            simpa using this
          · rw [if_neg hc] at h; cases h
      | slice e =>
        simp only at h
        cases hfl : XE P n e with
        | none => simp [hfl] at h
        | some ts' =>
          rw [hfl] at h
          simp only at h
          by_cases hc : P.cellsOf e = ts'.length ∧ 0 < ts'.length
          · rw [if_pos hc] at h
            simp only [Option.some.injEq] at h
            subst h
            rcases Go.Deep.open_slice hu ht with ⟨rfl, _⟩ | ⟨a, len, cap, m, k, D, Pl, rfl, hb, hl, hm, hmm, hx, hel⟩
            · exact ⟨[.l ts'.length []], .sl _ [] (by simp) (by simp), RP.l _ [] none 0 (fun _ _ => .bool false) (by simp) (by simp) (by simp) (.inl rfl) (by simp), trivial⟩
            · have hlm : len ≤ m := by rw [hmm]; split <;> omega
              have each : ∀ i, i < len → ∃ q : List PV × List Value, w.cells? 0 (a.add (i * ts'.length)) ts'.length = some q.2 ∧ Wr w A ts' q.1 q.2 := by
                intro i hi
                obtain ⟨cs', h1, h2⟩ := hel i (by omega)
                rw [hc.1] at h1
                obtain ⟨ps, hp⟩ := open_flat hA n e ts' k cs' _ hfl h2
                exact ⟨(ps, cs'), h1, hp⟩
              obtain ⟨q, hq⟩ := Go.Deep.choose_lt each
              have hrow : ∀ i r, ((List.range len).map fun i => (q i).1)[i]? = some r → i < len ∧ r = (q i).1 := by
                intro i r hr
                rw [List.getElem?_map] at hr
                by_cases hi : i < len
                · rw [List.getElem?_range hi] at hr
                  simp at hr
                  exact ⟨hi, hr.symm⟩
                · rw [List.getElem?_eq_none (by simpa using hi)] at hr
                  simp at hr
              have hmem : ∀ r ∈ (List.range len).map (fun i => (q i).1), ∃ i, i < len ∧ r = (q i).1 := by
                intro r hr
                obtain ⟨i, hi, he⟩ := List.mem_map.1 hr
                exact ⟨i, by simpa using hi, he.symm⟩
              have hcell : ∀ i, i < len → ∀ j, j < ts'.length → w.cell? (a.add (i * ts'.length + j)) = (q i).2[j]? := by
                intro i hi j hj
                have := (World.cells?_some (hq i hi).1).2.2 j hj
                rwa [Go.Deep.add_add] at this
              have key := RP.l (w := w) (A := A) ts'.length ((List.range len).map fun i => (q i).1) (some a) cap (fun i k => ((q i).2).getD k (.bool false)) (by simpa using hl) hm
                (fun r hr => by obtain ⟨i, hi, rfl⟩ := hmem r hr; exact (hq i hi).2.len.1) ?_ ?_
              · refine ⟨[.l ts'.length ((List.range len).map fun i => (q i).1)], .sl _ _ ?_ ?_, ?_, trivial⟩
                · intro r hr; obtain ⟨i, hi, rfl⟩ := hmem r hr; exact (hq i hi).2.len.1
                · intro r hr; obtain ⟨i, hi, rfl⟩ := hmem r hr; exact (hq i hi).2.at
                · simpa using key
              · by_cases h0 : len = 0
                · left; subst h0; rfl
                right
                have c0 := hcell 0 (by omega) 0 hc.2
                have l0 := (hq 0 (by omega)).2.len.2
                rw [List.getElem?_eq_getElem (by omega)] at c0
                have ea : a.add (0 * ts'.length + 0) = a := by simp [Addr.add]
                rw [ea] at c0
                obtain ⟨hp, hlt⟩ := DX c0
                refine ⟨a.block, a.off, by rw [← hp], hA _ hlt, hlt, fun i r k' p hi hk => ?_⟩
                obtain ⟨hi', rfl⟩ := hrow i r hi
                have hk' : k' < ts'.length := by
                  have := (List.getElem?_eq_some_iff.1 hk).1
                  rw [(hq i hi').2.len.1] at this; exact this
                have e1 := hcell i hi' k' hk'
                have l2 := (hq i hi').2.len.2
                rw [List.getElem?_eq_getElem (by omega)] at e1
                have e2 : a.add (i * ts'.length + k') = ⟨a.block, a.off + i * ts'.length + k', none⟩ := by
                  have hs : a.spot = none := by rw [hp]
                  have hgen : ∀ (b : Addr) (n : Nat), b.spot = none → b.add n = ⟨b.block, b.off + n, none⟩ := by
                    intro b n h
                    cases b with
                    | mk x y z =>
                      simp only at h; subst h; unfold Addr.add
                      by_cases h0 : n = 0
                      · rw [if_pos h0, h0]; rfl
                      · rw [if_neg h0]
                  rw [hgen a _ hs, Nat.add_assoc]
                rw [e2] at e1
                rw [e1]; simp [List.getD, l2, hk']
              · intro i r k' p hi hk
                obtain ⟨hi', rfl⟩ := hrow i r hi
                have hk' : k' < (q i).1.length := (List.getElem?_eq_some_iff.1 hk).1
                have l1 := (hq i hi').2.len.1
                have l2 := (hq i hi').2.len.2
                refine (hq i hi').2.rp k' p _ hk ?_
                simp [List.getD, show k' < (q i).2.length by omega]
          · rw [if_neg hc] at h; cases h
      | _ => simp at h
end
def YG : List YF := [.str, .int .i64]
theorem Uw {ps : List PV} (h : BO YG ps) : ∃ x : Qv, ps = KI x := by
  unfold YG at h
  obtain ⟨p0, q0, rfl, h0, g0⟩ := pts_cons h
  obtain ⟨a0, rfl⟩ := XC h0
  obtain ⟨p1, q1, rfl, h1, g1⟩ := pts_cons g0
  obtain ⟨a1, rfl⟩ := Zc h1
  obtain rfl := Y2 g1
  exact ⟨⟨a0, a1⟩, rfl⟩
def Y3 : List YF := [.str, .int .i64, .int .i64]
theorem WM {ps : List PV} (h : BO Y3 ps) : ∃ x : Qx, ps = ZZ x := by
  unfold Y3 at h
  obtain ⟨p0, q0, rfl, h0, g0⟩ := pts_cons h
  obtain ⟨a0, rfl⟩ := XC h0
  obtain ⟨p1, q1, rfl, h1, g1⟩ := pts_cons g0
  obtain ⟨a1, rfl⟩ := Zc h1
  obtain ⟨p2, q2, rfl, h2, g2⟩ := pts_cons g1
  obtain ⟨a2, rfl⟩ := Zc h2
  obtain rfl := Y2 g2
  exact ⟨⟨a0, a1, a2⟩, rfl⟩
def ts_api_Record : List YF := [.int .i64, .int .i64, .str, .str, .sl [.str], .int .i64, .int .i64, .int .i64, .int .u64, .sl [.str, .int .i64], .sl [.int .u8], .int .i64, .int .i64, .int .i64, .int .i64, .int .i64, .int .i64, .int .i64, .str, .int .i64, .int .i64, .int .i64, .sl [.int .u8], .int .i64, .int .i64, .int .i64, .int .i64, .int .i64, .int .i64, .int .i64, .sl [.str], .int .i64, .int .i64, .str, .sl [.int .i64], .sl [.str, .int .i64, .int .i64], .bool, .sl [.int .u8]]
theorem inv_api_Record {ps : List PV} (h : BO ts_api_Record ps) : ∃ x : Q4, ps = e_api_Record x := by
  unfold ts_api_Record at h
  obtain ⟨p0, q0, rfl, h0, g0⟩ := pts_cons h
  obtain ⟨a0, rfl⟩ := Zc h0
  obtain ⟨p1, q1, rfl, h1, g1⟩ := pts_cons g0
  obtain ⟨a1, rfl⟩ := Zc h1
  obtain ⟨p2, q2, rfl, h2, g2⟩ := pts_cons g1
  obtain ⟨a2, rfl⟩ := XC h2
  obtain ⟨p3, q3, rfl, h3, g3⟩ := pts_cons g2
  obtain ⟨a3, rfl⟩ := XC h3
  obtain ⟨p4, q4, rfl, h4, g4⟩ := pts_cons g3
  obtain ⟨a4, rfl⟩ := pt_sl h4 (fun r hr => Bg hr)
  obtain ⟨p5, q5, rfl, h5, g5⟩ := pts_cons g4
  obtain ⟨a5, rfl⟩ := Zc h5
  obtain ⟨p6, q6, rfl, h6, g6⟩ := pts_cons g5
  obtain ⟨a6, rfl⟩ := Zc h6
  obtain ⟨p7, q7, rfl, h7, g7⟩ := pts_cons g6
  obtain ⟨a7, rfl⟩ := Zc h7
  obtain ⟨p8, q8, rfl, h8, g8⟩ := pts_cons g7
  obtain ⟨a8, rfl⟩ := Zc h8
  obtain ⟨p9, q9, rfl, h9, g9⟩ := pts_cons g8
  obtain ⟨a9, rfl⟩ := pt_sl h9 (fun r hr => Uw hr)
  obtain ⟨p10, q10, rfl, h10, g10⟩ := pts_cons g9
  obtain ⟨a10, rfl⟩ := pt_sl h10 (fun r hr => YS .u8 hr)
  obtain ⟨p11, q11, rfl, h11, g11⟩ := pts_cons g10
  obtain ⟨a11, rfl⟩ := Zc h11
  obtain ⟨p12, q12, rfl, h12, g12⟩ := pts_cons g11
  obtain ⟨a12, rfl⟩ := Zc h12
  obtain ⟨p13, q13, rfl, h13, g13⟩ := pts_cons g12
  obtain ⟨a13, rfl⟩ := Zc h13
  obtain ⟨p14, q14, rfl, h14, g14⟩ := pts_cons g13
  obtain ⟨a14, rfl⟩ := Zc h14
  obtain ⟨p15, q15, rfl, h15, g15⟩ := pts_cons g14
  obtain ⟨a15, rfl⟩ := Zc h15
  obtain ⟨p16, q16, rfl, h16, g16⟩ := pts_cons g15
  obtain ⟨a16, rfl⟩ := Zc h16
  obtain ⟨p17, q17, rfl, h17, g17⟩ := pts_cons g16
  obtain ⟨a17, rfl⟩ := Zc h17
  obtain ⟨p18, q18, rfl, h18, g18⟩ := pts_cons g17
  obtain ⟨a18, rfl⟩ := XC h18
  obtain ⟨p19, q19, rfl, h19, g19⟩ := pts_cons g18
  obtain ⟨a19, rfl⟩ := Zc h19
  obtain ⟨p20, q20, rfl, h20, g20⟩ := pts_cons g19
  obtain ⟨a20, rfl⟩ := Zc h20
  obtain ⟨p21, q21, rfl, h21, g21⟩ := pts_cons g20
  obtain ⟨a21, rfl⟩ := Zc h21
  obtain ⟨p22, q22, rfl, h22, g22⟩ := pts_cons g21
  obtain ⟨a22, rfl⟩ := pt_sl h22 (fun r hr => YS .u8 hr)
  obtain ⟨p23, q23, rfl, h23, g23⟩ := pts_cons g22
  obtain ⟨a23, rfl⟩ := Zc h23
  obtain ⟨p24, q24, rfl, h24, g24⟩ := pts_cons g23
  obtain ⟨a24, rfl⟩ := Zc h24
  obtain ⟨p25, q25, rfl, h25, g25⟩ := pts_cons g24
  obtain ⟨a25, rfl⟩ := Zc h25
  obtain ⟨p26, q26, rfl, h26, g26⟩ := pts_cons g25
  obtain ⟨a26, rfl⟩ := Zc h26
  obtain ⟨p27, q27, rfl, h27, g27⟩ := pts_cons g26
  obtain ⟨a27, rfl⟩ := Zc h27
  obtain ⟨p28, q28, rfl, h28, g28⟩ := pts_cons g27
  obtain ⟨a28, rfl⟩ := Zc h28
  obtain ⟨p29, q29, rfl, h29, g29⟩ := pts_cons g28
  obtain ⟨a29, rfl⟩ := Zc h29
  obtain ⟨p30, q30, rfl, h30, g30⟩ := pts_cons g29
  obtain ⟨a30, rfl⟩ := pt_sl h30 (fun r hr => Bg hr)
  obtain ⟨p31, q31, rfl, h31, g31⟩ := pts_cons g30
  obtain ⟨a31, rfl⟩ := Zc h31
  obtain ⟨p32, q32, rfl, h32, g32⟩ := pts_cons g31
  obtain ⟨a32, rfl⟩ := Zc h32
  obtain ⟨p33, q33, rfl, h33, g33⟩ := pts_cons g32
  obtain ⟨a33, rfl⟩ := XC h33
  obtain ⟨p34, q34, rfl, h34, g34⟩ := pts_cons g33
  obtain ⟨a34, rfl⟩ := pt_sl h34 (fun r hr => YS .i64 hr)
  obtain ⟨p35, q35, rfl, h35, g35⟩ := pts_cons g34
  obtain ⟨a35, rfl⟩ := pt_sl h35 (fun r hr => WM hr)
  obtain ⟨p36, q36, rfl, h36, g36⟩ := pts_cons g35
  obtain ⟨a36, rfl⟩ := DW h36
  obtain ⟨p37, q37, rfl, h37, g37⟩ := pts_cons g36
  obtain ⟨a37, rfl⟩ := pt_sl h37 (fun r hr => YS .u8 hr)
  obtain rfl := Y2 g37
  exact ⟨⟨a0, ⟨a1, a2, a3, a4, ⟨a5, a6, a7, a8⟩, a9, a10, a11, a12, a13, a14, a15, a16, ⟨a17, a18, a19, a20, a21⟩, a22⟩, a23, a24, a25, ⟨a26, a27, a28, a29, a30, ⟨a31, a32, a33, a34, a35, a36⟩, a37⟩⟩, rfl⟩
theorem HistoryRaw_walk (v0 : Value) (L0 : List Q4) (v1 : Value) (l1 : List Int) (w : World) (c0 : RP w (fun g => g < w.heap.size) (.l 38 (L0.map e_api_Record)) v0) (h1 : Ints .i64 w v1 l1) (s1 : l1.length * Try.prog.bytesOf 3 ≤ 140737488351232) :
    Calls Try.prog 3 #[v0, v1] w fun e w' => e = .returned (.bool true) ∧ Below w.heap.size w w' := by
  refine (JO (A := fun x => x < w.heap.size) (vs := #[v0, v1]) (g := 0) (q := 0) (Xw L0 l1 true (XB L0 l1)) rfl (fun x h => h) ⟨c0, Ap h1 (fun _ _ _ g _ _ hg => hg), trivial⟩).mono ?_
  rintro e w' ⟨rfl, hg⟩
  exact ⟨rfl, YU hg⟩
end Go.Proofs.Ytmkhonigljegbaa
