/- Parts of the proof, laid together. No condition. -/
import Derived.Test.YtpnpodbihdiegaaGreatC6
import Derived.Below
set_option linter.unusedVariables false
set_option linter.unusedSimpArgs false
namespace Go.Proofs.YtpnpodbihdiegaaGreat
open Go.RowKit
set_option maxRecDepth 100000
set_option maxHeartbeats 4000000
section
variable {E : En} {N : Nat} {P : Program} {ops : Array Oper} {st : St} {d : Nat} {ty : Nat} {pos : String} {af : Array Edge} {gd : Option (Nat × Bool)}
theorem GE [T : Tb P] {α : Type} {f : α → List PV} {L : List α} {x y : Operand} {t el e : Nat} {v : Value} {g n c : Nat} {b : QZ} {mu : Bool} {k : IntKind} {m : Int} {tt te : TE} (hp : E.pin b = some (g, 0)) (hpi : GJ b) (hv : v = .slice (some ⟨g, 0, none⟩) n c) (hm : 0 ≤ m ∧ m < n)
    (h1 : st.ev x = .c (.p (.o v))) (hb : st.h b = some (.row e (L.map f) mu)) (h2 : st.ev y = .c (.p (.v (.int k m)))) (ht : ZC T.ty t = some tt) (hk : tt.kd = .slice el) (hel : ZC T.ty el = some te) (he : te.size = e) (hx : Zu x = true) (hy : Zu y = true) :
    KB E N P ops ⟨some d, .indexAddr t x y, ty, pos, af, gd⟩ st ⟨[b], []⟩ ⟨.c (.ptr b m.toNat 0), []⟩ :=
  Ze fun st' cx a w ha hr => by
    obtain ⟨e2, w2⟩ := BE h2 hy ha (by simp [Op.operands]) hr
    obtain ⟨-, h4⟩ := FH h1 hx ha (by simp [Op.operands]) hr
    have h5 : a.eval x = v := by
      revert h4
      generalize a.eval x = z
      intro h4
      cases h4 with | o _ _ => rfl
    have hmn : (m.toNat : Int) = m := by omega
    have hrun := WC (g := g) (q := 0) (cap := c) (k := k) (w := w) ht hk hel (show m.toNat < n by omega)
    rw [hmn] at hrun
    refine ⟨.pointer (some ⟨g, 0 + m.toNat * te.size, none⟩), ?_, .inr rfl, fun bk hbk => ⟨g, 0, (hr.pin b hpi).trans hp, ?_⟩⟩
    · simp only [execOp, h5, hv, e2, Sem.run_bind, hrun, Result.andThen_ok, Sem.run_pure]
    · rw [ha.2 b (by simp)] at hbk
      rw [hb] at hbk
      cases hbk
      simp [Bk.e, he]
end
noncomputable abbrev nM : Nat := Tryz.f6.ntmps
noncomputable def R3 (id : Nat) : Option (Array Oper) := Tryz.f6.body.bind (BR id)
def sR (l : List Int) (i k : Int) (ts : List Qg) : St := ⟨[(1, .c (.p (.l 1 (List.map (eI .i64) l)))), (5, .c (.sl (5, 1000) 0 (XD ts))), (7, .c (.p (.v (.int .i64 i)))), (8, .c (.p (.v (.int .i64 k))))], [((5, 1000), some (Ye ts))]⟩
section
variable {E : En} {l : List Int} {i k : Int} {ts : List Qg} {x : Qg} {y : Int}
theorem b3 (z : Int) : 0 ≤ QM .i64 z 3 ∧ QM .i64 z 3 < 4 := by
  rw [PQ]; omega
theorem R4 {R : Array Oper} (hR : R3 11 = some R) (hx : ix ts k x) (hy : ix l i y) {g cp : Nat} {S : List Qx} (hv : x.f7 = .slice (some ⟨g, 0, none⟩) 4 cp) (hS : S.length = 4) (hG : GdS S) (hp : E.pin Jf = some (g, 0)) :
    AW E nM Tryz.prog (.region 11 R true) (fun e s => e = .normal ∧ ∃ S', S'.length = 4 ∧ GdS S' ∧ s = ⟨(sR l i k ts).fr, (Jf, some (.row 3 (List.map QF S') true)) :: (sR l i k ts).H⟩) ⟨(sR l i k ts).fr, (Jf, some (.row 3 (List.map QF S) true)) :: (sR l i k ts).H⟩ := by
  cases hR
  obtain ⟨j0, j1⟩ := b3 (QH .i64 y 3)
  have hjl : (QM .i64 (QH .i64 y 3) 3).toNat < S.length := by omega
  obtain ⟨s0, hs0⟩ : ∃ s0, S[(QM .i64 (QH .i64 y 3) 3).toNat]? = some s0 := ⟨_, List.getElem?_eq_getElem hjl⟩
  refine Ad (Q := fun e s => e = .normal ∧ QB s ⟨(sR l i k ts).fr, (Jf, some (.row 3 (List.map QF (S.set (QM .i64 (QH .i64 y 3) 3).toNat (Qx.mk true i [(⟨#[97]⟩ : ByteArray)]))) true)) :: (sR l i k ts).H⟩) (dl mixed (fun L hL => ?_)) ?_
  · refine dN 2 rfl ?_
    refine u0 (QU hx rfl rfl rfl) ?_
    refine dN 1 rfl ?_
    refine u0 (QW (i := k.toNat) rfl rfl (gm hx.2)) ?_
    refine dN 2 rfl ?_
    refine u0 (QC hy) ?_
    refine dN 4 rfl ?_
    refine ul (QD (rows := List.map eS [(⟨#[97]⟩ : ByteArray)])) ?_
    refine dN 1 rfl ?_
    refine u0 (GE (b := Jf) hp (.inr (Nat.le_refl _)) hv ⟨j0, j1⟩ rfl rfl rfl rfl rfl rfl rfl rfl rfl) ?_
    refine AP rfl (ZD (b := (69, 0)) rfl rfl (Kc (x1 := Qx.mk true i [(⟨#[97]⟩ : ByteArray)]) hs0 rfl rfl rfl rfl (.cons (.k _) (.cons (.k _) (.cons (.fr rfl (QG rfl)) .nil))))) ?_
    exact rd (hL _ ⟨rfl, QB.fit⟩)
  · rintro e s ⟨rfl, hs⟩
    refine ⟨_, hs, rfl, S.set (QM .i64 (QH .i64 y 3) 3).toNat (Qx.mk true i [(⟨#[97]⟩ : ByteArray)]), by simp [hS], ?_, rfl⟩
    intro s hs
    rcases List.mem_or_eq_of_mem_set hs with h | h
    · exact hG s h
    · rw [h]; simp
theorem R5 {R : Array Oper} (hR : R3 12 = some R) (hx : ix ts k x) (hy : ix l i y) {g cp : Nat} {S : List QI} (hv : x.fa5 = .slice (some ⟨g, 0, none⟩) 4 cp) (hS : S.length = 4) (hp : E.pin Jf = some (g, 0)) :
    AW E nM Tryz.prog (.region 12 R true) (fun e s => e = .normal ∧ ∃ S', S'.length = 4 ∧ s = ⟨(sR l i k ts).fr, (Jf, some (.row 4 (List.map QY S') true)) :: (sR l i k ts).H⟩) ⟨(sR l i k ts).fr, (Jf, some (.row 4 (List.map QY S) true)) :: (sR l i k ts).H⟩ := by
  cases hR
  obtain ⟨j0, j1⟩ := b3 (QH .i64 y 5)
  have hjl : (QM .i64 (QH .i64 y 5) 3).toNat < S.length := by omega
  obtain ⟨s0, hs0⟩ : ∃ s0, S[(QM .i64 (QH .i64 y 5) 3).toNat]? = some s0 := ⟨_, List.getElem?_eq_getElem hjl⟩
  refine Ad (Q := fun e s => e = .normal ∧ QB s ⟨(sR l i k ts).fr, (Jf, some (.row 4 (List.map QY (S.set (QM .i64 (QH .i64 y 5) 3).toNat (QI.mk true i (⟨#[98]⟩ : ByteArray) 2))) true)) :: (sR l i k ts).H⟩) (dl mixed (fun L hL => ?_)) ?_
  · refine dN 2 rfl ?_
    refine u0 (QU hx rfl rfl rfl) ?_
    refine dN 1 rfl ?_
    refine u0 (QW (i := k.toNat) rfl rfl (gm hx.2)) ?_
    refine dN 2 rfl ?_
    refine u0 (QC hy) ?_
    refine dN 5 rfl ?_
    refine u0 (GE (b := Jf) hp (.inr (Nat.le_refl _)) hv ⟨j0, j1⟩ rfl rfl rfl rfl rfl rfl rfl rfl rfl) ?_
    refine un (Zg (x1 := QI.mk true i (⟨#[98]⟩ : ByteArray) 2) hs0) ?_
    exact rd (hL _ ⟨rfl, QB.fit⟩)
  · rintro e s ⟨rfl, hs⟩
    exact ⟨_, hs, rfl, S.set (QM .i64 (QH .i64 y 5) 3).toNat (QI.mk true i (⟨#[98]⟩ : ByteArray) 2), by simp [hS], rfl⟩
end
theorem WT (l : List Int) (i : Int) (hl : l.length ≤ 4611686018427387904) (h0 : 0 ≤ i) (h1 : i ≤ 1000) : ∃ v, VU l i v ∧ 0 ≤ v ∧ v ≤ 66600 := by
  unfold VU Dy
  simp only [LX]
  by_cases hz : l.length = 0
  · refine ⟨i % 65536, ⟨fun _ => rfl, fun h => ?_⟩, by omega, by omega⟩
    simp [hz] at h
  · have hp : (0 : Int) < l.length := by omega
    have e : i.tmod (l.length : Int) = i % l.length := Jc h0
    have e1 : 0 ≤ i % (l.length : Int) := Int.emod_nonneg _ (by omega)
    have e2 : i % (l.length : Int) < l.length := Int.emod_lt_of_pos _ hp
    obtain ⟨v, hv, _⟩ := Jd (l := l) (n := i % l.length) e1 e2
    have t1 : i.tdiv (l.length : Int) = i / l.length := Int.tdiv_eq_ediv_of_nonneg h0
    have t2 : 0 ≤ i / (l.length : Int) := Int.ediv_nonneg h0 (by omega)
    have t3 : i / (l.length : Int) ≤ i := Int.ediv_le_self _ h0
    have w1 : IntKind.i64.wrap (i / (l.length : Int)) = i / l.length := Zr (by omega)
    have w2 : IntKind.i64.wrap (v % 65536 + i / (l.length : Int)) = v % 65536 + i / l.length := Zr (by omega)
    refine ⟨v % 65536 + i / l.length, ⟨fun h => ?_, fun _ => ⟨by omega, v, by rw [e]; exact hv, by omega, by rw [t1, w1, w2]⟩⟩, by omega, by omega⟩
    simp at h; exact absurd h (by intro e; rw [e] at hz; exact hz rfl)
theorem Um (a : Int) : ∃ s, Zv a s ∧ Da s = true := by
  unfold Zv AQ
  rw [Fz, Jc (by omega)]
  have h3 : a % 16777216 % 3 = 0 ∨ a % 16777216 % 3 = 1 ∨ a % 16777216 % 3 = 2 := by omega
  rcases h3 with h | h | h <;> rw [h]
  · exact ⟨⟨#[97]⟩, ⟨_, ⟨by decide, rfl⟩, rfl⟩, by decide⟩
  · exact ⟨⟨#[98]⟩, ⟨_, ⟨by decide, rfl⟩, rfl⟩, by decide⟩
  · exact ⟨⟨#[99]⟩, ⟨_, ⟨by decide, rfl⟩, rfl⟩, by decide⟩
def Ge (p : Q9) : Prop :=
  (p.fk = 1 ∧ p.fg = 0 ∧ p.fu = 0 ∧ p.fw = 0) ∨ (p.fk = 2 ∧ 1 ≤ p.fg ∧ p.fg ≤ 4 ∧ 1 ≤ p.fu ∧ p.fu ≤ 2 ∧ 0 ≤ p.fw ∧ p.fw ≤ 3)
  ∨ (p.fk = 3 ∧ 2 ≤ p.fg ∧ p.fg ≤ 3 ∧ p.fu = 0 ∧ 0 ≤ p.fw ∧ p.fw ≤ 3) ∨ ((p.fk = 4 ∨ p.fk = 5) ∧ 1 ≤ p.fg ∧ p.fg ≤ 4 ∧ p.fu = 0 ∧ p.fw = 0)
  ∨ (p.fk = 6 ∧ (p.fg = 2 ∨ p.fg = 4) ∧ p.fu = 0 ∧ p.fw = 0)
theorem Mv {p : Q9} (h : Ge p) : U8 p.fk p.fg p.fu p.fw = 0 := by
  unfold Ge at h; unfold U8
  grind
theorem BS (a : Int) : ∃ p, VV a p ∧ Ge p := by
  unfold VV Up
  simp only [bA1, PQ]
  generalize QH .i64 a 3 = s3; generalize QH .i64 a 4 = s4; generalize QH .i64 a 8 = s8
  have w1 : IntKind.i64.wrap (1 + s4 % 4) = 1 + s4 % 4 := Zr (by omega)
  have w2 : IntKind.i64.wrap (1 + s3 % 2) = 1 + s3 % 2 := Zr (by omega)
  have w3 : IntKind.u64.wrap (s8 % 4) = s8 % 4 := BQ (by omega)
  have w4 : IntKind.i64.wrap (2 + s3 % 2) = 2 + s3 % 2 := Zr (by omega)
  have w5 : IntKind.i64.wrap (1 + s3 % 4) = 1 + s3 % 4 := Zr (by omega)
  have w6 : IntKind.i64.wrap (2 * (s3 % 2)) = 2 * (s3 % 2) := Zr (by omega)
  have w7 : IntKind.i64.wrap (2 + 2 * (s3 % 2)) = 2 + 2 * (s3 % 2) := Zr (by omega)
  simp only [w1, w2, w3, w4, w5, w6, w7]
  generalize a.tmod 6 = k
  by_cases k0 : k = 0
  · refine ⟨⟨1, 0, 0, 0⟩, ?_, by simp [Ge]⟩; simp [k0]
  by_cases k1 : k = 1
  · refine ⟨⟨2, 1 + s4 % 4, 1 + s3 % 2, s8 % 4⟩, ?_, by simp [Ge]; omega⟩; simp [k1]
  by_cases k2 : k = 2
  · refine ⟨⟨3, 2 + s3 % 2, 0, s8 % 4⟩, ?_, by simp [Ge]; omega⟩; simp [k2]
  by_cases k3 : k = 3
  · refine ⟨⟨4, 1 + s3 % 4, 0, 0⟩, ?_, by simp [Ge]; omega⟩; simp [k3]
  by_cases k4 : k = 4
  · refine ⟨⟨5, 1 + s3 % 4, 0, 0⟩, ?_, by simp [Ge]; omega⟩; simp [k4]
  refine ⟨⟨6, 2 + 2 * (s3 % 2), 0, 0⟩, ?_, by simp [Ge]; omega⟩
  simp [k0, k1, k2, k3, k4]
theorem Cu (a : Int) : ∃ s, Xo a s ∧ 1 ≤ s.size ∧ s.size ≤ 32 := by
  unfold Xo C5
  simp only [bA15, bA255, List.length_cons, List.length_nil]
  generalize hs : QH .i64 a 8 % 16 = k
  by_cases hk : k = 15
  · refine ⟨_, ⟨fun _ => rfl, fun h => by simp [hk] at h⟩, ?_⟩
    rw [FA]; simp
  · have e : (a % 256).tmod ((0 + 1 + 1 + 1 + 1 + 1 + 1 + 1 + 1 + 1 + 1 + 1 + 1 : Nat) : Int) = a % 256 % 12 := Jc (by omega)
    rw [e]
    have hall : ∀ x ∈ ([⟨#[97]⟩, ⟨#[98]⟩, ⟨#[99]⟩, ⟨#[100]⟩, ⟨#[101]⟩, ⟨#[102]⟩, ⟨#[97, 97]⟩, ⟨#[98, 32, 99]⟩, ⟨#[37, 54, 49]⟩, ⟨#[65, 58, 49]⟩, ⟨#[0]⟩, ⟨#[122, 47, 255]⟩] : List ByteArray), 1 ≤ x.size ∧ x.size ≤ 32 := by decide
    obtain ⟨x, hx, hg⟩ := Jd (l := ([⟨#[97]⟩, ⟨#[98]⟩, ⟨#[99]⟩, ⟨#[100]⟩, ⟨#[101]⟩, ⟨#[102]⟩, ⟨#[97, 97]⟩, ⟨#[98, 32, 99]⟩, ⟨#[37, 54, 49]⟩, ⟨#[65, 58, 49]⟩, ⟨#[0]⟩, ⟨#[122, 47, 255]⟩] : List ByteArray)) (n := a % 256 % 12) (by omega) (by simp; omega)
    exact ⟨x, ⟨fun h => by simp at h; exact absurd h hk, fun _ => ⟨by decide, x, hx, rfl⟩⟩, hall x (List.mem_of_getElem? hg)⟩
theorem Dh (a : Int) : ∃ q, VC a q ∧ AB q.fk q.fa4 q.fv q.fb9 q.fb8 = 0 := by
  unfold VC UV
  have z : (ByteArray.empty).toList = [] := Yn
  obtain ⟨s, hs, hs1, hs2⟩ := Cu (QH .i64 a 3)
  simp only [PQ, bA7]
  generalize QH .i64 a 3 = s3 at *; generalize QH .i64 a 5 = s5
  have w : IntKind.i64.wrap (3 + s5 % 4) = 3 + s5 % 4 := Zr (by omega)
  rw [w]
  generalize a.tmod 7 = k
  by_cases k0 : k = 0
  · refine ⟨⟨1, .empty, 0, 0, 0⟩, ?_, by simp [AB, z]⟩; simp [k0]
  by_cases k1 : k = 1
  · refine ⟨⟨2, s, 0, 0, 0⟩, ?_, by simp [AB, hs1, hs2]⟩; simp [k1, hs]
  by_cases k2 : k = 2
  · refine ⟨⟨3, .empty, 0, 0, 0⟩, ?_, by simp [AB, z]⟩; simp [k2]
  by_cases k3 : k = 3
  · refine ⟨⟨4, .empty, 0, 0, 0⟩, ?_, by simp [AB, z]⟩; simp [k3]
  by_cases k4 : k = 4
  · refine ⟨⟨5, .empty, s3 % 8, 0, 0⟩, ?_, by simp [AB, z]; omega⟩; simp [k4]
  by_cases k5 : k = 5
  · refine ⟨⟨6, s, 0, 0, 0⟩, ?_, by simp [AB, hs1, hs2]⟩; simp [k5, hs]
  refine ⟨⟨7, .empty, 0, s3 % 4, 3 + s5 % 4⟩, ?_, by simp [AB, z]; omega⟩
  simp [k0, k1, k2, k3, k4, k5]
theorem Iv (a : Int) : ∃ x, Wt a x ∧ Fx x = 0 := by
  unfold Wt AR
  obtain ⟨s, hs, hs1, hs2⟩ := Cu a
  simp only [PQ, bA7, bA15, LX, jn]
  generalize QH .i64 a 12 = s12; generalize QH .i64 a 4 = s4
  have w1 : IntKind.i64.wrap (a % 65536 * 65537) = a % 65536 * 65537 := Zr (by omega)
  have w2 : (a % 65536 * 65537).tmod 4294967295 = a % 65536 * 65537 % 4294967295 := Jc (by omega)
  have w3 : IntKind.i64.wrap (1 + a % 65536 * 65537 % 4294967295) = 1 + a % 65536 * 65537 % 4294967295 := Zr (by omega)
  have w4 : IntKind.i64.wrap (4294967295 - a % 4) = 4294967295 - a % 4 := Zr (by omega)
  have w5 : IntKind.i64.wrap (1 + s4 % 8) = 1 + s4 % 8 := Zr (by omega)
  simp only [w1, w2, w3, w4, w5]
  have it : ∀ w : Int, 1 ≤ w → w ≤ 4294967295 → Fx ⟨s, w⟩ = 0 := by intro w h1 h2; simp [Fx, hs1, hs2, h1, h2]
  generalize s12 % 16 = k
  by_cases k1 : k = 14
  · refine ⟨⟨s, 1 + a % 65536 * 65537 % 4294967295⟩, ?_, it _ (by omega) (by omega)⟩; simp [k1, hs]
  by_cases k2 : k = 15
  · refine ⟨⟨s, 4294967295 - a % 4⟩, ?_, it _ (by omega) (by omega)⟩; simp [k2, hs]
  refine ⟨⟨s, 1 + s4 % 8⟩, ?_, it _ (by omega) (by omega)⟩
  simp [k1, k2, hs]
theorem Di (l : List Int) (n : Int) (hl : l.length ≤ 4611686018427387904) (h0 : 0 ≤ n) (h1 : n ≤ 1000) : ∃ r, VD l n r ∧ (r.length : Int) = n ∧ ∀ x ∈ r, Fx x = 0 := by
  refine H4 (Post := fun r => (r.length : Int) = n ∧ ∀ x ∈ r, Fx x = 0) ?_
  unfold XJ
  simp only [jn]
  refine Kq (I := fun k s => (s.1.length : Int) = s.2 ∧ 0 ≤ s.2 ∧ s.2 ≤ n ∧ k = (n - s.2).toNat ∧ ∀ x ∈ s.1, Fx x = 0) ?_ (k := n.toNat) ⟨rfl, by omega, by omega, by simp, by simp⟩
  rintro k ⟨r, i⟩ ⟨hr, hi0, hi1, hk, hx⟩ X hX
  simp only at hr hi0 hi1 hk hx ⊢
  refine ⟨fun h => ?_, fun h => ?_⟩
  · have hlt : i < n := by simpa using h
    obtain ⟨v, hv, _, _⟩ := WT l i hl hi0 (by omega)
    obtain ⟨x, hx1, hx2⟩ := Iv v
    refine ⟨v, hv, x, hx1, by simp; omega, ?_⟩
    rw [Zr (by omega)]
    refine hX (n - (i + 1)).toNat _ (by omega) ⟨by simp; omega, by simp only; omega, by simp only; omega, rfl, ?_⟩
    intro y hy
    rcases List.mem_append.1 hy with h | h
    · exact hx y h
    · simp at h; rw [h]; exact hx2
  · have hge : ¬ i < n := by simpa using h
    exact ⟨by omega, hx⟩
theorem Dj (a : Int) : ∃ r, JY a r ∧ r.length ≤ 4 := by
  unfold JY UX
  rw [PQ, Zr (by omega)]
  exact ⟨_, ⟨⟨by omega, by simp; omega⟩, rfl⟩, by simp; omega⟩
theorem Bc {α : Type} {l : List α} (hl : l.length ≤ 4611686018427387904) {B : (Int → Prop) → Int → Prop} {J : Prop} (P : α → Prop)
    (hB : ∀ (j : Nat) x, j < l.length → l[j]? = some x → ∀ X : Int → Prop, (P x → X (IntKind.i64.wrap ((j : Int) + 1))) → B X (j : Int)) (hJ : (∀ x ∈ l, P x) → J) :
    lp (fun X s => (decide (s < (l.length : Int)) = true → B X s) ∧ (decide (s < (l.length : Int)) = false → J)) 0 := by
  refine Fv l.length hl (fun j => ∀ i, i < j → ∀ y, l[i]? = some y → P y) (fun i hi => absurd hi (by omega)) ?_ ?_
  · intro j hj hI X hX
    obtain ⟨x, hx⟩ : ∃ x, l[j]? = some x := ⟨l[j], by simp [hj]⟩
    refine hB j x hj hx X fun h0 => hX fun i hi y hy => ?_
    by_cases e : i = j
    · subst e; rw [hx] at hy; cases hy; exact h0
    · exact hI i (by omega) y hy
  · intro hI
    refine hJ fun x hx => ?_
    obtain ⟨j, hj⟩ := List.getElem?_of_mem hx
    have := hj
    rw [List.getElem?_eq_some_iff] at this
    exact hI j this.1 x hj
theorem XE (t : Qp) : ∃ v, ZQ t v ∧ (v = 0 → (0 ≤ t.fp ∧ t.fp ≤ 4294967295) ∧ 0 ≤ t.f0 ∧ t.f0 ≤ 4294967295) := by
  refine AT (Post := fun v => v = 0 → (0 ≤ t.fp ∧ t.fp ≤ 4294967295) ∧ 0 ≤ t.f0 ∧ t.f0 ≤ 4294967295) ?_
  unfold Kj
  simp only [ZG, exists_eq_left, JO, Jr]
  refine ⟨_, fun _ => rfl, fun _ h => by simp at h, fun h _ => ?_⟩
  simp [wI] at h
  exact ⟨h.1.1, h.1.2⟩
def okCm (c : Qa) : Prop := (1 ≤ c.fu ∧ c.fu ≤ 8) ∧ (1 ≤ c.fg ∧ c.fg ≤ 64) ∧ (c.fa9.length : Int) = c.fu * c.fg ∧ ∀ x ∈ c.fa9, 0 ≤ x ∧ x ≤ 4294967295
theorem Hl {d s : Int} (h1 : 1 ≤ d ∧ d ≤ 8) (h2 : 1 ≤ s ∧ s ≤ 64) : 1 ≤ d * s ∧ d * s ≤ 512 := by
  have h : d = 1 ∨ d = 2 ∨ d = 3 ∨ d = 4 ∨ d = 5 ∨ d = 6 ∨ d = 7 ∨ d = 8 := by omega
  rcases h with rfl | rfl | rfl | rfl | rfl | rfl | rfl | rfl <;> omega
theorem Vu (c : Qa) : ∃ v, Zz c v ∧ (v = 0 → okCm c) := by
  refine UF (Post := fun v => v = 0 → okCm c) ?_
  unfold ZL
  simp only [ZG, exists_eq_left, JO, Jr, jn]
  refine ⟨_, fun _ => rfl, fun _ h => by simp at h, fun h => ?_⟩
  have h' : (1 ≤ c.fu ∧ c.fu ≤ 8) ∧ 1 ≤ c.fg ∧ c.fg ≤ 64 := by simpa [wI] using h
  have hm := Hl h'.1 h'.2
  rw [Zr (by omega)]
  refine ⟨fun _ h => by simp at h, fun hl => ?_⟩
  have hl' : (c.fa9.length : Int) = c.fu * c.fg := by simpa using hl
  refine Bc (by omega) (fun x => 0 ≤ x ∧ x ≤ 4294967295) ?_ ?_
  · intro j x hj hx X hX
    refine ⟨x, V9 rfl hx, fun _ h => by simp at h, fun h => hX (by simpa [wI] using h)⟩
  · intro hP _; exact ⟨h'.1, h'.2, hl', hP⟩
def okLl (c : Qj) : Prop := (2 ≤ c.f8 ∧ c.f8 ≤ 8) ∧ (c.f5.length : Int) = Wo .i64 1 (IntKind.u64.wrap c.f8) ∧ c.f5.length ≤ 256 ∧ ∀ x ∈ c.f5, 0 ≤ x ∧ x ≤ 63
theorem NJ {p : Int} (h : 2 ≤ p ∧ p ≤ 8) : 4 ≤ Wo .i64 1 (IntKind.u64.wrap p) ∧ Wo .i64 1 (IntKind.u64.wrap p) ≤ 256 := by
  have h : p = 2 ∨ p = 3 ∨ p = 4 ∨ p = 5 ∨ p = 6 ∨ p = 7 ∨ p = 8 := by omega
  rcases h with rfl | rfl | rfl | rfl | rfl | rfl | rfl <;> decide
theorem Xh (c : Qj) : ∃ v, ZJ c v ∧ (v = 0 → okLl c) := by
  refine Ao (Post := fun v => v = 0 → okLl c) ?_
  unfold K5
  simp only [ZG, exists_eq_left, JO, Jr, jn]
  refine ⟨fun _ h => by simp at h, fun h => ?_⟩
  have h' : 2 ≤ c.f8 ∧ c.f8 ≤ 8 := by simpa [wI] using h
  have hm := NJ h'
  refine ⟨by rw [BQ (by omega)]; omega, fun _ h => by simp at h, fun hl => ?_⟩
  have hl' : (c.f5.length : Int) = Wo .i64 1 (IntKind.u64.wrap c.f8) := by simpa using hl
  refine Bc (by omega) (fun x => 0 ≤ x ∧ x ≤ 63) ?_ ?_
  · intro j x hj hx X hX
    refine ⟨x, V9 rfl hx, fun _ h => by simp at h, fun h => hX ?_⟩
    rw [Zr (by omega)] at h
    simp [wI] at h; omega
  · intro hP _; exact ⟨h', hl', by omega, hP⟩
theorem Be (l : List Q1) (k : ByteArray) (hl : l.length ≤ 1000000) : ∃ v, Xq l k v ∧ -1 ≤ v ∧ v < l.length := by
  refine Ib (Post := fun v => -1 ≤ v ∧ v < (l.length : Int)) ?_
  unfold Yt
  simp only [jn]
  refine Bc (by omega) (fun _ => True) ?_ (fun _ => by omega)
  intro j x hj hx X hX
  exact ⟨x, V9 rfl hx, fun _ => by omega, fun _ => hX trivial⟩
def okE (e : Q1) : Prop := (1 ≤ e.fa4.size ∧ e.fa4.size ≤ 32) ∧ (1 ≤ e.fv ∧ e.fv ≤ 1099511627776) ∧ 0 ≤ e.fc2 ∧ e.fc2 < e.fv
def Pg (c : Qs) : Prop := (1 ≤ c.fg ∧ c.fg ≤ 32) ∧ (0 ≤ c.fp ∧ c.fp ≤ 1099511627776) ∧ (c.fh.length : Int) ≤ c.fg ∧ ∀ e ∈ c.fh, okE e
theorem Yo (c : Qs) : ∃ v, Kf c v ∧ (v = 0 → Pg c) := by
  refine C7 (Post := fun v => v = 0 → Pg c) ?_
  unfold KO
  simp only [ZG, VK, exists_eq_left, JO, Jr, jn]
  refine ⟨_, fun _ => rfl, fun _ h => by simp at h, fun h => ?_⟩
  have h' : (1 ≤ c.fg ∧ c.fg ≤ 32) ∧ 0 ≤ c.fp ∧ c.fp ≤ 1099511627776 := by simpa [wI] using h
  refine ⟨fun _ h => by simp at h, fun hl => ?_⟩
  have hl' : (c.fh.length : Int) ≤ c.fg := by simpa using hl
  refine Bc (by omega) okE ?_ (fun hP _ => ⟨h'.1, h'.2, hl', hP⟩)
  intro j x hj hx X hX
  refine ⟨x, V9 rfl hx, fun _ h => by simp at h, fun hk => ?_⟩
  have hk' : 1 ≤ x.fa4.size ∧ x.fa4.size ≤ 32 := by simpa using hk
  refine ⟨_, fun _ => rfl, fun _ h => by simp at h, fun hc => ?_⟩
  have hc1 : 1 ≤ x.fv ∧ x.fv ≤ 1099511627776 := by simp [wI] at hc; exact hc.1
  rw [Zr (by omega)] at hc
  have hc2 : 0 ≤ x.fc2 ∧ x.fc2 ≤ x.fv - 1 := by simp [wI] at hc; exact ⟨hc.2.1, by omega⟩
  obtain ⟨v, hv, _⟩ := Be (List.take (Int.toNat (j : Int)) c.fh) x.fa4 (by simp; omega)
  refine ⟨⟨by omega, by omega⟩, v, hv, fun _ h => by simp at h, fun _ => ?_⟩
  by_cases h0 : j = 0
  · subst h0
    refine ⟨x, fun h => by simp at h, true, fun h => by simp at h, fun _ h => by simp at h, fun _ => hX ⟨hk', hc1, hc2.1, by omega⟩⟩
  · obtain ⟨y, hy⟩ : ∃ y, c.fh[j - 1]? = some y := ⟨c.fh[j - 1]'(by omega), by simp⟩
    refine ⟨y, fun _ => V9 (j := j - 1) (by rw [Zr (by omega)]; omega) hy, _, fun _ => rfl, fun _ h => by simp at h, fun _ => hX ⟨hk', hc1, hc2.1, by omega⟩⟩
def okFr (c : Qe) : Prop := (1 ≤ c.fg ∧ c.fg ≤ 32) ∧ (0 ≤ c.fp ∧ c.fp ≤ 1099511627776) ∧ (0 ≤ c.fb6 ∧ c.fb6 ≤ 1099511627776) ∧ (c.fh.length : Int) ≤ c.fg ∧ ∀ e ∈ c.fh, okE e
theorem Vv (c : Qe) : ∃ v, ZA c v ∧ (v = 0 → okFr c) := by
  refine UG (Post := fun v => v = 0 → okFr c) ?_
  unfold ZM
  simp only [ZG, VK, exists_eq_left, JO, Jr, jn]
  refine ⟨_, fun _ => rfl, _, fun _ => rfl, fun _ h => by simp at h, fun h => ?_⟩
  have h' : ((1 ≤ c.fg ∧ c.fg ≤ 32) ∧ 0 ≤ c.fp ∧ c.fp ≤ 1099511627776) ∧ 0 ≤ c.fb6 ∧ c.fb6 ≤ 1099511627776 := by simpa [wI] using h
  refine ⟨fun _ h => by simp at h, fun hl => ?_⟩
  have hl' : (c.fh.length : Int) ≤ c.fg := by simpa using hl
  refine Bc (by omega) okE ?_ (fun hP _ => ⟨h'.1.1, h'.1.2, h'.2, hl', hP⟩)
  intro j x hj hx X hX
  refine ⟨x, V9 rfl hx, fun _ h => by simp at h, fun hk => ?_⟩
  have hk' : 1 ≤ x.fa4.size ∧ x.fa4.size ≤ 32 := by simpa using hk
  refine ⟨fun _ h => by simp at h, fun hc => ?_⟩
  have hc1 : (1 ≤ x.fv ∧ x.fv ≤ 1099511627776) ∧ x.fc2 = 0 := by simpa [wI] using hc
  by_cases h0 : j = 0
  · subst h0
    refine ⟨x, fun h => by simp at h, fun _ h => by simp at h, fun _ => hX ⟨hk', hc1.1, by omega, by omega⟩⟩
  · obtain ⟨y, hy⟩ : ∃ y, c.fh[j - 1]? = some y := ⟨c.fh[j - 1]'(by omega), by simp⟩
    refine ⟨y, fun _ => V9 (j := j - 1) (by rw [Zr (by omega)]; omega) hy, fun _ h => by simp at h, fun _ => hX ⟨hk', hc1.1, by omega, by omega⟩⟩
def R6 (c : Qk) : Prop := (2 ≤ c.fg ∧ c.fg ≤ 32 ∧ c.fg % 2 = 0) ∧ (0 ≤ c.fp ∧ c.fp ≤ 1099511627776) ∧ (0 ≤ c.fb2 ∧ c.fb2 ≤ 1099511627776) ∧ c.fx.length ≤ 41 ∧ ∀ l ∈ c.fx, (l.length : Int) < c.fg ∧ ∀ s ∈ l, 1 ≤ s.size ∧ s.size ≤ 32
theorem XF (c : Qk) : ∃ v, ZS c v ∧ (v = 0 → R6 c) := by
  refine AX (Post := fun v => v = 0 → R6 c) ?_
  unfold Kk
  simp only [ZG, VK, exists_eq_left, JO, Jr, jn]
  refine ⟨_, fun _ => rfl, _, fun _ => rfl, fun _ h => by simp at h, fun h => ?_⟩
  have h' : (((2 ≤ c.fg ∧ c.fg ≤ 32) ∧ ¬ c.fg.tmod 2 = 1) ∧ 0 ≤ c.fp ∧ c.fp ≤ 1099511627776) ∧ 0 ≤ c.fb2 ∧ c.fb2 ≤ 1099511627776 := by simpa [wI] using h
  have he : c.fg % 2 = 0 := by have := h'.1.1.2; rw [Jc (by omega)] at this; omega
  refine ⟨fun _ h => by simp at h, fun hl => ?_⟩
  have hl' : c.fx.length ≤ 41 := by simp at hl; omega
  clear h hl
  refine Kq (I := fun k s => ∃ j : Nat, s.2 = (j : Int) ∧ j ≤ c.fx.length ∧ k = c.fx.length - j ∧ ∀ i, i < j → ∀ y, c.fx[i]? = some y → (y.length : Int) < c.fg ∧ ∀ s ∈ y, 1 ≤ s.size ∧ s.size ≤ 32) ?_ (k := c.fx.length) ⟨0, rfl, by omega, by omega, fun i hi => absurd hi (by omega)⟩
  rintro k ⟨tot, i⟩ ⟨j, hj, hj1, hk, hI⟩ X hX
  simp only at hj ⊢
  subst hj
  refine ⟨fun h => ?_, fun h => ?_⟩
  · have hlt : j < c.fx.length := by simp at h; omega
    obtain ⟨L, hL⟩ : ∃ x, c.fx[j]? = some x := ⟨c.fx[j], by simp [hlt]⟩
    have hx : ix c.fx (j : Int) L := V9 rfl hL
    refine ⟨L, hx, fun _ h => by simp at h, fun h2 => ?_⟩
    have h2' : (L.length : Int) < c.fg := by simpa using h2
    refine Kq (I := fun k s => ∃ m : Nat, s = (m : Int) ∧ m ≤ L.length ∧ k = L.length - m ∧ ∀ i, i < m → ∀ y, L[i]? = some y → 1 ≤ y.size ∧ y.size ≤ 32) ?_ (k := L.length) ⟨0, rfl, by omega, by omega, fun i hi => absurd hi (by omega)⟩
    rintro k2 s ⟨m, rfl, hm1, hk2, hI2⟩ X2 hX2
    refine ⟨L, hx, fun h3 => ?_, fun h3 => ?_⟩
    · have hm : m < L.length := by simp at h3; omega
      obtain ⟨y, hy⟩ : ∃ x, L[m]? = some x := ⟨L[m], by simp [hm]⟩
      refine ⟨L, hx, y, V9 rfl hy, fun _ h => by simp at h, fun h4 => ?_⟩
      have h4' : 1 ≤ y.size ∧ y.size ≤ 32 := by simpa using h4
      refine ⟨L, fun _ => hx, y, fun _ => V9 rfl hy, L, fun _ => hx, ?_⟩
      have go : X2 (IntKind.i64.wrap ((m : Int) + 1)) := by
        rw [Zr (by omega)]
        refine hX2 (L.length - (m + 1)) _ (by omega) ⟨m + 1, by omega, by omega, rfl, fun i hi z hz => ?_⟩
        by_cases e : i = m
        · subst e; rw [hy] at hz; cases hz; exact h4'
        · exact hI2 i (by omega) z hz
      by_cases h0 : m = 0
      · subst h0
        exact ⟨y, fun h => by simp at h, fun _ h => by simp at h, fun _ => go⟩
      · obtain ⟨z, hz⟩ : ∃ z, L[m - 1]? = some z := ⟨L[m - 1]'(by omega), by simp⟩
        exact ⟨z, fun _ => V9 (j := m - 1) (by rw [Zr (by omega)]; omega) hz, fun _ h => by simp at h, fun _ => go⟩
    · have hm : m = L.length := by simp at h3; omega
      subst hm
      refine ⟨L, hx, by rw [BQ (by omega)]; omega, ?_⟩
      rw [Zr (n := (j : Int) + 1) (by omega)]
      refine hX (c.fx.length - (j + 1)) _ (by omega) ⟨j + 1, by simp, by omega, rfl, fun i hi z hz => ?_⟩
      by_cases e : i = j
      · subst e; rw [hL] at hz; cases hz
        refine ⟨h2', fun s hs => ?_⟩
        obtain ⟨i, hi⟩ := List.getElem?_of_mem hs
        have := hi
        rw [List.getElem?_eq_some_iff] at this
        exact hI2 i this.1 s hi
      · exact hI i (by omega) z hz
  · have hge : j = c.fx.length := by simp at h; omega
    have fin : R6 c := by
      refine ⟨⟨h'.1.1.1.1, h'.1.1.1.2, he⟩, h'.1.2, h'.2, hl', fun l hl => ?_⟩
      obtain ⟨i, hi⟩ := List.getElem?_of_mem hl
      have := hi
      rw [List.getElem?_eq_some_iff] at this
      exact hI i (by rw [hge]; exact this.1) l hi
    by_cases h0 : c.fx.length = 0
    · refine ⟨[], fun h => by simp [h0] at h, fun _ h => by simp at h, fun _ => ⟨fun _ h => by simp at h, fun _ _ => fin⟩⟩
    · obtain ⟨z, hz⟩ : ∃ z, c.fx[c.fx.length - 1]? = some z := ⟨c.fx[c.fx.length - 1]'(by omega), by simp⟩
      exact ⟨z, fun _ => V9 (j := c.fx.length - 1) (by rw [Zr (by omega)]; omega) hz, fun _ h => by simp at h, fun _ => ⟨fun _ h => by simp at h, fun _ _ => fin⟩⟩
theorem Al (a b : List Int) (ha : a.length ≤ 1000000) : ∃ v, KA a b v := by
  obtain ⟨v, hv, _⟩ := Ek (Post := fun _ => True) (a0 := a) (a1 := b) (by
    unfold Ji
    simp only [jn]
    refine ⟨fun _ => trivial, fun h => ?_⟩
    have hl : a.length = b.length := by simp at h; omega
    refine Bc (by omega) (fun _ => True) ?_ (fun _ => trivial)
    intro j x hj hx X hX
    obtain ⟨y, hy⟩ : ∃ y, b[j]? = some y := ⟨b[j]'(by omega), by simp⟩
    exact ⟨x, V9 rfl hx, y, V9 rfl hy, fun _ => trivial, fun _ => hX trivial⟩)
  exact ⟨v, hv⟩
theorem Ub (a b : List Q1) (ha : a.length ≤ 1000000) : ∃ v, ZP a b v := by
  obtain ⟨v, hv, _⟩ := C6 (Post := fun _ => True) (a0 := a) (a1 := b) (by
    unfold Ke
    simp only [jn]
    refine ⟨fun _ => trivial, fun h => ?_⟩
    have hl : a.length = b.length := by simp at h; omega
    refine Bc (by omega) (fun _ => True) ?_ (fun _ => trivial)
    intro j x hj hx X hX
    obtain ⟨y, hy⟩ : ∃ y, b[j]? = some y := ⟨b[j]'(by omega), by simp⟩
    exact ⟨x, V9 rfl hx, y, V9 rfl hy, fun _ => trivial, fun _ => hX trivial⟩)
  exact ⟨v, hv⟩
theorem DZ (a b : Qk) (ha : a.fx.length ≤ 1000000) (ha2 : ∀ l ∈ a.fx, l.length ≤ 1000000) : ∃ v, KN a b v := by
  obtain ⟨v, hv, _⟩ := Dz (Post := fun _ => True) (a0 := a) (a1 := b) (by
    unfold KM
    simp only [jn, Jr]
    refine ⟨fun _ => trivial, fun h => ?_⟩
    have hl : a.fx.length = b.fx.length := by
      have := (Bool.or_eq_false_iff.1 h).2
      simp at this; omega
    refine Bc (by omega) (fun _ => True) ?_ (fun _ => trivial)
    intro j x hj hx X hX
    obtain ⟨y, hy⟩ : ∃ y, b.fx[j]? = some y := ⟨b.fx[j]'(by omega), by simp⟩
    have hxl : x.length ≤ 1000000 := ha2 x (List.mem_of_getElem? hx)
    refine ⟨x, V9 rfl hx, y, V9 rfl hy, fun _ => trivial, fun h2 => ?_⟩
    have hl2 : x.length = y.length := by simp at h2; omega
    refine Kq (I := fun k s => ∃ m : Nat, s = (m : Int) ∧ m ≤ x.length ∧ k = x.length - m) ?_ (k := x.length) ⟨0, rfl, by omega, by omega⟩
    rintro k s ⟨m, rfl, hm, hk⟩ X2 hX2
    refine ⟨x, V9 rfl hx, fun h3 => ?_, fun _ => hX trivial⟩
    have hm2 : m < x.length := by simp at h3; omega
    obtain ⟨p, hp⟩ : ∃ p, x[m]? = some p := ⟨x[m]'(by omega), by simp⟩
    obtain ⟨q, hq⟩ : ∃ q, y[m]? = some q := ⟨y[m]'(by omega), by simp⟩
    refine ⟨x, V9 rfl hx, p, V9 rfl hp, y, V9 rfl hy, q, V9 rfl hq, fun _ => trivial, fun _ => ?_⟩
    rw [Zr (by omega)]
    exact hX2 (x.length - (m + 1)) _ (by omega) ⟨m + 1, by simp, by omega, rfl⟩)
  exact ⟨v, hv⟩
def Iw (s : Qc) : Prop := s.fc.fa9.length ≤ 1000000 ∧ s.f4.f5.length ≤ 1000000 ∧ s.fa7.fh.length ≤ 1000000 ∧ s.ff.fh.length ≤ 1000000 ∧ s.fq.fx.length ≤ 1000000 ∧ ∀ l ∈ s.fq.fx, l.length ≤ 1000000
theorem BA (a b : Qa) (ha : a.fa9.length ≤ 1000000) : ∃ v, Va a b v := by
  obtain ⟨v, hv⟩ := Al a.fa9 b.fa9 ha
  exact ⟨_, v, fun _ => hv, rfl⟩
theorem Dk (a b : Qj) (ha : a.f5.length ≤ 1000000) : ∃ v, Xj a b v := by
  obtain ⟨v, hv⟩ := Al a.f5 b.f5 ha
  exact ⟨_, v, fun _ => hv, rfl⟩
theorem FD (a b : Qs) (ha : a.fh.length ≤ 1000000) : ∃ v, YI a b v := by
  obtain ⟨v, hv⟩ := Ub a.fh b.fh ha
  exact ⟨_, v, fun _ => hv, rfl⟩
theorem BB (a b : Qe) (ha : a.fh.length ≤ 1000000) : ∃ v, Vb a b v := by
  obtain ⟨v, hv⟩ := Ub a.fh b.fh ha
  exact ⟨_, v, fun _ => hv, rfl⟩
theorem Hm (a b : Qc) (h : Iw a) : ∃ v, JZ a b v := by
  obtain ⟨h1, h2, h3, h4, h5, h6⟩ := h
  obtain ⟨v1, e1⟩ := BA a.fc b.fc h1
  obtain ⟨v2, e2⟩ := Dk a.f4 b.f4 h2
  obtain ⟨v3, e3⟩ := FD a.fa7 b.fa7 h3
  obtain ⟨v4, e4⟩ := BB a.ff b.ff h4
  obtain ⟨v5, e5⟩ := DZ a.fq b.fq h5 h6
  exact ⟨_, v1, fun _ => e1, v2, fun _ => e2, v3, fun _ => e3, v4, fun _ => e4, v5, fun _ => e5, rfl⟩
theorem Hn (s : Qc) : ∃ v, YJ s v := by
  unfold YJ A4
  simp only [jn]
  generalize s.fa.fk = k
  by_cases k1 : k = 1
  · subst k1; exact ⟨_, fun _ => rfl, fun h => by simp at h⟩
  have e1 : (k == 1) = false := by simp [k1]
  by_cases k2 : k = 2
  · subst k2; exact ⟨_, fun h => by simp at h, fun _ => ⟨fun _ => rfl, fun h => by simp at h⟩⟩
  have e2 : (k == 2) = false := by simp [k2]
  by_cases k3 : k = 3
  · subst k3; exact ⟨_, fun h => by simp at h, fun _ => ⟨fun h => by simp at h, fun _ => ⟨fun _ => rfl, fun h => by simp at h⟩⟩⟩
  have e3 : (k == 3) = false := by simp [k3]
  by_cases k4 : k = 4
  · subst k4; exact ⟨_, fun h => by simp at h, fun _ => ⟨fun h => by simp at h, fun _ => ⟨fun h => by simp at h, fun _ => ⟨fun _ => rfl, fun h => by simp at h⟩⟩⟩⟩
  have e4 : (k == 4) = false := by simp [k4]
  by_cases k5 : k = 5
  · subst k5; exact ⟨_, fun h => by simp at h, fun _ => ⟨fun h => by simp at h, fun _ => ⟨fun h => by simp at h, fun _ => ⟨fun h => by simp at h, fun _ => ⟨fun _ => rfl, fun h => by simp at h⟩⟩⟩⟩⟩
  have e5 : (k == 5) = false := by simp [k5]
  by_cases k6 : k = 6
  · subst k6; exact ⟨_, fun h => by simp at h, fun _ => ⟨fun h => by simp at h, fun _ => ⟨fun h => by simp at h, fun _ => ⟨fun h => by simp at h, fun _ => ⟨fun h => by simp at h, fun _ => ⟨fun _ => rfl, fun h => by simp at h⟩⟩⟩⟩⟩⟩
  have e6 : (k == 6) = false := by simp [k6]
  simp only [e1, e2, e3, e4, e5, e6]
  exact ⟨_, fun h => by simp at h, fun _ => ⟨fun h => by simp at h, fun _ => ⟨fun h => by simp at h, fun _ => ⟨fun h => by simp at h, fun _ => ⟨fun h => by simp at h, fun _ => ⟨fun h => by simp at h, fun _ => rfl⟩⟩⟩⟩⟩⟩
theorem UN (s : Qc) (h : Iw s) : ∃ v, Jw s v ∧ (v = 0 → 1 ≤ s.fa.fk ∧ s.fa.fk ≤ 6) := by
  refine DD (Post := fun v => v = 0 → 1 ≤ s.fa.fk ∧ s.fa.fk ≤ 6) (a0 := s) (by
    unfold Jv
    simp only [jn]
    refine ⟨_, VL s.fa, fun h e => by simp [e] at h, fun hpar => ?_⟩
    have hk : 1 ≤ s.fa.fk ∧ s.fa.fk ≤ 6 := by
      have hp : U8 s.fa.fk s.fa.fg s.fa.fu s.fa.fw = 0 := by simpa using hpar
      unfold U8 at hp; grind
    obtain ⟨v12, e12⟩ := Hn s
    obtain ⟨v13, e13⟩ := Hm s v12 h
    obtain ⟨v1, e1, _⟩ := XE s.fy
    obtain ⟨v2, e2, _⟩ := Vu s.fc
    obtain ⟨v3, e3, _⟩ := Xh s.f4
    obtain ⟨v4, e4, _⟩ := Yo s.fa7
    obtain ⟨v5, e5, _⟩ := Vv s.ff
    obtain ⟨v6, e6, _⟩ := XF s.fq
    refine ⟨fun _ => ⟨v1, e1, ?_⟩, fun _ => ⟨fun _ => ⟨v2, e2, ?_⟩, fun _ => ⟨fun _ => ⟨v3, e3, ?_⟩, fun _ => ⟨fun _ => ⟨v4, e4, ?_⟩, fun _ => ⟨fun _ => ⟨v5, e5, ?_⟩, fun _ => ⟨fun _ => ⟨v6, e6, ?_⟩, fun _ => ?_⟩⟩⟩⟩⟩⟩
    all_goals exact ⟨fun _ _ => hk, fun _ => ⟨v12, fun _ => e12, v13, fun _ => e13, fun _ _ => hk, fun _ _ => hk⟩⟩)
theorem Bm (x : Int) : 0 ≤ IntKind.u64.wrap x ∧ IntKind.u64.wrap x ≤ 18446744073709551615 := by rw [IntKind.wrap_u64]; omega
theorem Cv (a : Int) : ∃ v, W6 a v ∧ 0 ≤ v ∧ v ≤ 18446744073709551615 := ⟨_, rfl, Bm _⟩
theorem Ln (a b : Int) : ∃ v, A7 a b v := by
  obtain ⟨v, hv, _⟩ := Cv (F6 .u64 (a) (IntKind.u64.wrap ((IntKind.u64.wrap ((IntKind.u64.wrap (b)) + (1))) * (15074714826142052245))))
  exact ⟨v, v, hv, rfl⟩
theorem Dl (a : Int) : ∃ r, XM a r ∧ r.length = 256 := by
  refine H8 (Post := fun r => r.length = 256) ?_
  unfold XL
  simp only [jn]
  refine Kq (I := fun k s => (s.1.length : Int) = s.2 - 1 ∧ 1 ≤ s.2 ∧ s.2 ≤ 257 ∧ k = (257 - s.2).toNat) ?_ (k := 256) ⟨rfl, by decide, by decide, rfl⟩
  rintro k ⟨r, i⟩ ⟨h1, h2, h3, hk⟩ X hX
  simp only at h1 h2 h3 hk ⊢
  refine ⟨fun h => ?_, fun h => ?_⟩
  · have hi : i ≤ 256 := by simpa using h
    obtain ⟨v, hv, _⟩ := Cv (IntKind.u64.wrap ((a) + (IntKind.u64.wrap ((i) * (11400714819323198485)))))
    refine ⟨v, hv, by simp; omega, ?_⟩
    rw [BQ (by omega)]
    exact hX (257 - (i + 1)).toNat _ (by omega) ⟨by simp; omega, by simp only; omega, by simp only; omega, rfl⟩
  · have hi : ¬ i ≤ 256 := by simpa using h
    omega
theorem Ed (l : List Int) (s : ByteArray) (hl : l.length = 256) (hs : s.size ≤ 1000000) : ∃ v, YA l s v ∧ 0 ≤ v.1 ∧ v.1 ≤ 18446744073709551615 := by
  refine Ij (Post := fun v => 0 ≤ v.1 ∧ v.1 ≤ 18446744073709551615) ?_
  unfold Yz
  simp only [jn]
  refine ⟨fun _ => by decide, fun _ => ?_⟩
  obtain ⟨v, hv, _⟩ := Jd (l := l) (n := (s.size : Int) % 256) (by omega) (by omega)
  refine ⟨v, by rw [Jc (by omega)]; exact hv, ?_⟩
  refine Kq (I := fun k s' => ∃ j : Nat, s'.2 = (j : Int) ∧ j ≤ s.size ∧ k = s.size - j) ?_ (k := s.size) ⟨0, rfl, by omega, by omega⟩
  rintro k ⟨h, i⟩ ⟨j, hj, hj1, hk⟩ X hX
  simp only at hj ⊢
  subst hj
  refine ⟨fun h => ?_, fun _ => ?_⟩
  · have hj2 : j < s.size := by simp at h; omega
    have hb := B8 hj2
    have hc : 0 ≤ B7 s j ∧ B7 s j ≤ 255 := by
      unfold B7; rw [dif_pos hj2]; have := (s[j]).toNat_lt; omega
    rw [Zr (n := (j : Int) + 1) (by omega)]
    have w : IntKind.i64.wrap (IntKind.i64.wrap (B7 s j) + (j : Int)) = B7 s j + j := by rw [Zr (n := B7 s j) (by omega), Zr (by omega)]
    obtain ⟨v2, hv2, _⟩ := Jd (l := l) (n := (B7 s j + j) % 256) (by omega) (by omega)
    refine ⟨B7 s j, hb, v2, by rw [w, Jc (by omega)]; exact hv2, ?_⟩
    exact hX (s.size - (j + 1)) _ (by omega) ⟨j + 1, by simp, by omega, rfl⟩
  · obtain ⟨m, hm, h0, h1⟩ := Cv h
    exact ⟨m, hm, h0, h1⟩
theorem Gf (a b c : Int) (s : ByteArray) : ∃ v, Y5 a b c s v ∧ (0 ≤ b ∧ b ≤ 7 → 1 ≤ c ∧ c ≤ 64 → 0 ≤ v.1 ∧ v.1 < c) := by
  refine FT (Post := fun v => 0 ≤ b ∧ b ≤ 7 → 1 ≤ c ∧ c ≤ 64 → 0 ≤ v.1 ∧ v.1 < c) ?_
  unfold VX
  simp only [ZG, VK, exists_eq_left, Jr]
  refine ⟨_, fun _ => rfl, fun _ _ h => (show 0 ≤ (0 : Int) ∧ (0 : Int) < c by omega), fun h => ⟨fun _ _ h => (show 0 ≤ (0 : Int) ∧ (0 : Int) < c by omega), fun h2 => ?_⟩⟩
  have h' : (0 ≤ b ∧ b ≤ 7) ∧ 1 ≤ c ∧ c ≤ 64 := by simpa [wI] using h
  have h2' : 1 ≤ s.size ∧ s.size ≤ 32 := by simpa using h2
  obtain ⟨v6, e6⟩ := Ln a b
  obtain ⟨v7, e7, l7⟩ := Dl v6
  obtain ⟨v8, e8, h80, h81⟩ := Ed v7 s l7 (by omega)
  refine ⟨v6, e6, v7, e7, v8, e8, by rw [BQ (by omega)]; omega, fun _ _ => ?_⟩
  show 0 ≤ IntKind.i64.wrap (v8.1.tmod (IntKind.u64.wrap c)) ∧ IntKind.i64.wrap (v8.1.tmod (IntKind.u64.wrap c)) < c
  rw [BQ (n := c) (by omega), Jc h80]
  have m0 := Int.emod_nonneg v8.1 (b := c) (by omega)
  have m1 := Int.emod_lt_of_pos v8.1 (b := c) (by omega)
  rw [Zr (by omega)]
  exact ⟨m0, m1⟩
theorem Ae (a b c : Int) : ∃ v, Xv a b c v := by
  unfold Xv Ch
  cases h : (bif decide ((CW a 0) > (CW c 0)) then true else decide ((CW b 0) > (IntKind.i64.wrap ((CW c 0) - (CW a 0)))))
  · refine ⟨(IntKind.i64.wrap ((CW a 0) + (CW b 0)), false), _, rfl, _, rfl, _, rfl, ?_⟩; exact ⟨fun h2 => (by rw [h] at h2; cases h2), fun _ => rfl⟩
  · refine ⟨(CW c 0, true), _, rfl, _, rfl, _, rfl, ?_⟩; exact ⟨fun _ => rfl, fun h2 => (by rw [h] at h2; cases h2)⟩
theorem XG (a b : Int) : ∃ v, Jj a b v := by
  obtain ⟨v, hv⟩ := Ae a b 1099511627776
  exact ⟨_, v, hv, rfl⟩
theorem K2 (x : Qh) : ∃ v, Z7 x v ∧ (v = 0 → (1 ≤ x.fa4.size ∧ x.fa4.size ≤ 32) ∧ 1 ≤ x.fa8 ∧ x.fa8 ≤ 4294967295) :=
  ⟨_, WL x, fun h => by unfold Fx at h; grind⟩
theorem AE (c : Qa) (x : Qh) : ∃ v, KG c x v ∧ v.1.fa9.length ≤ 1000 := by
  refine Au (Post := fun v => v.1.fa9.length ≤ 1000) ?_
  unfold K8
  simp only [jn]
  obtain ⟨v2, e2, ok⟩ := Vu c
  obtain ⟨v4, e4, ok4⟩ := K2 x
  refine ⟨v2, e2, fun _ => by simp, fun h2 => ⟨v4, e4, fun _ => by simp, fun h4 => ?_⟩⟩
  obtain ⟨hd, hs, hl, hx⟩ := ok (by simpa using h2)
  have hm := Hl hd hs
  refine ⟨by omega, ?_⟩
  refine Kq (I := fun k s => 0 ≤ s.1 ∧ s.1 ≤ c.fu ∧ k = (c.fu - s.1).toNat ∧ s.2.1.length = c.fa9.length) ?_ (k := c.fu.toNat) ⟨by simp, by simp only; omega, by simp, rfl⟩
  rintro k ⟨i, l, f⟩ ⟨h0, h1, hk, hlen⟩ X hX
  simp only at h0 h1 hk hlen ⊢
  refine ⟨fun h => ?_, fun _ => by omega⟩
  have hi : i < c.fu := by simpa using h
  obtain ⟨v, hv, hr⟩ := Gf c.fw i c.fg x.fa4
  obtain ⟨r0, r1⟩ := hr (by omega) hs
  have p1 : 0 ≤ i * c.fg := Int.mul_nonneg h0 (by omega)
  have p2 : (i + 1) * c.fg ≤ c.fu * c.fg := Int.mul_le_mul_of_nonneg_right (by omega) (by omega)
  rw [Int.add_mul, Int.one_mul] at p2
  have w : IntKind.i64.wrap (IntKind.i64.wrap (i * c.fg) + v.1) = i * c.fg + v.1 := by rw [Zr (n := i * c.fg) (by omega), Zr (by omega)]
  obtain ⟨y, hy, _⟩ := Jd (l := l) (n := i * c.fg + v.1) (by omega) (by omega)
  obtain ⟨z, hz⟩ := Ae y x.fa8 4294967295
  refine ⟨i * c.fg + v.1, ⟨v, hv, w.symm⟩, y, hy, z, hz, y, hy, ?_⟩
  rw [Zr (by omega)]
  exact hX (c.fu - (i + 1)).toNat _ (by omega) ⟨by simp only; omega, by simp only; omega, rfl, by simpa using hlen⟩
theorem shr_p {p v : Int} (hp : 2 ≤ p ∧ p ≤ 8) (h0 : 0 ≤ v) (h1 : v ≤ 18446744073709551615) : 0 ≤ QH .u64 v (IntKind.u64.wrap (IntKind.i64.wrap (64 - p))) ∧ QH .u64 v (IntKind.u64.wrap (IntKind.i64.wrap (64 - p))) < Wo .i64 1 (IntKind.u64.wrap p) := by
  have h : p = 2 ∨ p = 3 ∨ p = 4 ∨ p = 5 ∨ p = 6 ∨ p = 7 ∨ p = 8 := by omega
  have hd : ∀ m : Int, 0 < m → v.fdiv m = v / m := fun m hm => Int.fdiv_eq_ediv_of_nonneg v (by omega)
  rcases h with rfl | rfl | rfl | rfl | rfl | rfl | rfl
  · have e1 : IntKind.u64.wrap (IntKind.i64.wrap (64 - 2)) = 62 := by decide
    have e2 : Wo .i64 1 (IntKind.u64.wrap 2) = 4 := by decide
    rw [e1, e2]; show 0 ≤ v.fdiv 4611686018427387904 ∧ v.fdiv 4611686018427387904 < 4; rw [hd _ (by decide)]; omega
  · have e1 : IntKind.u64.wrap (IntKind.i64.wrap (64 - 3)) = 61 := by decide
    have e2 : Wo .i64 1 (IntKind.u64.wrap 3) = 8 := by decide
    rw [e1, e2]; show 0 ≤ v.fdiv 2305843009213693952 ∧ v.fdiv 2305843009213693952 < 8; rw [hd _ (by decide)]; omega
  · have e1 : IntKind.u64.wrap (IntKind.i64.wrap (64 - 4)) = 60 := by decide
    have e2 : Wo .i64 1 (IntKind.u64.wrap 4) = 16 := by decide
    rw [e1, e2]; show 0 ≤ v.fdiv 1152921504606846976 ∧ v.fdiv 1152921504606846976 < 16; rw [hd _ (by decide)]; omega
  · have e1 : IntKind.u64.wrap (IntKind.i64.wrap (64 - 5)) = 59 := by decide
    have e2 : Wo .i64 1 (IntKind.u64.wrap 5) = 32 := by decide
    rw [e1, e2]; show 0 ≤ v.fdiv 576460752303423488 ∧ v.fdiv 576460752303423488 < 32; rw [hd _ (by decide)]; omega
  · have e1 : IntKind.u64.wrap (IntKind.i64.wrap (64 - 6)) = 58 := by decide
    have e2 : Wo .i64 1 (IntKind.u64.wrap 6) = 64 := by decide
    rw [e1, e2]; show 0 ≤ v.fdiv 288230376151711744 ∧ v.fdiv 288230376151711744 < 64; rw [hd _ (by decide)]; omega
  · have e1 : IntKind.u64.wrap (IntKind.i64.wrap (64 - 7)) = 57 := by decide
    have e2 : Wo .i64 1 (IntKind.u64.wrap 7) = 128 := by decide
    rw [e1, e2]; show 0 ≤ v.fdiv 144115188075855872 ∧ v.fdiv 144115188075855872 < 128; rw [hd _ (by decide)]; omega
  · have e1 : IntKind.u64.wrap (IntKind.i64.wrap (64 - 8)) = 56 := by decide
    have e2 : Wo .i64 1 (IntKind.u64.wrap 8) = 256 := by decide
    rw [e1, e2]; show 0 ≤ v.fdiv 72057594037927936 ∧ v.fdiv 72057594037927936 < 256; rw [hd _ (by decide)]; omega
theorem Ez (p a : Int) (s : ByteArray) (hp : 2 ≤ p ∧ p ≤ 8) : ∃ v, VR p a s v ∧ 0 ≤ v.1 ∧ v.1 < Wo .i64 1 (IntKind.u64.wrap p) := by
  have hs4 := NJ hp
  refine Es (Post := fun v => 0 ≤ v.1 ∧ v.1 < Wo .i64 1 (IntKind.u64.wrap p)) ?_
  unfold JW
  simp only [ZG, VK, exists_eq_left, jn]
  refine ⟨fun _ => by omega, fun _ => ⟨fun _ => by omega, fun h2 => ?_⟩⟩
  have h2' : 1 ≤ s.size ∧ s.size ≤ 32 := by simpa using h2
  obtain ⟨v5, e5, l5⟩ := Dl a
  obtain ⟨v6, e6, h60, h61⟩ := Ed v5 s l5 (by omega)
  refine ⟨v5, e5, v6, e6, ?_⟩
  have sh := shr_p hp h60 h61
  refine Kq (I := fun k s => -1 ≤ s.2 ∧ s.2 ≤ 63 ∧ k = (s.2 + 1).toNat) ?_ (k := (64 - p).toNat) ⟨by simp only; rw [Zr (by omega)]; omega, by simp only; rw [Zr (by omega)]; omega, by simp only; rw [Zr (by omega)]; omega⟩
  rintro k ⟨n, i⟩ ⟨h0, h1, hk⟩ X hX
  simp only at h0 h1 hk ⊢
  refine ⟨fun h => by rw [BQ (by simp at h; omega)]; simp at h; omega, fun h => ?_, fun h => ?_⟩
  · have hi : 0 ≤ i := by
      cases hd : decide (i ≥ 0) with
      | true => simpa using hd
      | false => rw [hd] at h; cases h
    rw [Zr (n := i - 1) (by omega)]
    exact hX (i - 1 + 1).toNat _ (by omega) ⟨by simp only; omega, by simp only; omega, rfl⟩
  · refine ⟨by rw [BQ (by rw [Zr (by omega)]; omega), Zr (by omega)]; omega, ?_⟩
    rw [Zr (n := QH .u64 v6.1 _) (by omega)]
    exact sh
theorem BC (c : Qj) (x : Qh) : ∃ v, Jm c x v ∧ v.1.f5.length ≤ 1000 := by
  refine Br (Post := fun v => v.1.f5.length ≤ 1000) ?_
  unfold Ky
  obtain ⟨v2, e2, ok⟩ := Xh c
  obtain ⟨v4, e4, ok4⟩ := K2 x
  refine ⟨v2, e2, fun _ => by simp, fun h2 => ⟨v4, e4, fun _ => by simp, fun h4 => ?_⟩⟩
  obtain ⟨hp, hl, hlen, hx⟩ := ok (by simpa using h2)
  obtain ⟨v5, e5, h50, h51⟩ := Ez c.f8 c.fw x.fa4 hp
  obtain ⟨y, hy, _⟩ := Jd (l := c.f5) (n := v5.1) h50 (by omega)
  exact ⟨v5, e5, by omega, y, hy, y, hy, by simp; omega⟩
theorem Cw (t : Qp) (x : Qh) : ∃ v, JH t x v := by
  obtain ⟨v, hv, _⟩ := Ci (Post := fun _ => True) (a0 := t) (a1 := x) (by
    unfold KT
    obtain ⟨v2, e2, ok⟩ := XE t
    obtain ⟨v4, e4, ok4⟩ := K2 x
    obtain ⟨a1, h1⟩ := Ae t.fp x.fa8 4294967295
    obtain ⟨a2, h2⟩ := Ae t.f0 1 4294967295
    exact ⟨v2, e2, fun _ => trivial, fun _ => ⟨v4, e4, fun _ => trivial, fun _ => ⟨_, ⟨a1, h1, a2, h2, rfl⟩, trivial⟩⟩⟩)
  exact ⟨v, hv⟩
theorem Yp {α : Type} {l : List α} {j : Nat} (h : j < l.length) : ∃ x, ix l (j : Int) x := by
  obtain ⟨x, hx, _⟩ := Jd (l := l) (n := (j : Int)) (by omega) (by omega)
  exact ⟨x, hx⟩
theorem Ho (c : Qs) (h : c.fh.length ≤ 1000) : ∃ v, YK c v := by
  obtain ⟨v, hv, _⟩ := H9 (Post := fun _ => True) (a0 := c) (by
    unfold XN
    simp only [Jr]
    refine ⟨fun _ => trivial, fun h2 => ?_⟩
    have h0 : c.fh.length ≠ 0 := by
      intro e; rw [e] at h2; simp at h2
    rw [Zr (by omega)]
    obtain ⟨x, hx, _⟩ := Jd (l := c.fh) (n := (c.fh.length : Int) - 1) (by omega) (by omega)
    exact ⟨x, hx, trivial⟩)
  exact ⟨v, hv⟩
theorem Bf (l : List Q1) (hl : l.length ≤ 1000) : ∃ r, Wx l r ∧ r.length ≤ 1000 := by
  refine Il (Post := fun r => r.length ≤ 1000) ?_
  unfold YB
  simp only [jn]
  refine Kq (I := fun k s => ∃ j : Nat, s.2 = (j : Int) ∧ j ≤ l.length ∧ k = l.length - j ∧ s.1.length = j) ?_ (k := l.length) ⟨0, rfl, by omega, by omega, rfl⟩
  rintro k ⟨a, i⟩ ⟨j, hj, hj1, hk, ha⟩ X hX
  simp only at hj ha ⊢
  subst hj
  refine ⟨fun h => ?_, fun _ => by omega⟩
  have hj2 : j < l.length := by simp at h; omega
  obtain ⟨x, hx⟩ := Yp hj2
  refine ⟨x, hx, by simp; omega, ?_⟩
  have w0 : IntKind.i64.wrap (((a ++ [x]).length : Int) - 1) = (j : Int) := by simp [ha]; rw [Zr (by omega)]
  rw [w0]
  refine Kq (I := fun k s => ∃ m : Nat, s.2 = (m : Int) ∧ m ≤ j ∧ k = m ∧ s.1.length = j + 1) ?_ (k := j) ⟨j, rfl, by omega, rfl, by simp [ha]⟩
  rintro k2 ⟨b, i2⟩ ⟨m, hm, hm1, hk2, hb⟩ X2 hX2
  simp only at hm hb ⊢
  subst hm
  have done : X (b, IntKind.i64.wrap ((j : Int) + 1)) := by
    rw [Zr (by omega)]
    exact hX (l.length - (j + 1)) _ (by omega) ⟨j + 1, by simp, by omega, rfl, hb⟩
  by_cases h0 : m = 0
  · subst h0
    exact ⟨x, fun h => by simp at h, x, fun h => by simp at h, false, fun h => by simp at h, fun h => by simp at h, fun _ => done⟩
  · obtain ⟨p, hp⟩ := Yp (l := b) (j := m) (by omega)
    obtain ⟨q, hq⟩ := Yp (l := b) (j := m - 1) (by omega)
    have wm : IntKind.i64.wrap ((m : Int) - 1) = ((m - 1 : Nat) : Int) := by rw [Zr (by omega)]; omega
    obtain ⟨z, hz⟩ := Yp (l := List.set b (Int.toNat (m : Int)) q) (j := m - 1) (by simp; omega)
    rw [wm]
    refine ⟨p, fun _ => hp, q, fun _ => hq, _, fun _ => rfl, fun _ => ⟨q, hq, p, hp, p, hp, z, hz, ?_⟩, fun _ => done⟩
    exact hX2 (m - 1) _ (by omega) ⟨m - 1, rfl, by omega, rfl, by simpa using hb⟩
theorem E0 (c : Qs) (x : Qh) : ∃ v, Vj c x v ∧ v.1.fh.length ≤ 1000 := by
  refine DL (Post := fun v => v.1.fh.length ≤ 1000) ?_
  unfold Jz
  simp only [jn]
  obtain ⟨v2, e2, ok⟩ := Yo c
  obtain ⟨v4, e4, ok4⟩ := K2 x
  refine ⟨v2, e2, fun _ => by simp, fun h2 => ⟨v4, e4, fun _ => by simp, fun h4 => ?_⟩⟩
  obtain ⟨hs, ht, hl, hx⟩ := ok (by simpa using h2)
  obtain ⟨v6, e6⟩ := XG c.fp x.fa8
  obtain ⟨v7, e7, h70, h71⟩ := Be c.fh x.fa4 (by omega)
  refine ⟨by omega, v6, e6, v7, e7, fun h => ?_, fun h => ⟨fun h3 => ?_, fun h3 => ?_⟩⟩
  · have h' : 0 ≤ v7 := by simpa using h
    obtain ⟨y, hy, _⟩ := Jd (l := c.fh) (n := v7) h' h71
    obtain ⟨z, hz⟩ := XG y.fv x.fa8
    obtain ⟨r, hr, hr2⟩ := Bf (List.set c.fh (Int.toNat v7) (Q1.mk (y.fa4) (z.1) (y.fc2))) (by simp; omega)
    exact ⟨y, hy, z, hz, y, hy, r, hr, hr2⟩
  · obtain ⟨r, hr, hr2⟩ := Bf (c.fh ++ [Q1.mk (x.fa4) (x.fa8) (0)]) (by simp; omega)
    exact ⟨by simp; omega, r, hr, hr2⟩
  · have h3' : c.fg ≤ c.fh.length := by simpa using h3
    obtain ⟨v13, e13⟩ := Ho c (by omega)
    obtain ⟨v14, e14⟩ := XG v13 x.fa8
    have w : IntKind.i64.wrap ((c.fh.length : Int) - 1) = (c.fh.length : Int) - 1 := Zr (by omega)
    obtain ⟨y, hy, _⟩ := Jd (l := c.fh) (n := (c.fh.length : Int) - 1) (by omega) (by omega)
    rw [w]
    obtain ⟨r, hr, hr2⟩ := Bf (List.set c.fh (Int.toNat ((c.fh.length : Int) - 1)) (Q1.mk (x.fa4) (v14.1) (Y3 (v13) (IntKind.i64.wrap ((v14.1) - (1)))))) (by simp; omega)
    exact ⟨v13, e13, v14, e14, y, hy, r, hr, hr2⟩
theorem Dm (l : List Q1) (x : Q1) (hl : l.length ≤ 900) : ∃ r, XP l x r ∧ r.length ≤ 1000 := by
  refine Hb (Post := fun r => r.length ≤ 1000) ?_
  unfold XO
  simp only [jn]
  refine Kq (I := fun k s => ∃ j : Nat, s.2.2 = (j : Int) ∧ j ≤ l.length ∧ k = l.length - j ∧ s.1.length ≤ j + (if s.2.1 = true then 1 else 0)) ?_ (k := l.length) ⟨0, rfl, by omega, by omega, by simp⟩
  rintro k ⟨a, f, i⟩ ⟨j, hj, hj1, hk, ha⟩ X hX
  simp only at hj ha ⊢
  subst hj
  have hf : (if f = true then 1 else 0 : Nat) ≤ 1 := by cases f <;> simp
  refine ⟨fun h => ?_, fun h => ⟨fun _ => ⟨by simp; omega, by simp; omega⟩, fun _ => by omega⟩⟩
  have hj2 : j < l.length := by simp at h; omega
  obtain ⟨y, hy⟩ := Yp hj2
  refine ⟨y, fun _ => hy, fun h2 => ⟨by simp; omega, y, hy, by simp; omega, ?_⟩, fun h2 => ⟨y, hy, by simp; omega, ?_⟩⟩
  · rw [Zr (by omega)]
    have hff : f = false := by cases f <;> simp_all
    subst hff
    refine hX (l.length - (j + 1)) _ (by omega) ⟨j + 1, by simp, by omega, rfl, ?_⟩
    simp at ha ⊢; omega
  · rw [Zr (by omega)]
    refine hX (l.length - (j + 1)) _ (by omega) ⟨j + 1, by simp, by omega, rfl, ?_⟩
    simp; omega
theorem Hp (l : List Q1) (n : Int) (hl : l.length ≤ 900) : ∃ r, YL l n r ∧ r.length ≤ l.length := by
  refine Hc (Post := fun r => r.length ≤ l.length) ?_
  unfold XQ
  simp only [jn]
  refine Kq (I := fun k s => ∃ j : Nat, s.2 = (j : Int) ∧ j ≤ l.length ∧ k = l.length - j ∧ s.1.length ≤ j) ?_ (k := l.length) ⟨0, rfl, by omega, by omega, by simp⟩
  rintro k ⟨a, i⟩ ⟨j, hj, hj1, hk, ha⟩ X hX
  simp only at hj ha ⊢
  subst hj
  refine ⟨fun h => ?_, fun _ => by omega⟩
  have hj2 : j < l.length := by simp at h; omega
  obtain ⟨y, hy⟩ := Yp hj2
  rw [Zr (by omega)]
  refine ⟨y, hy, fun _ => ⟨y, hy, y, hy, by simp; omega, ?_⟩, fun _ => ?_⟩
  · exact hX (l.length - (j + 1)) _ (by omega) ⟨j + 1, by simp, by omega, rfl, by simp; omega⟩
  · exact hX (l.length - (j + 1)) _ (by omega) ⟨j + 1, by simp, by omega, rfl, by simp only; omega⟩
theorem AF (c : Qe) (x : Qh) : ∃ v, KH c x v ∧ v.1.fh.length ≤ 1000 := by
  refine Aw (Post := fun v => v.1.fh.length ≤ 1000) ?_
  unfold K9
  simp only [jn]
  obtain ⟨v2, e2, ok⟩ := Vv c
  obtain ⟨v4, e4, ok4⟩ := K2 x
  refine ⟨v2, e2, fun _ => by simp, fun h2 => ⟨v4, e4, fun _ => by simp, fun h4 => ?_⟩⟩
  obtain ⟨hs, ht, hlo, hl, hx⟩ := ok (by simpa using h2)
  obtain ⟨v6, e6⟩ := XG c.fp x.fa8
  obtain ⟨v7, e7, h70, h71⟩ := Be c.fh x.fa4 (by omega)
  refine ⟨by omega, v6, e6, v7, e7, fun h => ?_, fun h => ⟨fun h3 => ?_, fun h3 => ?_⟩⟩
  · have h' : 0 ≤ v7 := by simpa using h
    obtain ⟨y, hy, _⟩ := Jd (l := c.fh) (n := v7) h' h71
    obtain ⟨z, hz⟩ := XG y.fv x.fa8
    exact ⟨y, hy, z, hz, y, hy, by simp; omega⟩
  · obtain ⟨r, hr, hr2⟩ := Dm c.fh (Q1.mk (x.fa4) (x.fa8) (0)) (by omega)
    exact ⟨r, hr, hr2⟩
  · refine Kq (I := fun k s => ∃ j : Nat, s.2.1 = (j : Int) ∧ j ≤ c.fh.length ∧ k = c.fh.length - j ∧ s.2.2 = c.fh) ?_ (k := c.fh.length) ⟨0, rfl, by omega, by omega, rfl⟩
    rintro k ⟨n, i, l⟩ ⟨j, hj, hj1, hk, hl2⟩ X hX
    simp only at hj hl2 ⊢
    subst hj; subst hl2
    refine ⟨fun h => ?_, fun _ => ?_⟩
    · have hj2 : j < c.fh.length := by simp at h; omega
      obtain ⟨y, hy⟩ := Yp hj2
      refine ⟨y, hy, ?_⟩
      rw [Zr (by omega)]
      exact hX (c.fh.length - (j + 1)) _ (by omega) ⟨j + 1, by simp, by omega, rfl, rfl⟩
    · obtain ⟨v18, e18, l18⟩ := Hp c.fh n (by omega)
      obtain ⟨v19, e19⟩ := XG c.fb6 n
      obtain ⟨r, hr, hr2⟩ := Dm v18 (Q1.mk (x.fa4) (IntKind.i64.wrap ((x.fa8) - n)) (0)) (by omega)
      exact ⟨v18, e18, v19, e19, fun _ => ⟨r, hr, hr2⟩, fun _ => (show v18.length ≤ 1000 by omega)⟩
theorem Gg (w : Int) : ∃ r, Y6 w r ∧ r.length ≤ 63 ∧ ∀ x ∈ r, 0 ≤ x ∧ x ≤ 62 := by
  refine FV (Post := fun r => r.length ≤ 63 ∧ ∀ x ∈ r, 0 ≤ x ∧ x ≤ 62) ?_
  unfold VY
  simp only [jn]
  refine Kq (I := fun k s => ∃ j : Nat, s.2 = (j : Int) ∧ j ≤ 63 ∧ k = 63 - j ∧ s.1.length ≤ j ∧ ∀ x ∈ s.1, 0 ≤ x ∧ x ≤ 62) ?_ (k := 63) ⟨0, rfl, by omega, by omega, by simp, by simp⟩
  rintro k ⟨a, i⟩ ⟨j, hj, hj1, hk, ha, hx⟩ X hX
  simp only at hj ha hx ⊢
  subst hj
  refine ⟨fun h => ?_, fun _ => ⟨by omega, hx⟩⟩
  have hj2 : j < 63 := by
    cases hd : decide ((j : Int) < 63) with
    | true => simp at hd; omega
    | false => rw [hd] at h; cases h
  rw [Zr (by omega)]
  refine ⟨by rw [BQ (by omega)]; omega, fun _ => ⟨by simp; omega, ?_⟩, fun _ => ?_⟩
  · refine hX (63 - (j + 1)) _ (by omega) ⟨j + 1, by simp, by omega, rfl, by simp; omega, ?_⟩
    intro x hx2
    rcases List.mem_append.1 hx2 with h | h
    · exact hx x h
    · simp at h; omega
  · exact hX (63 - (j + 1)) _ (by omega) ⟨j + 1, by simp, by omega, rfl, by simp only; omega, hx⟩
theorem Gh (l : List ByteArray) (hl : l.length ≤ 1000000) : ∃ r, X0 l r ∧ r.length = l.length := by
  refine FX (Post := fun r => r.length = l.length) ?_
  unfold VZ
  simp only [jn]
  refine Kq (I := fun k s => ∃ j : Nat, s.2 = (j : Int) ∧ j ≤ l.length ∧ k = l.length - j ∧ s.1.length = j) ?_ (k := l.length) ⟨0, rfl, by omega, by omega, rfl⟩
  rintro k ⟨a, i⟩ ⟨j, hj, hj1, hk, ha⟩ X hX
  simp only at hj ha ⊢
  subst hj
  refine ⟨fun h => ?_, fun h => by simp at h; omega⟩
  have hj2 : j < l.length := by simp at h; omega
  obtain ⟨x, hx⟩ := Yp hj2
  refine ⟨x, hx, by simp; omega, ?_⟩
  have w0 : IntKind.i64.wrap (((a ++ [x]).length : Int) - 1) = (j : Int) := by simp [ha]; rw [Zr (by omega)]
  rw [w0]
  refine Kq (I := fun k s => ∃ m : Nat, s.2 = (m : Int) ∧ m ≤ j ∧ k = m ∧ s.1.length = j + 1) ?_ (k := j) ⟨j, rfl, by omega, rfl, by simp [ha]⟩
  rintro k2 ⟨b, i2⟩ ⟨m, hm, hm1, hk2, hb⟩ X2 hX2
  simp only at hm hb ⊢
  subst hm
  have done : X (b, IntKind.i64.wrap ((j : Int) + 1)) := by
    rw [Zr (by omega)]
    exact hX (l.length - (j + 1)) _ (by omega) ⟨j + 1, by simp, by omega, rfl, hb⟩
  by_cases h0 : m = 0
  · subst h0
    exact ⟨x, fun h => by simp at h, x, fun h => by simp at h, fun h => by simp at h, fun _ => done⟩
  · obtain ⟨p, hp⟩ := Yp (l := b) (j := m) (by omega)
    obtain ⟨q, hq⟩ := Yp (l := b) (j := m - 1) (by omega)
    have wm : IntKind.i64.wrap ((m : Int) - 1) = ((m - 1 : Nat) : Int) := by rw [Zr (by omega)]; omega
    obtain ⟨z, hz⟩ := Yp (l := List.set b (Int.toNat (m : Int)) q) (j := m - 1) (by simp; omega)
    rw [wm]
    refine ⟨p, fun _ => hp, q, fun _ => hq, fun _ => ⟨q, hq, p, hp, p, hp, z, hz, ?_⟩, fun _ => done⟩
    exact hX2 (m - 1) _ (by omega) ⟨m - 1, rfl, by omega, rfl, by simpa using hb⟩
theorem tdiv8 {a : Int} (h : 0 ≤ a) : a.tdiv 8 = a / 8 := Int.tdiv_eq_ediv_of_nonneg h
theorem Lo (l : List Int) (p : Int) (hl : l.length ≤ 1000000) (h1 : p ≤ 4611686018427387904) (h2 : -4611686018427387904 ≤ p) : ∃ v, W8 l p v ∧ 0 ≤ v ∧ v ≤ 1 := by
  refine Li (Post := fun v => 0 ≤ v ∧ v ≤ 1) ?_
  unfold W7
  simp only [bA1, Jr]
  refine ⟨fun _ => by omega, fun h => ?_⟩
  have h0 : 0 ≤ p := by
    cases hd : decide (p < 0) with
    | false => simpa using hd
    | true => rw [hd] at h; cases h
  have hw : IntKind.i64.wrap (p.tdiv 8) = p / 8 := by rw [tdiv8 h0, Zr (by omega)]
  rw [hw] at h ⊢
  have h3 : p / 8 < l.length := by
    have := (Bool.or_eq_false_iff.1 h).2
    simpa using this
  obtain ⟨x, hx, _⟩ := Jd (l := l) (n := p / 8) (by omega) h3
  refine ⟨x, hx, ?_, by omega⟩
  rw [Jc h0, Zr (by omega), BQ (by omega)]; omega
theorem Gi (a0 : List (List ByteArray)) (a1 a2 : Int) (a3 : List Int) (a4 : Int) (h0 : a0.length ≤ 1000) (hM : ∀ l ∈ a0, l.length ≤ 1000) (h3 : a3.length ≤ 1000000) (h4 : 0 ≤ a4 ∧ a4 ≤ 1073741824) :
    ∃ r, Y7 a0 a1 a2 a3 a4 r ∧ r.1.length ≤ 3000 ∧ ∀ l ∈ r.1, l.length ≤ 3000 := by
  refine FZ (Post := fun r => r.1.length ≤ 3000 ∧ ∀ l ∈ r.1, l.length ≤ 3000) ?_
  unfold X1
  simp only [jn]
  have trim : ∀ (sl po : Int) (out : List (List ByteArray)), out.length ≤ 3000 → (∀ l ∈ out, l.length ≤ 3000) →
      lp (fun (X24 : (List (List ByteArray)) → Prop) (s24 : (List (List ByteArray))) => ∃ (v26 : (List ByteArray)), ((decide ((((s24).length : Int)) > (0))) = true → ix (s24) (IntKind.i64.wrap ((((s24).length : Int)) - (1))) v26) ∧ ((((bif decide ((((s24).length : Int)) > (0)) then ((((v26).length : Int)) == (0)) else false)) = true → ((0 : Int) ≤ (IntKind.i64.wrap ((((s24).length : Int)) - (1))) ∧ (IntKind.i64.wrap ((((s24).length : Int)) - (1)) : Int) ≤ ((s24).length : Int)) ∧ X24 ((List.take (Int.toNat (IntKind.i64.wrap ((((s24).length : Int)) - (1)))) (s24)))) ∧ (((bif decide ((((s24).length : Int)) > (0)) then ((((v26).length : Int)) == (0)) else false)) = false → s24.length ≤ 3000 ∧ ∀ l ∈ s24, l.length ≤ 3000))) out := by
    intro sl po out ho hl
    refine Kq (I := fun k s => s.length ≤ 3000 ∧ (∀ l ∈ s, l.length ≤ 3000) ∧ k = s.length) ?_ (k := out.length) ⟨ho, hl, rfl⟩
    rintro k s ⟨hs, hl, hk⟩ X hX
    by_cases hz : s.length = 0
    · refine ⟨[], fun h => by simp [hz] at h, fun h => by simp [hz] at h, fun _ => ⟨hs, hl⟩⟩
    · have w : IntKind.i64.wrap ((s.length : Int) - 1) = ((s.length - 1 : Nat) : Int) := by rw [Zr (by omega)]; omega
      rw [w]
      obtain ⟨x, hx⟩ := Yp (l := s) (j := s.length - 1) (by omega)
      refine ⟨x, fun _ => hx, fun _ => ⟨by omega, ?_⟩, fun _ => ⟨hs, hl⟩⟩
      refine hX (s.length - 1) _ (by omega) ⟨by simp; omega, fun l h => hl l (List.mem_of_mem_take h), by simp⟩
  refine Kq (I := fun k s => ∃ i : Nat, s.2.2.2.2 = (i : Int) ∧ s.2.2.2.1.length ≤ 1000 ∧ i + s.2.2.2.1.length ≤ a0.length + 1000 ∧ s.2.2.1.length = i ∧ (∀ l ∈ s.2.2.1, l.length ≤ 3000) ∧ (a4 ≤ s.2.1 ∧ s.2.1 ≤ a4 + i) ∧ k = (a0.length - i) * 1001 + s.2.2.2.1.length) ?_ (k := a0.length * 1001) ⟨0, rfl, by simp, by simp, rfl, by simp, by simp, by simp⟩
  rintro k ⟨sl, po, out, carry, i'⟩ ⟨i, hi, hc, hic, hout, hlen, hpo, hk⟩ X hX
  simp only at hi hc hic hout hlen hpo hk ⊢
  subst hi
  refine ⟨fun h => ?_, fun _ => trim sl po out (by omega) hlen⟩
  have tail : ∀ merged : List ByteArray, merged.length ≤ 2000 → (i < a0.length ∨ (merged.length = carry.length ∧ 0 < carry.length)) →
      ∃ v9, X0 merged v9 ∧ ((decide ((v9.length : Int) < a1) = true → (out.length + [v9].length) * 24 ≤ 140737488355328 ∧ X (sl, po, out ++ [v9], [], IntKind.i64.wrap ((i : Int) + 1))) ∧
        (decide ((v9.length : Int) < a1) = false → ∃ v13, W8 a3 po v13 ∧
          lp (fun (X14 : (List (List ByteArray)) × (List ByteArray) × (List ByteArray) × Int → Prop) (s14 : (List (List ByteArray)) × (List ByteArray) × (List ByteArray) × Int) => (((decide ((s14.2.2.2) < (IntKind.i64.wrap ((IntKind.i64.wrap ((((v9).length : Int)).tdiv (2))) * (2))))) = true → ∃ (v17 : ByteArray), ix (s14.2.2.1) (s14.2.2.2) v17 ∧ (((s14.2.1).length + ([(v17)]).length) * 16 ≤ 140737488355328) ∧ X14 ((s14.1), ((s14.2.1) ++ ([(v17)])), (s14.2.2.1), (IntKind.i64.wrap ((s14.2.2.2) + (2))))) ∧ ((decide ((s14.2.2.2) < (IntKind.i64.wrap ((IntKind.i64.wrap ((((v9).length : Int)).tdiv (2))) * (2))))) = false →
            ((0 : Int) ≤ (IntKind.u64.wrap (i : Int))) ∧ ∃ (v20 : Int × Bool), Jj sl (Wo .i64 (1) (IntKind.u64.wrap (i : Int))) v20 ∧ ((0 : Int) ≤ (IntKind.i64.wrap ((IntKind.i64.wrap ((((v9).length : Int)).tdiv (2))) * (2))) ∧ (IntKind.i64.wrap ((IntKind.i64.wrap ((((v9).length : Int)).tdiv (2))) * (2)) : Int) ≤ (((List.map eS (s14.2.2.1)).length : Nat) : Int)) ∧ (((s14.1).length + ([(List.take ((List.map eS (s14.2.2.1)).length - Int.toNat (IntKind.i64.wrap ((IntKind.i64.wrap ((((v9).length : Int)).tdiv (2))) * (2)))) (List.drop (0 + Int.toNat (IntKind.i64.wrap ((IntKind.i64.wrap ((((v9).length : Int)).tdiv (2))) * (2)))) (s14.2.2.1)))]).length) * 24 ≤ 140737488355328) ∧ X ((v20.1), (IntKind.i64.wrap (po + (1))), ((s14.1) ++ ([(List.take ((List.map eS (s14.2.2.1)).length - Int.toNat (IntKind.i64.wrap ((IntKind.i64.wrap ((((v9).length : Int)).tdiv (2))) * (2)))) (List.drop (0 + Int.toNat (IntKind.i64.wrap ((IntKind.i64.wrap ((((v9).length : Int)).tdiv (2))) * (2)))) (s14.2.2.1)))])), (s14.2.1), IntKind.i64.wrap ((i : Int) + 1))))) (out, ([] : (List ByteArray)), v9, v13))) := by
    intro merged hm hpr
    obtain ⟨v9, e9, l9⟩ := Gh merged (by omega)
    have hw1 : IntKind.i64.wrap ((i : Int) + 1) = ((i + 1 : Nat) : Int) := by rw [Zr (by omega)]; omega
    have ht : (v9.length : Int).tdiv 2 = ((v9.length / 2 : Nat) : Int) := by rw [Int.tdiv_eq_ediv_of_nonneg (by omega)]; omega
    have hw2 : IntKind.i64.wrap (IntKind.i64.wrap ((v9.length : Int).tdiv 2) * 2) = ((v9.length / 2 * 2 : Nat) : Int) := by
      rw [ht, Zr (n := ((v9.length / 2 : Nat) : Int)) (by omega), Zr (by omega)]; omega
    have hmeas : ∀ c : Nat, c ≤ v9.length / 2 → (a0.length - (i + 1)) * 1001 + c < k ∧ i + 1 + c ≤ a0.length + 1000 ∧ c ≤ 1000 := by
      intro c hcc
      rcases hpr with h | ⟨h, h'⟩
      · refine ⟨?_, by omega, by omega⟩
        have : a0.length - i = (a0.length - (i + 1)) + 1 := by omega
        rw [hk, this, Nat.add_mul]; omega
      · have hle : a0.length - (i + 1) ≤ a0.length - i := by omega
        have hle2 := Nat.mul_le_mul_right 1001 hle
        refine ⟨by omega, by omega, by omega⟩
    refine ⟨v9, e9, ?_⟩
    rw [hw1, hw2]
    refine ⟨fun h => ⟨by simp; omega, ?_⟩, fun h => ?_⟩
    · obtain ⟨m1, m2, m3⟩ := hmeas 0 (by omega)
      refine hX _ _ m1 ⟨i + 1, rfl, by simp, by simpa using m2, by simp [hout], ?_, by simp only; omega, rfl⟩
      intro l hl
      rcases List.mem_append.1 hl with h | h
      · exact hlen l h
      · simp at h; rw [h]; omega
    · obtain ⟨v13, e13, b0, b1⟩ := Lo a3 po h3 (by omega) (by omega)
      refine ⟨v13, e13, ?_⟩
      refine Kq (I := fun k s => ∃ h : Nat, s.1 = out ∧ s.2.1.length = h ∧ s.2.2.1 = v9 ∧ s.2.2.2 = v13 + 2 * (h : Int) ∧ h ≤ v9.length / 2 ∧ k = v9.length / 2 - h) ?_ (k := v9.length / 2) ⟨0, rfl, rfl, rfl, by simp, by omega, by omega⟩
      rintro k14 ⟨o, half, v, kk⟩ ⟨nh, ho, hh, hv, hkk, hle, hk14⟩ X14 hX14
      simp only at ho hh hv hkk ⊢
      subst ho; subst hv
      refine ⟨fun hlt => ?_, fun hge => ?_⟩
      · have hlt' : kk < ((v.length / 2 * 2 : Nat) : Int) := by simpa using hlt
        obtain ⟨y, hy, _⟩ := Jd (l := v) (n := kk) (by omega) (by omega)
        refine ⟨y, hy, by simp; omega, ?_⟩
        rw [Zr (by omega)]
        exact hX14 (v.length / 2 - (nh + 1)) _ (by omega) ⟨nh + 1, rfl, by simp [hh], rfl, by simp only; omega, by omega, rfl⟩
      · obtain ⟨v20, e20⟩ := XG sl (Wo .i64 (1) (IntKind.u64.wrap (i : Int)))
        refine ⟨(Bm _).1, v20, e20, ⟨by omega, by simp; omega⟩, by simp; omega, ?_⟩
        rw [Zr (n := po + 1) (by omega)]
        obtain ⟨m1, m2, m3⟩ := hmeas half.length (by omega)
        refine hX _ _ m1 ⟨i + 1, rfl, m3, m2, by simp [hout], ?_, by simp only; omega, rfl⟩
        intro l hl
        rcases List.mem_append.1 hl with h | h
        · exact hlen l h
        · simp only [List.mem_singleton] at h; rw [h, List.length_take, List.length_drop]; omega
  refine ⟨fun h2 => ?_, fun h2 => ?_⟩
  · have hi2 : i < a0.length := by simp at h2; omega
    obtain ⟨x, hx, hg⟩ := Jd (l := a0) (n := (i : Int)) (by omega) (by omega)
    have hxl : x.length ≤ 1000 := hM x (List.mem_of_getElem? hg)
    exact ⟨x, hx, by omega, by omega, tail (x ++ carry) (by simp; omega) (.inl hi2)⟩
  · have hi2 : ¬ i < a0.length := by simp at h2; omega
    have hcp : 0 < carry.length := by
      rw [h2] at h; simp at h
      rcases Nat.eq_zero_or_pos carry.length with h' | h'
      · simp_all
      · exact h'
    exact tail carry (by omega) (.inr ⟨rfl, hcp⟩)
theorem Cy (c : Qk) (x : Qh) (a2 : List Int) (a3 : Int) (h3 : a2.length ≤ 1000000) : ∃ v, JJ c x a2 a3 v ∧ v.1.fx.length ≤ 3000 ∧ ∀ l ∈ v.1.fx, l.length ≤ 3000 := by
  refine Cl (Post := fun v => v.1.fx.length ≤ 3000 ∧ ∀ l ∈ v.1.fx, l.length ≤ 3000) ?_
  unfold KU
  simp only [jn]
  obtain ⟨v2, e2, ok⟩ := XF c
  obtain ⟨v4, e4, ok4⟩ := K2 x
  refine ⟨v2, e2, fun _ => by simp, fun h2 => ⟨v4, e4, fun _ => by simp, fun h4 => ⟨_, rfl, fun _ => by simp, fun h5 => ?_⟩⟩⟩
  obtain ⟨hs, ht, hsl, hll, hx⟩ := ok (by simpa using h2)
  have hp : 0 ≤ a3 ∧ a3 ≤ 1073741824 := by
    rw [JO] at h5; simpa using h5
  obtain ⟨v7, e7⟩ := XG c.fp x.fa8
  have hlev : ∀ l ∈ c.fx, l.length ≤ 100 := fun l hl => by have := (hx l hl).1; omega
  refine ⟨v7, e7, fun _ => ⟨(show c.fx.length ≤ 3000 by omega), fun l hl => by have := hlev l hl; omega⟩, fun _ => ⟨by omega, ?_⟩⟩
  obtain ⟨v10, e10, l10, r10⟩ := Gg x.fa8
  refine ⟨v10, e10, ?_⟩
  refine Kq (I := fun k s => ∃ j : Nat, s.2.2 = (j : Int) ∧ j ≤ v10.length ∧ s.2.1 = v10 ∧ k = v10.length - j ∧ s.1.length ≤ 200 ∧ ∀ l ∈ s.1, l.length ≤ 100 + j) ?_ (k := v10.length) ⟨0, rfl, by omega, rfl, by omega, by simp only; omega, by simpa using hlev⟩
  rintro k ⟨L, P, i⟩ ⟨j, hj, hj1, hP, hk, hL, hLl⟩ X hX
  simp only at hj hP hL hLl ⊢
  subst hj; subst hP
  refine ⟨fun h => ?_, fun _ => ?_⟩
  · have hj2 : j < P.length := by simp at h; omega
    obtain ⟨q, hq, hqg⟩ := Jd (l := P) (n := (j : Int)) (by omega) (by omega)
    have hqr := r10 q (List.mem_of_getElem? hqg)
    refine Kq (I := fun k s => s.2 = P ∧ s.1.length ≤ 200 ∧ (∀ l ∈ s.1, l.length ≤ 100 + j) ∧ k = 201 - s.1.length) ?_ (k := 201 - L.length) ⟨rfl, hL, hLl, rfl⟩
    rintro k2 ⟨L2, P2⟩ ⟨hP2, hL2, hL2l, hk2⟩ X2 hX2
    simp only at hP2 hL2 hL2l hk2 ⊢
    subst hP2
    refine ⟨q, hq, fun h => ⟨by simp; omega, ?_⟩, fun h => ?_⟩
    · have h' : (L2.length : Int) ≤ q := by simpa using h
      refine hX2 (201 - (L2 ++ [[]]).length) _ (by simp; omega) ⟨rfl, by simp; omega, fun l hl => ?_, rfl⟩
      rcases List.mem_append.1 hl with h | h
      · exact hL2l l h
      · simp at h; rw [h]; simp
    · have h' : q < L2.length := by simpa using h
      obtain ⟨y, hy, hyg⟩ := Jd (l := L2) (n := q) (by omega) h'
      have hyl := hL2l y (List.mem_of_getElem? hyg)
      refine ⟨q, hq, q, hq, y, hy, by omega, by simp; omega, y, hy, ?_⟩
      rw [Zr (by omega)]
      refine hX (P2.length - (j + 1)) _ (by omega) ⟨j + 1, by simp, by omega, rfl, rfl, by simpa using hL2, fun l hl => ?_⟩
      rcases List.mem_or_eq_of_mem_set hl with h | h
      · have := hL2l l h; omega
      · rw [h]; simp; omega
  · obtain ⟨v26, e26, a26, b26⟩ := Gi L c.fg c.fb2 a2 a3 (by omega) (fun l hl => by have := hLl l hl; omega) h3 hp
    exact ⟨v26, e26, a26, b26⟩
def zSk : Qc := Qc.mk (Q9.mk (0) (0) (0) (0)) (Qp.mk (0) (0) (false)) (Qa.mk (0) (0) (0) ([] : (List Int)) (false)) (Qj.mk (0) (0) ([] : (List Int))) (Qs.mk (0) (0) ([] : (List Q1)) (false)) (Qe.mk (0) (0) (0) ([] : (List Q1)) (false)) (Qk.mk (0) (0) (0) ([] : (List (List ByteArray))) (false))
theorem Hq : Iw zSk := by simp [Iw, zSk]
theorem FE (s : Qc) (x : Qh) (a2 : List Int) (a3 : Int) (h : Iw s) (h2 : a2.length ≤ 1000000) : ∃ v, Xx s x a2 a3 v ∧ Iw v.1 := by
  refine Fj (Post := fun v => Iw v.1) ?_
  unfold Vk
  simp only [jn]
  obtain ⟨v2, e2, _⟩ := UN s h
  obtain ⟨v4, e4, _⟩ := K2 x
  obtain ⟨z1, z2, z3, z4, z5, z6⟩ := h
  refine ⟨v2, e2, fun _ => Hq, fun _ => ⟨v4, e4, fun _ => Hq, fun _ => ⟨_, rfl, fun _ => Hq, fun _ => ?_⟩⟩⟩
  obtain ⟨u1, t1⟩ := Cw s.fy x
  obtain ⟨u2, t2, q2⟩ := AE s.fc x
  obtain ⟨u3, t3, q3⟩ := BC s.f4 x
  obtain ⟨u4, t4, q4⟩ := E0 s.fa7 x
  obtain ⟨u5, t5, q5⟩ := AF s.ff x
  obtain ⟨u6, t6, q6, q7⟩ := Cy s.fq x a2 a3 h2
  refine ⟨fun _ => ⟨u1, t1, z1, z2, z3, z4, z5, z6⟩, fun _ => ⟨fun _ => ⟨u2, t2, ?_, z2, z3, z4, z5, z6⟩, fun _ => ⟨fun _ => ⟨u3, t3, z1, ?_, z3, z4, z5, z6⟩, fun _ => ⟨fun _ => ⟨u4, t4, z1, z2, ?_, z4, z5, z6⟩, fun _ => ⟨fun _ => ⟨u5, t5, z1, z2, z3, ?_, z5, z6⟩, fun _ => ⟨u6, t6, z1, z2, z3, z4, ?_, ?_⟩⟩⟩⟩⟩⟩
  · simp only; omega
  · simp only; omega
  · simp only; omega
  · simp only; omega
  · simp only; omega
  · intro l hl; have := q7 l hl; omega
theorem Cz (a b d : Int) : ∃ v, JF a b d v ∧ v.1.fa9.length ≤ 1000 := by
  refine Cd (Post := fun v => v.1.fa9.length ≤ 1000) ?_
  unfold KR
  simp only [ZG, exists_eq_left, Jr]
  refine ⟨_, fun _ => rfl, fun _ => by simp, fun h => ?_⟩
  have h' : (1 ≤ a ∧ a ≤ 8) ∧ 1 ≤ b ∧ b ≤ 64 := by simpa [wI] using h
  have hm := Hl h'.1 h'.2
  rw [Zr (by omega)]
  exact ⟨⟨by omega, by omega⟩, by simp; omega⟩
theorem E2 (a b : Int) : ∃ v, Vi a b v ∧ v.1.f5.length ≤ 1000 := by
  refine DI (Post := fun v => v.1.f5.length ≤ 1000) ?_
  unfold Jy
  simp only [ZG, exists_eq_left]
  refine ⟨fun _ => by simp, fun h => ?_⟩
  have h' : 2 ≤ a ∧ a ≤ 8 := by simpa [wI] using h
  have hm := NJ h'
  exact ⟨(Bm _).1, ⟨by omega, by omega⟩, by simp; omega⟩
theorem Gj (a : Int) : ∃ v, Y4 a v ∧ v.1.fh.length ≤ 1000 := by
  refine FR (Post := fun v => v.1.fh.length ≤ 1000) ?_
  unfold VW
  simp only [ZG, exists_eq_left]
  exact ⟨fun _ => by simp, fun _ => by simp⟩
theorem CB (a : Int) : ∃ v, JG a v ∧ v.1.fh.length ≤ 1000 := by
  refine Cf (Post := fun v => v.1.fh.length ≤ 1000) ?_
  unfold KS
  simp only [ZG, exists_eq_left]
  exact ⟨fun _ => by simp, fun _ => by simp⟩
theorem EA (a : Int) : ∃ v, VQ a v ∧ v.1.fx = [] := by
  refine Eo (Post := fun v => v.1.fx = []) ?_
  unfold JV
  simp only [ZG, exists_eq_left]
  exact ⟨fun _ => by simp, fun _ => by simp⟩
theorem Ix (p : Q9) : ∃ v, Ww p v ∧ Iw v.1 := by
  refine Ih (Post := fun v => Iw v.1) ?_
  unfold Yy
  simp only [jn]
  obtain ⟨u2, t2, q2⟩ := Cz p.fu p.fg p.fw
  obtain ⟨u3, t3, q3⟩ := E2 p.fg p.fw
  obtain ⟨u4, t4, q4⟩ := Gj p.fg
  obtain ⟨u5, t5, q5⟩ := CB p.fg
  obtain ⟨u6, t6, q6⟩ := EA p.fg
  refine ⟨_, VL p, fun _ => Hq, fun _ => ⟨fun _ => ⟨u2, t2, ?_⟩, fun _ => ⟨fun _ => ⟨u3, t3, ?_⟩, fun _ => ⟨fun _ => ⟨u4, t4, ?_⟩, fun _ => ⟨fun _ => ⟨u5, t5, ?_⟩, fun _ => ⟨fun _ => ⟨u6, t6, ?_⟩, fun _ => ?_⟩⟩⟩⟩⟩⟩ <;> simp [Iw] <;> try omega
  rw [q6]; simp
theorem Iy (p : Q9) (l : List Qh) (cs : List Int) (hl : l.length ≤ 1000000) (hc : cs.length ≤ 1000000) : ∃ s, Wy p l cs s ∧ Iw s := by
  refine Io (Post := fun s => Iw s) ?_
  unfold YC
  simp only [jn]
  obtain ⟨v1, e1, z⟩ := Ix p
  refine ⟨v1, e1, ?_⟩
  refine Kq (I := fun k s => ∃ j : Nat, s.2.1 = (j : Int) ∧ j ≤ l.length ∧ k = l.length - j ∧ Iw (Qc.mk (Q9.mk (s.2.2.1) (s.2.2.2.1) (s.2.2.2.2.1) (s.2.2.2.2.2.1)) (Qp.mk (s.2.2.2.2.2.2.1) (s.2.2.2.2.2.2.2.1) (s.2.2.2.2.2.2.2.2.1)) (Qa.mk (s.2.2.2.2.2.2.2.2.2.1) (s.2.2.2.2.2.2.2.2.2.2.1) (s.2.2.2.2.2.2.2.2.2.2.2.1) (s.2.2.2.2.2.2.2.2.2.2.2.2.1) (s.2.2.2.2.2.2.2.2.2.2.2.2.2.1)) (Qj.mk (s.2.2.2.2.2.2.2.2.2.2.2.2.2.2.1) (s.2.2.2.2.2.2.2.2.2.2.2.2.2.2.2.1) (s.2.2.2.2.2.2.2.2.2.2.2.2.2.2.2.2.1)) (Qs.mk (s.2.2.2.2.2.2.2.2.2.2.2.2.2.2.2.2.2.1) (s.2.2.2.2.2.2.2.2.2.2.2.2.2.2.2.2.2.2.1) (s.2.2.2.2.2.2.2.2.2.2.2.2.2.2.2.2.2.2.2.1) (s.2.2.2.2.2.2.2.2.2.2.2.2.2.2.2.2.2.2.2.2.1)) (Qe.mk (s.2.2.2.2.2.2.2.2.2.2.2.2.2.2.2.2.2.2.2.2.2.1) (s.2.2.2.2.2.2.2.2.2.2.2.2.2.2.2.2.2.2.2.2.2.2.1) (s.2.2.2.2.2.2.2.2.2.2.2.2.2.2.2.2.2.2.2.2.2.2.2.1) (s.2.2.2.2.2.2.2.2.2.2.2.2.2.2.2.2.2.2.2.2.2.2.2.2.1) (s.2.2.2.2.2.2.2.2.2.2.2.2.2.2.2.2.2.2.2.2.2.2.2.2.2.1)) (Qk.mk (s.2.2.2.2.2.2.2.2.2.2.2.2.2.2.2.2.2.2.2.2.2.2.2.2.2.2.1) (s.2.2.2.2.2.2.2.2.2.2.2.2.2.2.2.2.2.2.2.2.2.2.2.2.2.2.2.1) (s.2.2.2.2.2.2.2.2.2.2.2.2.2.2.2.2.2.2.2.2.2.2.2.2.2.2.2.2.1) (s.2.2.2.2.2.2.2.2.2.2.2.2.2.2.2.2.2.2.2.2.2.2.2.2.2.2.2.2.2.1) (s.2.2.2.2.2.2.2.2.2.2.2.2.2.2.2.2.2.2.2.2.2.2.2.2.2.2.2.2.2.2)))) ?_ (k := l.length) ⟨0, rfl, by omega, by omega, z⟩
  rintro k s ⟨j, hj, hj1, hk, hz⟩ X hX
  rw [hj]
  refine ⟨fun h => ?_, fun _ => hz⟩
  have hj2 : j < l.length := by simp at h; omega
  obtain ⟨x, hx⟩ := Yp hj2
  obtain ⟨v7, e7, z7⟩ := FE _ x cs s.1 hz hc
  refine ⟨x, hx, v7, e7, ?_⟩
  rw [Zr (by omega)]
  exact hX (l.length - (j + 1)) _ (by omega) ⟨j + 1, by simp, by omega, rfl, z7⟩
theorem Gk (l : List Int) (hl : l.length ≤ 4611686018427387904) : ∃ s, Y8 l s ∧ Iw s := by
  refine G5 (Post := fun s => Iw s) ?_
  unfold Xa
  simp only [bA7]
  obtain ⟨v1, e1, _⟩ := WT l 0 hl (by omega) (by omega)
  obtain ⟨v2, e2, _⟩ := BS v1
  obtain ⟨v4, e4, _⟩ := WT l 1 hl (by omega) (by omega)
  obtain ⟨v5, e5, l5, _⟩ := Di (List.drop (Int.toNat (Y3 (((l).length : Int)) (2))) l) (v4 % 8) (by simp; omega) (by omega) (by omega)
  obtain ⟨v6, e6, _⟩ := WT l 9 hl (by omega) (by omega)
  obtain ⟨v7, e7, l7⟩ := Dj v6
  obtain ⟨v8, e8, z8⟩ := Iy v2 v5 v7 (by omega) (by omega)
  exact ⟨v1, e1, v2, e2, ⟨by unfold Y3; split <;> omega, by unfold Y3; split <;> omega⟩, v4, e4, v5, e5, v6, e6, v7, e7, v8, e8, z8⟩
theorem Zc (a : Int) (h : a < 18446744073709551616) : ∃ r, Z2 a r ∧ r.length ≤ 9 := by
  refine Ic (Post := fun r => r.length ≤ 9) ?_
  unfold Yu
  simp only [jn, shr8]
  refine ⟨fun _ => by simp, fun _ => ?_⟩
  refine Kq (I := fun k s => s.2.length ≤ 8 ∧ k = 8 - s.2.length ∧ s.1 < 256 ^ (8 - s.2.length)) ?_ (k := 8) ⟨by simp, by simp, by simpa using h⟩
  rintro k ⟨x, l⟩ ⟨hl, hk, hx⟩ X hX
  simp only at hl hk hx ⊢
  refine ⟨fun hp => ?_, fun _ => ⟨by simp; omega, by simp; omega⟩⟩
  have hp' : 0 < x := by simpa using hp
  have hl7 : l.length < 8 := by
    rcases Nat.lt_or_ge l.length 8 with h | h
    · exact h
    · have : l.length = 8 := by omega
      rw [this] at hx; simp at hx; omega
  refine ⟨by simp; omega, hX (8 - ([IntKind.u8.wrap x] ++ l).length) _ (by simp; omega) ⟨by simp; omega, rfl, ?_⟩⟩
  have e : 8 - l.length = (8 - ([IntKind.u8.wrap x] ++ l).length) + 1 := by simp; omega
  rw [e, Int.pow_succ] at hx
  generalize (256 : Int) ^ (8 - ([IntKind.u8.wrap x] ++ l).length) = M at hx ⊢
  show x / 256 < M
  omega
theorem EB (l : List Int) (hl : l.length ≤ 4611686018427387904) : ∃ r, VP l r := by
  obtain ⟨v, hv, _⟩ := El (Post := fun _ => True) (a0 := l) (by
    unfold JU
    simp only [jn]
    refine Kq (I := fun k s => ∃ j : Nat, s.2.2 = (j : Int) ∧ j ≤ l.length ∧ k = l.length - j) ?_ (k := l.length) ⟨0, rfl, by omega, by omega⟩
    rintro k ⟨a, b, i⟩ ⟨j, hj, hj1, hk⟩ X hX
    simp only at hj ⊢
    subst hj
    refine ⟨fun h => ?_, fun _ => trivial⟩
    have hj2 : j < l.length := by simp at h; omega
    obtain ⟨x, hx⟩ := Yp hj2
    refine ⟨x, hx, ?_⟩
    rw [Zr (by omega)]
    exact hX (l.length - (j + 1)) _ (by omega) ⟨j + 1, by simp, by omega, rfl⟩)
  exact ⟨v, hv⟩
theorem Dn (t : Int) (l : List Int) : ∃ r, VH t l r ∧ r.1.length ≤ l.length + 14 := by
  refine H6 (Post := fun r => r.1.length ≤ l.length + 14) ?_
  unfold XK
  refine ⟨fun _ => by simp, fun h => ?_⟩
  have h' : (l.length : Int) ≤ 1048576 := by simpa using h
  obtain ⟨v2, e2, l2⟩ := Zc (l.length : Int) (by omega)
  obtain ⟨v5, e5⟩ := EB (([t] ++ v2) ++ l) (by simp; omega)
  exact ⟨v2, e2, by simp; omega, by simp; omega, v5, e5, by simp; omega, by simp; omega⟩
theorem WB (b : Bool) : ∃ r, V0 b r ∧ r.length = 1 := by
  refine Ie (Post := fun r => r.length = 1) ?_
  exact ⟨fun _ => rfl, fun _ => rfl⟩
theorem Ee (a : Int) : ∃ r, Yw a r ∧ r.length ≤ 8 := by
  refine If (Post := fun r => r.length ≤ 8) ?_
  unfold Yv
  simp only [jn]
  refine Kq (I := fun k s => -1 ≤ s.2 ∧ (s.1.length : Int) = 7 - s.2 ∧ k = (s.2 + 1).toNat) ?_ (k := 8) ⟨by decide, rfl, rfl⟩
  rintro k ⟨l, i⟩ ⟨h0, h1, hk⟩ X hX
  simp only at h0 h1 hk ⊢
  refine ⟨fun h => ?_, fun h => by simp at h; omega⟩
  have hi : 0 ≤ i := by simpa using h
  refine ⟨(Bm _).1, by simp; omega, ?_⟩
  rw [Zr (n := i - 1) (by omega)]
  exact hX (i - 1 + 1).toNat _ (by omega) ⟨by simp only; omega, by simp; omega, rfl⟩
theorem Bg (s : ByteArray) (h : s.size ≤ 32) : ∃ r, Xs s r ∧ r.length ≤ 41 := by
  refine Ig (Post := fun r => r.length ≤ 41) ?_
  unfold Yx
  obtain ⟨v, e, l⟩ := Zc (s.size : Int) (by omega)
  have hs : (sI s).length = s.size := Gn s
  exact ⟨v, e, by omega, by simp; omega⟩
theorem CC (t : Qp) : ∃ r, JD t r ∧ r.1.length ≤ 60000 := by
  refine C8 (Post := fun r => r.1.length ≤ 60000) ?_
  unfold KP
  obtain ⟨v2, e2, ok⟩ := XE t
  refine ⟨v2, e2, fun _ => by simp, fun h2 => ?_⟩
  have ok := ok (by simpa using h2)
  obtain ⟨v3, e3, l3⟩ := Zc t.fp (by omega)
  obtain ⟨v4, e4, l4⟩ := Zc t.f0 (by omega)
  obtain ⟨v6, e6, l6⟩ := WB t.fb
  exact ⟨v3, e3, v4, e4, by omega, v6, e6, by simp; omega, by simp; omega⟩
theorem AG (c : Qa) : ∃ r, KE c r ∧ r.1.length ≤ 60000 := by
  refine Ap (Post := fun r => r.1.length ≤ 60000) ?_
  unfold K6
  simp only [jn]
  obtain ⟨v2, e2, ok⟩ := Vu c
  refine ⟨v2, e2, fun _ => by simp, fun h2 => ?_⟩
  obtain ⟨hd, hs, hl, hx⟩ := ok (by simpa using h2)
  have hm := Hl hd hs
  obtain ⟨v3, e3, l3⟩ := Zc c.fu (by omega)
  obtain ⟨v4, e4, l4⟩ := Zc c.fg (by omega)
  obtain ⟨v6, e6, l6⟩ := Ee c.fw
  refine ⟨v3, e3, v4, e4, by omega, v6, e6, by simp; omega, ?_⟩
  refine Kq (I := fun k s => ∃ j : Nat, s.2 = (j : Int) ∧ j ≤ c.fa9.length ∧ k = c.fa9.length - j ∧ s.1.length ≤ 26 + 9 * j) ?_ (k := c.fa9.length) ⟨0, rfl, by omega, by omega, by simp; omega⟩
  rintro k ⟨a, i⟩ ⟨j, hj, hj1, hk, ha⟩ X hX
  simp only at hj ha ⊢
  subst hj
  refine ⟨fun h => ?_, fun _ => ?_⟩
  · have hj2 : j < c.fa9.length := by simp at h; omega
    obtain ⟨x, hx1, hg⟩ := Jd (l := c.fa9) (n := (j : Int)) (by omega) (by omega)
    have hxr := hx x (List.mem_of_getElem? hg)
    obtain ⟨v13, e13, l13⟩ := Zc x (by omega)
    refine ⟨x, hx1, v13, e13, by omega, ?_⟩
    rw [Zr (by omega)]
    exact hX (c.fa9.length - (j + 1)) _ (by omega) ⟨j + 1, by simp, by omega, rfl, by simp; omega⟩
  · obtain ⟨v15, e15, l15⟩ := WB c.fb
    exact ⟨v15, e15, by omega, by simp; omega⟩
theorem BD (c : Qj) : ∃ r, Jl c r ∧ r.1.length ≤ 60000 := by
  refine Bp (Post := fun r => r.1.length ≤ 60000) ?_
  unfold Kx
  simp only [jn]
  obtain ⟨v2, e2, ok⟩ := Xh c
  refine ⟨v2, e2, fun _ => by simp, fun h2 => ?_⟩
  obtain ⟨hp, hl, hlen, hx⟩ := ok (by simpa using h2)
  obtain ⟨v3, e3, l3⟩ := Zc c.f8 (by omega)
  obtain ⟨v4, e4, l4⟩ := Ee c.fw
  refine ⟨v3, e3, v4, e4, by omega, ?_⟩
  refine Kq (I := fun k s => ∃ j : Nat, s.2 = (j : Int) ∧ j ≤ c.f5.length ∧ k = c.f5.length - j ∧ s.1.length ≤ 17 + j) ?_ (k := c.f5.length) ⟨0, rfl, by omega, by omega, by simp; omega⟩
  rintro k ⟨a, i⟩ ⟨j, hj, hj1, hk, ha⟩ X hX
  simp only at hj ha ⊢
  subst hj
  refine ⟨fun h => ?_, fun _ => by omega⟩
  have hj2 : j < c.f5.length := by simp at h; omega
  obtain ⟨x, hx1⟩ := Yp hj2
  refine ⟨x, hx1, by simp; omega, ?_⟩
  rw [Zr (by omega)]
  exact hX (c.f5.length - (j + 1)) _ (by omega) ⟨j + 1, by simp, by omega, rfl, by simp; omega⟩
theorem E3 (c : Qs) : ∃ r, Vg c r ∧ r.1.length ≤ 60000 := by
  refine DF (Post := fun r => r.1.length ≤ 60000) ?_
  unfold Jx
  simp only [jn]
  obtain ⟨v2, e2, ok⟩ := Yo c
  refine ⟨v2, e2, fun _ => by simp, fun h2 => ?_⟩
  obtain ⟨hs, ht, hl, hx⟩ := ok (by simpa using h2)
  obtain ⟨v3, e3, l3⟩ := Zc c.fg (by omega)
  obtain ⟨v4, e4, l4⟩ := Zc c.fp (by omega)
  obtain ⟨v6, e6, l6⟩ := WB c.fb
  obtain ⟨v8, e8, l8⟩ := Zc (c.fh.length : Int) (by omega)
  refine ⟨v3, e3, v4, e4, by omega, v6, e6, by simp; omega, v8, e8, by simp; omega, ?_⟩
  refine Kq (I := fun k s => ∃ j : Nat, s.2 = (j : Int) ∧ j ≤ c.fh.length ∧ k = c.fh.length - j ∧ s.1.length ≤ 28 + 59 * j) ?_ (k := c.fh.length) ⟨0, rfl, by omega, by omega, by simp; omega⟩
  rintro k ⟨a, i⟩ ⟨j, hj, hj1, hk, ha⟩ X hX
  simp only at hj ha ⊢
  subst hj
  refine ⟨fun h => ?_, fun _ => by omega⟩
  have hj2 : j < c.fh.length := by simp at h; omega
  obtain ⟨x, hx1, hg⟩ := Jd (l := c.fh) (n := (j : Int)) (by omega) (by omega)
  obtain ⟨k1, k2, k3⟩ := hx x (List.mem_of_getElem? hg)
  obtain ⟨v15, e15, l15⟩ := Bg x.fa4 (by omega)
  obtain ⟨v18, e18, l18⟩ := Zc x.fv (by omega)
  obtain ⟨v21, e21, l21⟩ := Zc x.fc2 (by omega)
  refine ⟨x, hx1, v15, e15, by omega, x, hx1, v18, e18, by simp; omega, x, hx1, v21, e21, by simp; omega, ?_⟩
  rw [Zr (by omega)]
  exact hX (c.fh.length - (j + 1)) _ (by omega) ⟨j + 1, by simp, by omega, rfl, by simp; omega⟩
theorem AH (c : Qe) : ∃ r, KF c r ∧ r.1.length ≤ 60000 := by
  refine Ar (Post := fun r => r.1.length ≤ 60000) ?_
  unfold K7
  simp only [jn]
  obtain ⟨v2, e2, ok⟩ := Vv c
  refine ⟨v2, e2, fun _ => by simp, fun h2 => ?_⟩
  obtain ⟨hs, ht, hlo, hl, hx⟩ := ok (by simpa using h2)
  obtain ⟨v3, e3, l3⟩ := Zc c.fg (by omega)
  obtain ⟨v4, e4, l4⟩ := Zc c.fp (by omega)
  obtain ⟨v5, e5, l5⟩ := Zc c.fb6 (by omega)
  obtain ⟨v6, e6, l6⟩ := WB c.fb
  obtain ⟨v8, e8, l8⟩ := Zc (c.fh.length : Int) (by omega)
  refine ⟨v3, e3, v4, e4, by omega, v5, e5, by simp; omega, v6, e6, by simp; omega, v8, e8, by simp; omega, ?_⟩
  refine Kq (I := fun k s => ∃ j : Nat, s.2 = (j : Int) ∧ j ≤ c.fh.length ∧ k = c.fh.length - j ∧ s.1.length ≤ 37 + 50 * j) ?_ (k := c.fh.length) ⟨0, rfl, by omega, by omega, by simp; omega⟩
  rintro k ⟨a, i⟩ ⟨j, hj, hj1, hk, ha⟩ X hX
  simp only at hj ha ⊢
  subst hj
  refine ⟨fun h => ?_, fun _ => by omega⟩
  have hj2 : j < c.fh.length := by simp at h; omega
  obtain ⟨x, hx1, hg⟩ := Jd (l := c.fh) (n := (j : Int)) (by omega) (by omega)
  obtain ⟨k1, k2, k3⟩ := hx x (List.mem_of_getElem? hg)
  obtain ⟨v15, e15, l15⟩ := Bg x.fa4 (by omega)
  obtain ⟨v18, e18, l18⟩ := Zc x.fv (by omega)
  refine ⟨x, hx1, v15, e15, by omega, x, hx1, v18, e18, by simp; omega, ?_⟩
  rw [Zr (by omega)]
  exact hX (c.fh.length - (j + 1)) _ (by omega) ⟨j + 1, by simp, by omega, rfl, by simp; omega⟩
theorem CE (c : Qk) : ∃ r, JE c r ∧ r.1.length ≤ 60000 := by
  refine Cb (Post := fun r => r.1.length ≤ 60000) ?_
  unfold KQ
  simp only [jn]
  obtain ⟨v2, e2, ok⟩ := XF c
  refine ⟨v2, e2, fun _ => by simp, fun h2 => ?_⟩
  obtain ⟨hs, ht, hlo, hl, hx⟩ := ok (by simpa using h2)
  obtain ⟨v3, e3, l3⟩ := Zc c.fg (by omega)
  obtain ⟨v4, e4, l4⟩ := Zc c.fp (by omega)
  obtain ⟨v5, e5, l5⟩ := Zc c.fb2 (by omega)
  obtain ⟨v6, e6, l6⟩ := WB c.fb
  obtain ⟨v8, e8, l8⟩ := Zc (c.fx.length : Int) (by omega)
  refine ⟨v3, e3, v4, e4, by omega, v5, e5, by simp; omega, v6, e6, by simp; omega, v8, e8, by simp; omega, ?_⟩
  refine Kq (I := fun k s => ∃ j : Nat, s.2 = (j : Int) ∧ j ≤ c.fx.length ∧ k = c.fx.length - j ∧ s.1.length ≤ 37 + 1280 * j) ?_ (k := c.fx.length) ⟨0, rfl, by omega, by omega, by simp; omega⟩
  rintro k ⟨a, i⟩ ⟨j, hj, hj1, hk, ha⟩ X hX
  simp only at hj ha ⊢
  subst hj
  refine ⟨fun h => ?_, fun _ => by omega⟩
  have hj2 : j < c.fx.length := by simp at h; omega
  obtain ⟨x, hx1, hg⟩ := Jd (l := c.fx) (n := (j : Int)) (by omega) (by omega)
  obtain ⟨k1, k2⟩ := hx x (List.mem_of_getElem? hg)
  obtain ⟨v17, e17, l17⟩ := Zc (x.length : Int) (by omega)
  refine ⟨x, hx1, v17, e17, by omega, ?_⟩
  refine Kq (I := fun k s => ∃ m : Nat, s.2 = (m : Int) ∧ m ≤ x.length ∧ k = x.length - m ∧ s.1.length ≤ 37 + 1280 * j + 9 + 41 * m) ?_ (k := x.length) ⟨0, rfl, by omega, by omega, by simp; omega⟩
  rintro kk ⟨b, ii⟩ ⟨m, hm, hm1, hkk, hb⟩ X2 hX2
  simp only at hm hb ⊢
  subst hm
  refine ⟨x, hx1, fun h3 => ?_, fun _ => ?_⟩
  · have hm2 : m < x.length := by simp at h3; omega
    obtain ⟨y, hy1, hg2⟩ := Jd (l := x) (n := (m : Int)) (by omega) (by omega)
    have hy := k2 y (List.mem_of_getElem? hg2)
    obtain ⟨v25, e25, l25⟩ := Bg y (by omega)
    refine ⟨x, hx1, y, hy1, v25, e25, by omega, ?_⟩
    rw [Zr (by omega)]
    exact hX2 (x.length - (m + 1)) _ (by omega) ⟨m + 1, by simp, by omega, rfl, by simp; omega⟩
  · rw [Zr (by omega)]
    exact hX (c.fx.length - (j + 1)) _ (by omega) ⟨j + 1, by simp, by omega, rfl, by simp only; omega⟩
theorem FF (s : Qc) (h : Iw s) : ∃ r, Xt s r ∧ r.1.length ≤ 60100 := by
  refine Fe (Post := fun r => r.1.length ≤ 60100) ?_
  unfold Vh
  simp only [jn]
  obtain ⟨v2, e2, hk⟩ := UN s h
  refine ⟨v2, e2, fun _ => by simp, fun h2 => ?_⟩
  have hk := hk (by simpa using h2)
  obtain ⟨v10, e10, l10⟩ := Zc s.fa.fk (by omega)
  have fin : ∀ p : List Int, p.length ≤ 60000 → ∃ (v10 : (List Int)), Z2 (s.fa.fk) v10 ∧ (((v10).length + (p).length) * 1 ≤ 140737488355328) ∧ ∃ (v12 : (List Int) × Int), VH (83) ((v10) ++ (p)) v12 ∧ v12.1.length ≤ 60100 := by
    intro p hp
    obtain ⟨v12, e12, l12⟩ := Dn 83 (v10 ++ p)
    exact ⟨v10, e10, by omega, v12, e12, by simp at l12; omega⟩
  obtain ⟨u1, t1, q1⟩ := CC s.fy
  obtain ⟨u2, t2, q2⟩ := AG s.fc
  obtain ⟨u3, t3, q3⟩ := BD s.f4
  obtain ⟨u4, t4, q4⟩ := E3 s.fa7
  obtain ⟨u5, t5, q5⟩ := AH s.ff
  obtain ⟨u6, t6, q6⟩ := CE s.fq
  exact ⟨fun _ => ⟨u1, t1, fin _ q1⟩, fun _ => ⟨fun _ => ⟨u2, t2, fin _ q2⟩, fun _ => ⟨fun _ => ⟨u3, t3, fin _ q3⟩, fun _ => ⟨fun _ => ⟨u4, t4, fin _ q4⟩, fun _ => ⟨fun _ => ⟨u5, t5, fin _ q5⟩, fun _ => ⟨u6, t6, fin _ q6⟩⟩⟩⟩⟩⟩
theorem Gl (s : Qc) (h : Iw s) : ∃ r, Wj s r ∧ r.length ≤ 65536 := by
  obtain ⟨v1, e1, l1⟩ := FF s h
  obtain ⟨v2, e2, l2⟩ := Dn 88 v1.1
  exact ⟨_, ⟨v1, e1, v2.1, ⟨v2, e2, rfl⟩, rfl⟩, by omega⟩
theorem XH {x : Qo} (hk : Kn x.fk) (h : ∀ f, f < 14 → if ZW x.fk f = true then Z6 x f = 0 else CF (UB x) f = true) : Js x = 0 := by
  have z : UP (A9 (UB x).kind (Z6 x)) = 0 := by
    refine Iq fun i hi => ?_
    rw [Fq] at hi
    rw [LQ _ _ hi]
    have := h i hi
    show (if ZW x.fk i = true then Z6 x i else 0) = 0
    split
    · rw [if_pos (by assumption)] at this; exact this
    · rfl
  unfold Js G8
  rw [if_neg (by simpa [UB] using hk), z, if_neg (by simp), if_pos]
  rw [List.all_eq_true]
  intro f hf
  have := h f (by simpa using hf)
  show (ZW x.fk f || CF (UB x) f) = true
  cases hm : ZW x.fk f
  · rw [hm] at this; simpa using this
  · rfl
theorem Iz : (ByteArray.empty).toList = [] := Yn
theorem vk1 (n : ByteArray) (p : Q9) (hn : Da n = true) (hp : U8 p.fk p.fg p.fu p.fw = 0) : Js (Qo.mk (1) (n) (ByteArray.empty) ([] : (List ByteArray)) p ([] : (List Qh)) ([] : (List Int)) (0) (0) (0) (0) (0) (0) (Qu.mk (0) (ByteArray.empty) (0) (0) (0)) ([] : (List Int))) = 0 := by
  refine XH (show Kn 1 from ⟨by decide, by decide⟩) fun f hf => ?_
  rcases YR hf with rfl | rfl | rfl | rfl | rfl | rfl | rfl | rfl | rfl | rfl | rfl | rfl | rfl | rfl <;> simp [ZW, Yl, Z6, CF, UB, Cp, Iz, hn, hp]
theorem vk2 (n : ByteArray) (hn : Da n = true) : Js (Qo.mk (2) (n) (ByteArray.empty) ([] : (List ByteArray)) (Q9.mk (0) (0) (0) (0)) ([] : (List Qh)) ([] : (List Int)) (0) (0) (0) (0) (0) (0) (Qu.mk (0) (ByteArray.empty) (0) (0) (0)) ([] : (List Int))) = 0 := by
  refine XH (show Kn 2 from ⟨by decide, by decide⟩) fun f hf => ?_
  rcases YR hf with rfl | rfl | rfl | rfl | rfl | rfl | rfl | rfl | rfl | rfl | rfl | rfl | rfl | rfl <;> simp [ZW, Yl, Z6, CF, UB, Cp, Iz, hn]
theorem vk3 (n m : ByteArray) (hn : Da n = true) (hm : Da m = true) : Js (Qo.mk (3) (n) (m) ([] : (List ByteArray)) (Q9.mk (0) (0) (0) (0)) ([] : (List Qh)) ([] : (List Int)) (0) (0) (0) (0) (0) (0) (Qu.mk (0) (ByteArray.empty) (0) (0) (0)) ([] : (List Int))) = 0 := by
  refine XH (show Kn 3 from ⟨by decide, by decide⟩) fun f hf => ?_
  rcases YR hf with rfl | rfl | rfl | rfl | rfl | rfl | rfl | rfl | rfl | rfl | rfl | rfl | rfl | rfl <;> simp [ZW, Yl, Z6, CF, UB, Cp, Iz, hn, hm]
theorem vk4   : Js (Qo.mk (4) (ByteArray.empty) (ByteArray.empty) ([] : (List ByteArray)) (Q9.mk (0) (0) (0) (0)) ([] : (List Qh)) ([] : (List Int)) (0) (0) (0) (0) (0) (0) (Qu.mk (0) (ByteArray.empty) (0) (0) (0)) ([] : (List Int))) = 0 := by
  refine XH (show Kn 4 from ⟨by decide, by decide⟩) fun f hf => ?_
  rcases YR hf with rfl | rfl | rfl | rfl | rfl | rfl | rfl | rfl | rfl | rfl | rfl | rfl | rfl | rfl <;> simp [ZW, Yl, Z6, CF, UB, Cp, Iz]
theorem vk5 (n : ByteArray) (q : Qu) (hn : Da n = true) (hq : AB q.fk q.fa4 q.fv q.fb9 q.fb8 = 0) : Js (Qo.mk (5) (n) (ByteArray.empty) ([] : (List ByteArray)) (Q9.mk (0) (0) (0) (0)) ([] : (List Qh)) ([] : (List Int)) (0) (0) (0) (0) (0) (0) q ([] : (List Int))) = 0 := by
  refine XH (show Kn 5 from ⟨by decide, by decide⟩) fun f hf => ?_
  rcases YR hf with rfl | rfl | rfl | rfl | rfl | rfl | rfl | rfl | rfl | rfl | rfl | rfl | rfl | rfl <;> simp [ZW, Yl, Z6, CF, UB, Cp, Iz, hn, hq]
theorem vk6 (n : ByteArray) (its : List Qh) (cs : List Int) (hn : Da n = true) (hi : Hz its = 0) (hc : De cs.length 64 = 0) : Js (Qo.mk (6) (n) (ByteArray.empty) ([] : (List ByteArray)) (Q9.mk (0) (0) (0) (0)) its cs (0) (0) (0) (0) (0) (0) (Qu.mk (0) (ByteArray.empty) (0) (0) (0)) ([] : (List Int))) = 0 := by
  refine XH (show Kn 6 from ⟨by decide, by decide⟩) fun f hf => ?_
  rcases YR hf with rfl | rfl | rfl | rfl | rfl | rfl | rfl | rfl | rfl | rfl | rfl | rfl | rfl | rfl <;> simp [ZW, Yl, Z6, CF, UB, Cp, Iz, hn, hi, hc]
theorem vk7 (n m : ByteArray) (cs : List Int) (hn : Da n = true) (hm : Da m = true) (hc : De cs.length 64 = 0) : Js (Qo.mk (7) (n) (m) ([] : (List ByteArray)) (Q9.mk (0) (0) (0) (0)) ([] : (List Qh)) cs (0) (0) (0) (0) (0) (0) (Qu.mk (0) (ByteArray.empty) (0) (0) (0)) ([] : (List Int))) = 0 := by
  refine XH (show Kn 7 from ⟨by decide, by decide⟩) fun f hf => ?_
  rcases YR hf with rfl | rfl | rfl | rfl | rfl | rfl | rfl | rfl | rfl | rfl | rfl | rfl | rfl | rfl <;> simp [ZW, Yl, Z6, CF, UB, Cp, Iz, hn, hm, hc]
theorem vk8 (n m : ByteArray) (cs : List Int) (e s : Int) (hn : Da n = true) (hm : Da m = true) (hc : De cs.length 64 = 0) (he : WA e 1 1048576 = 0) (hs : WA s 1 1048576 = 0) : Js (Qo.mk (8) (n) (m) ([] : (List ByteArray)) (Q9.mk (0) (0) (0) (0)) ([] : (List Qh)) cs e s (0) (0) (0) (0) (Qu.mk (0) (ByteArray.empty) (0) (0) (0)) ([] : (List Int))) = 0 := by
  refine XH (show Kn 8 from ⟨by decide, by decide⟩) fun f hf => ?_
  rcases YR hf with rfl | rfl | rfl | rfl | rfl | rfl | rfl | rfl | rfl | rfl | rfl | rfl | rfl | rfl <;> simp [ZW, Yl, Z6, CF, UB, Cp, Iz, hn, hm, hc, he, hs]
theorem vk9 (ns : List ByteArray) (hn : Hy ns = 0) : Js (Qo.mk (9) (ByteArray.empty) (ByteArray.empty) ns (Q9.mk (0) (0) (0) (0)) ([] : (List Qh)) ([] : (List Int)) (0) (0) (0) (0) (0) (0) (Qu.mk (0) (ByteArray.empty) (0) (0) (0)) ([] : (List Int))) = 0 := by
  refine XH (show Kn 9 from ⟨by decide, by decide⟩) fun f hf => ?_
  rcases YR hf with rfl | rfl | rfl | rfl | rfl | rfl | rfl | rfl | rfl | rfl | rfl | rfl | rfl | rfl <;> simp [ZW, Yl, Z6, CF, UB, Cp, Iz, hn]
theorem vk10 (h i : Int) (q : Qu) (hh : WA h 0 3 = 0) (hi : WA i 0 15 = 0) (hq : AB q.fk q.fa4 q.fv q.fb9 q.fb8 = 0) : Js (Qo.mk (10) (ByteArray.empty) (ByteArray.empty) ([] : (List ByteArray)) (Q9.mk (0) (0) (0) (0)) ([] : (List Qh)) ([] : (List Int)) (0) (0) h i (0) (0) q ([] : (List Int))) = 0 := by
  refine XH (show Kn 10 from ⟨by decide, by decide⟩) fun f hf => ?_
  rcases YR hf with rfl | rfl | rfl | rfl | rfl | rfl | rfl | rfl | rfl | rfl | rfl | rfl | rfl | rfl <;> simp [ZW, Yl, Z6, CF, UB, Cp, Iz, hh, hi, hq]
theorem vk11 (h : Int) (hh : WA h 0 3 = 0) : Js (Qo.mk (11) (ByteArray.empty) (ByteArray.empty) ([] : (List ByteArray)) (Q9.mk (0) (0) (0) (0)) ([] : (List Qh)) ([] : (List Int)) (0) (0) h (0) (0) (0) (Qu.mk (0) (ByteArray.empty) (0) (0) (0)) ([] : (List Int))) = 0 := by
  refine XH (show Kn 11 from ⟨by decide, by decide⟩) fun f hf => ?_
  rcases YR hf with rfl | rfl | rfl | rfl | rfl | rfl | rfl | rfl | rfl | rfl | rfl | rfl | rfl | rfl <;> simp [ZW, Yl, Z6, CF, UB, Cp, Iz, hh]
theorem vk12 (h i : Int) (hh : WA h 0 3 = 0) (hi : WA i 0 15 = 0) : Js (Qo.mk (12) (ByteArray.empty) (ByteArray.empty) ([] : (List ByteArray)) (Q9.mk (0) (0) (0) (0)) ([] : (List Qh)) ([] : (List Int)) (0) (0) h i (0) (0) (Qu.mk (0) (ByteArray.empty) (0) (0) (0)) ([] : (List Int))) = 0 := by
  refine XH (show Kn 12 from ⟨by decide, by decide⟩) fun f hf => ?_
  rcases YR hf with rfl | rfl | rfl | rfl | rfl | rfl | rfl | rfl | rfl | rfl | rfl | rfl | rfl | rfl <;> simp [ZW, Yl, Z6, CF, UB, Cp, Iz, hh, hi]
theorem vk13 (c n : Int) (hc : WA c 0 3 = 0) (hn : WA n 0 32 = 0) : Js (Qo.mk (13) (ByteArray.empty) (ByteArray.empty) ([] : (List ByteArray)) (Q9.mk (0) (0) (0) (0)) ([] : (List Qh)) ([] : (List Int)) (0) (0) (0) (0) c n (Qu.mk (0) (ByteArray.empty) (0) (0) (0)) ([] : (List Int))) = 0 := by
  refine XH (show Kn 13 from ⟨by decide, by decide⟩) fun f hf => ?_
  rcases YR hf with rfl | rfl | rfl | rfl | rfl | rfl | rfl | rfl | rfl | rfl | rfl | rfl | rfl | rfl <;> simp [ZW, Yl, Z6, CF, UB, Cp, Iz, hc, hn]
theorem vk14 (c : Int) (hc : WA c 0 3 = 0) : Js (Qo.mk (14) (ByteArray.empty) (ByteArray.empty) ([] : (List ByteArray)) (Q9.mk (0) (0) (0) (0)) ([] : (List Qh)) ([] : (List Int)) (0) (0) (0) (0) c (0) (Qu.mk (0) (ByteArray.empty) (0) (0) (0)) ([] : (List Int))) = 0 := by
  refine XH (show Kn 14 from ⟨by decide, by decide⟩) fun f hf => ?_
  rcases YR hf with rfl | rfl | rfl | rfl | rfl | rfl | rfl | rfl | rfl | rfl | rfl | rfl | rfl | rfl <;> simp [ZW, Yl, Z6, CF, UB, Cp, Iz, hc]
theorem vk15 (h i : Int) (hh : WA h 0 3 = 0) (hi : WA i 0 15 = 0) : Js (Qo.mk (15) (ByteArray.empty) (ByteArray.empty) ([] : (List ByteArray)) (Q9.mk (0) (0) (0) (0)) ([] : (List Qh)) ([] : (List Int)) (0) (0) h i (0) (0) (Qu.mk (0) (ByteArray.empty) (0) (0) (0)) ([] : (List Int))) = 0 := by
  refine XH (show Kn 15 from ⟨by decide, by decide⟩) fun f hf => ?_
  rcases YR hf with rfl | rfl | rfl | rfl | rfl | rfl | rfl | rfl | rfl | rfl | rfl | rfl | rfl | rfl <;> simp [ZW, Yl, Z6, CF, UB, Cp, Iz, hh, hi]
theorem vk16 (n : ByteArray) (d : List Int) (hn : Da n = true) (hd : De d.length 65536 = 0) : Js (Qo.mk (16) (n) (ByteArray.empty) ([] : (List ByteArray)) (Q9.mk (0) (0) (0) (0)) ([] : (List Qh)) ([] : (List Int)) (0) (0) (0) (0) (0) (0) (Qu.mk (0) (ByteArray.empty) (0) (0) (0)) d) = 0 := by
  refine XH (show Kn 16 from ⟨by decide, by decide⟩) fun f hf => ?_
  rcases YR hf with rfl | rfl | rfl | rfl | rfl | rfl | rfl | rfl | rfl | rfl | rfl | rfl | rfl | rfl <;> simp [ZW, Yl, Z6, CF, UB, Cp, Iz, hn, hd]
theorem vk17   : Js (Qo.mk (17) (ByteArray.empty) (ByteArray.empty) ([] : (List ByteArray)) (Q9.mk (0) (0) (0) (0)) ([] : (List Qh)) ([] : (List Int)) (0) (0) (0) (0) (0) (0) (Qu.mk (0) (ByteArray.empty) (0) (0) (0)) ([] : (List Int))) = 0 := by
  refine XH (show Kn 17 from ⟨by decide, by decide⟩) fun f hf => ?_
  rcases YR hf with rfl | rfl | rfl | rfl | rfl | rfl | rfl | rfl | rfl | rfl | rfl | rfl | rfl | rfl <;> simp [ZW, Yl, Z6, CF, UB, Cp, Iz]
theorem sho0 {n : Nat} {m : Int} (h : (n : Int) ≤ m) : De n m = 0 := by unfold De; rw [if_neg (by omega)]
theorem EC {n a b : Int} (h : a ≤ n ∧ n ≤ b) : WA n a b = 0 := by unfold WA; rw [if_pos h]
theorem il0 {l : List Qh} (h : 1 ≤ l.length ∧ l.length ≤ 64) (h2 : ∀ x ∈ l, Fx x = 0) : Hz l = 0 := by
  unfold Hz; rw [if_neg (by simpa using h)]
  exact Fy fun j x hx => h2 x (List.mem_of_getElem? hx)
theorem nl0 {l : List ByteArray} (h : 1 ≤ l.length ∧ l.length ≤ 16) (h2 : ∀ x ∈ l, Da x = true) : Hy l = 0 := by
  unfold Hy; rw [if_neg (by simpa using h)]
  exact Fy fun j x hx => by unfold Cp; rw [if_pos (h2 x (List.mem_of_getElem? hx))]
def CG (m : Nat) (x : Qo) : Prop := x.fa0.length ≤ m ∧ x.f0.length ≤ m ∧ x.fb0.length ≤ m ∧ x.fb3.length ≤ m ∧ 0 ≤ x.fa.fw ∧ x.fa.fw ≤ 18446744073709551615
theorem Mw (l : List Int) (i : Int) (hl : l.length ≤ 4611686018427387904) (h0 : 0 ≤ i) (h1 : i ≤ 900) (Q : Qo → Prop) (hQ : ∀ x, Js x = 0 → CG 65536 x → Q x) : W9 l i Q := by
  unfold W9
  obtain ⟨v1, e1, a1, b1⟩ := WT l i hl h0 (by omega)
  obtain ⟨v2, e2, a2, b2⟩ := WT l (IntKind.i64.wrap (i + 7)) hl (by rw [Zr (by omega)]; omega) (by rw [Zr (by omega)]; omega)
  refine ⟨v1, e1, v2, e2, ?_⟩
  simp only [jn, bA1, PQ, bA7]
  rw [Jc a1]
  have hk0 : 0 ≤ v1 % 20 ∧ v1 % 20 ≤ 19 := by omega
  obtain ⟨s5, es5, hs5⟩ := Um (QH .i64 v1 5)
  obtain ⟨s6, es6, hs6⟩ := Um (QH .i64 v1 6)
  obtain ⟨s7, es7, hs7⟩ := Um (QH .i64 v1 7)
  obtain ⟨s8, es8, hs8⟩ := Um (QH .i64 v1 8)
  obtain ⟨p, ep, gp⟩ := BS v2
  have hp := Mv gp
  obtain ⟨q, eq, hq⟩ := Dh v2
  obtain ⟨c, ec, hc⟩ := Dj v2
  have hc0 : De c.length 64 = 0 := sho0 (by omega)
  have i5 : i.tmod 5 = i % 5 := Jc h0
  have i7 : i.tmod 7 = i % 7 := Jc h0
  have m5 : 0 ≤ Y3 (l.length : Int) (i % 5) ∧ Y3 (l.length : Int) (i % 5) ≤ l.length := by unfold Y3; split <;> omega
  have m7 : 0 ≤ Y3 (l.length : Int) (i % 7) ∧ Y3 (l.length : Int) (i % 7) ≤ l.length := by unfold Y3; split <;> omega
  rw [i5, i7]
  generalize v1 % 20 = k at hk0 ⊢
  generalize QH .i64 v1 5 = t5 at *
  generalize QH .i64 v1 6 = t6 at *
  generalize QH .i64 v1 7 = t7 at *
  generalize QH .i64 v1 8 = t8 at *
  generalize QH .i64 v1 10 = t10
  generalize QH .i64 v1 11 = t11
  generalize QH .i64 v2 3 = u3
  have hks : k = 0 ∨ k = 1 ∨ k = 2 ∨ k = 3 ∨ k = 4 ∨ k = 5 ∨ k = 6 ∨ k = 7 ∨ k = 8 ∨ k = 9 ∨ k = 10 ∨ k = 11 ∨ k = 12 ∨ k = 13 ∨ k = 14 ∨ k = 15 ∨ k = 16 ∨ k = 17 ∨ k = 18 ∨ k = 19 := by omega
  have z0 : CG 65536 (Qo.mk 17 .empty .empty [] ⟨0, 0, 0, 0⟩ [] [] 0 0 0 0 0 0 ⟨0, .empty, 0, 0, 0⟩ []) := by simp [CG]
  have c1 : Q (Qo.mk 1 s5 .empty [] p [] [] 0 0 0 0 0 0 ⟨0, .empty, 0, 0, 0⟩ []) := hQ _ (vk1 _ _ hs5 hp) (by have hps : 0 ≤ p.fw ∧ p.fw ≤ 3 := (by unfold Ge at gp; omega); simp [CG]; omega)
  have c6 : ∃ v15, VD (List.drop (Int.toNat (Y3 (l.length : Int) (i % 5))) l) (IntKind.i64.wrap (1 + t7 % 8)) v15 ∧ Q (Qo.mk 6 s5 .empty [] ⟨0, 0, 0, 0⟩ v15 c 0 0 0 0 0 0 ⟨0, .empty, 0, 0, 0⟩ []) := by
    rw [Zr (by omega)]
    obtain ⟨v15, e15, l15, o15⟩ := Di (List.drop (Int.toNat (Y3 (l.length : Int) (i % 5))) l) (1 + t7 % 8) (by simp; omega) (by omega) (by omega)
    exact ⟨v15, e15, hQ _ (vk6 _ _ _ hs5 (il0 (by omega) o15) hc0) (by simp [CG]; omega)⟩
  obtain ⟨v15, e15, c6⟩ := c6
  have c9 : (0 ≤ IntKind.i64.wrap (IntKind.i64.wrap (1 + t10 % 2) + t11 % 2) ∧ IntKind.i64.wrap (IntKind.i64.wrap (1 + t10 % 2) + t11 % 2) ≤ 3) ∧ Q (Qo.mk 9 .empty .empty (List.take (Int.toNat (IntKind.i64.wrap (IntKind.i64.wrap (1 + t10 % 2) + t11 % 2))) [s5, s7, s8]) ⟨0, 0, 0, 0⟩ [] [] 0 0 0 0 0 0 ⟨0, .empty, 0, 0, 0⟩ []) := by
    have w : IntKind.i64.wrap (IntKind.i64.wrap (1 + t10 % 2) + t11 % 2) = 1 + t10 % 2 + t11 % 2 := by rw [Zr (n := 1 + t10 % 2) (by omega), Zr (by omega)]
    rw [w]
    refine ⟨by omega, hQ _ (vk9 _ (nl0 (by simp; omega) fun x hx => ?_)) (by simp [CG]; omega)⟩
    have := List.mem_of_mem_take hx
    simp at this
    rcases this with rfl | rfl | rfl <;> assumption
  obtain ⟨sk, esk, zsk⟩ := Gk (List.drop (Int.toNat (Y3 (l.length : Int) (i % 7))) l) (by simp; omega)
  obtain ⟨ex, eex, lex⟩ := Gl sk zsk
  rcases hks with rfl | rfl | rfl | rfl | rfl | rfl | rfl | rfl | rfl | rfl | rfl | rfl | rfl | rfl | rfl | rfl | rfl | rfl | rfl | rfl
  · exact ⟨fun _ => ⟨fun _ => ⟨s5, es5, p, ep, c1⟩, fun h => by simp at h⟩, fun h => by simp at h⟩
  · exact ⟨fun h => by simp at h, fun _ => ⟨fun _ => ⟨s5, es5, p, ep, c1⟩, fun h => by simp at h⟩⟩
  · exact ⟨fun h => by simp at h, fun _ => ⟨fun h => by simp at h, fun _ => ⟨fun _ => ⟨s5, es5, hQ _ (vk2 _ hs5) (by simp [CG])⟩, fun h => by simp at h⟩⟩⟩
  · exact ⟨fun h => by simp at h, fun _ => ⟨fun h => by simp at h, fun _ => ⟨fun h => by simp at h, fun _ => ⟨fun _ => ⟨s5, es5, s7, es7, hQ _ (vk3 _ _ hs5 hs7) (by simp [CG])⟩, fun h => by simp at h⟩⟩⟩⟩
  · exact ⟨fun h => by simp at h, fun _ => ⟨fun h => by simp at h, fun _ => ⟨fun h => by simp at h, fun _ => ⟨fun h => by simp at h, fun _ => ⟨fun _ => hQ _ vk4 (by simp [CG]), fun h => by simp at h⟩⟩⟩⟩⟩
  · exact ⟨fun h => by simp at h, fun _ => ⟨fun h => by simp at h, fun _ => ⟨fun h => by simp at h, fun _ => ⟨fun h => by simp at h, fun _ => ⟨fun h => by simp at h, fun _ => ⟨fun _ => ⟨s5, es5, q, eq, hQ _ (vk5 _ _ hs5 hq) (by simp [CG])⟩, fun h => by simp at h⟩⟩⟩⟩⟩⟩
  · exact ⟨fun h => by simp at h, fun _ => ⟨fun h => by simp at h, fun _ => ⟨fun h => by simp at h, fun _ => ⟨fun h => by simp at h, fun _ => ⟨fun h => by simp at h, fun _ => ⟨fun h => by simp at h, fun _ => ⟨fun _ => ⟨fun _ => ⟨s5, es5, m5, v15, e15, c, ec, c6⟩, fun h => by simp at h⟩, fun h => by simp at h⟩⟩⟩⟩⟩⟩⟩
  · exact ⟨fun h => by simp at h, fun _ => ⟨fun h => by simp at h, fun _ => ⟨fun h => by simp at h, fun _ => ⟨fun h => by simp at h, fun _ => ⟨fun h => by simp at h, fun _ => ⟨fun h => by simp at h, fun _ => ⟨fun h => by simp at h, fun _ => ⟨fun _ => ⟨fun _ => ⟨s5, es5, m5, v15, e15, c, ec, c6⟩, fun h => by simp at h⟩, fun h => by simp at h⟩⟩⟩⟩⟩⟩⟩⟩
  · exact ⟨fun h => by simp at h, fun _ => ⟨fun h => by simp at h, fun _ => ⟨fun h => by simp at h, fun _ => ⟨fun h => by simp at h, fun _ => ⟨fun h => by simp at h, fun _ => ⟨fun h => by simp at h, fun _ => ⟨fun h => by simp at h, fun _ => ⟨fun h => by simp at h, fun _ => ⟨fun _ => ⟨s5, es5, m5, v15, e15, c, ec, c6⟩, fun h => by simp at h⟩⟩⟩⟩⟩⟩⟩⟩⟩
  · exact ⟨fun h => by simp at h, fun _ => ⟨fun h => by simp at h, fun _ => ⟨fun h => by simp at h, fun _ => ⟨fun h => by simp at h, fun _ => ⟨fun h => by simp at h, fun _ => ⟨fun h => by simp at h, fun _ => ⟨fun h => by simp at h, fun _ => ⟨fun h => by simp at h, fun _ => ⟨fun h => by simp at h, fun _ => ⟨fun _ => ⟨s5, es5, s7, es7, c, ec, hQ _ (vk7 _ _ _ hs5 hs7 hc0) (by simp [CG]; omega)⟩, fun h => by simp at h⟩⟩⟩⟩⟩⟩⟩⟩⟩⟩
  · exact ⟨fun h => by simp at h, fun _ => ⟨fun h => by simp at h, fun _ => ⟨fun h => by simp at h, fun _ => ⟨fun h => by simp at h, fun _ => ⟨fun h => by simp at h, fun _ => ⟨fun h => by simp at h, fun _ => ⟨fun h => by simp at h, fun _ => ⟨fun h => by simp at h, fun _ => ⟨fun h => by simp at h, fun _ => ⟨fun h => by simp at h, fun _ => ⟨fun _ => ⟨s5, es5, s7, es7, c, ec, hQ _ (vk8 _ _ _ _ _ hs5 hs7 hc0 (EC (by rw [Zr (by omega)]; omega)) (EC (by rw [Zr (by omega)]; omega))) (by simp [CG]; omega)⟩, fun h => by simp at h⟩⟩⟩⟩⟩⟩⟩⟩⟩⟩⟩
  · exact ⟨fun h => by simp at h, fun _ => ⟨fun h => by simp at h, fun _ => ⟨fun h => by simp at h, fun _ => ⟨fun h => by simp at h, fun _ => ⟨fun h => by simp at h, fun _ => ⟨fun h => by simp at h, fun _ => ⟨fun h => by simp at h, fun _ => ⟨fun h => by simp at h, fun _ => ⟨fun h => by simp at h, fun _ => ⟨fun h => by simp at h, fun _ => ⟨fun h => by simp at h, fun _ => ⟨fun _ => ⟨fun _ => ⟨s5, es5, s7, es7, s8, es8, c9.1, c9.2⟩, fun h => by simp at h⟩, fun h => by simp at h⟩⟩⟩⟩⟩⟩⟩⟩⟩⟩⟩⟩
  · exact ⟨fun h => by simp at h, fun _ => ⟨fun h => by simp at h, fun _ => ⟨fun h => by simp at h, fun _ => ⟨fun h => by simp at h, fun _ => ⟨fun h => by simp at h, fun _ => ⟨fun h => by simp at h, fun _ => ⟨fun h => by simp at h, fun _ => ⟨fun h => by simp at h, fun _ => ⟨fun h => by simp at h, fun _ => ⟨fun h => by simp at h, fun _ => ⟨fun h => by simp at h, fun _ => ⟨fun h => by simp at h, fun _ => ⟨fun _ => ⟨s5, es5, s7, es7, s8, es8, c9.1, c9.2⟩, fun h => by simp at h⟩⟩⟩⟩⟩⟩⟩⟩⟩⟩⟩⟩⟩
  · exact ⟨fun h => by simp at h, fun _ => ⟨fun h => by simp at h, fun _ => ⟨fun h => by simp at h, fun _ => ⟨fun h => by simp at h, fun _ => ⟨fun h => by simp at h, fun _ => ⟨fun h => by simp at h, fun _ => ⟨fun h => by simp at h, fun _ => ⟨fun h => by simp at h, fun _ => ⟨fun h => by simp at h, fun _ => ⟨fun h => by simp at h, fun _ => ⟨fun h => by simp at h, fun _ => ⟨fun h => by simp at h, fun _ => ⟨fun h => by simp at h, fun _ => ⟨fun _ => ⟨q, eq, hQ _ (vk10 _ _ _ (EC (by omega)) (EC (by omega)) hq) (by simp [CG])⟩, fun h => by simp at h⟩⟩⟩⟩⟩⟩⟩⟩⟩⟩⟩⟩⟩⟩
  · exact ⟨fun h => by simp at h, fun _ => ⟨fun h => by simp at h, fun _ => ⟨fun h => by simp at h, fun _ => ⟨fun h => by simp at h, fun _ => ⟨fun h => by simp at h, fun _ => ⟨fun h => by simp at h, fun _ => ⟨fun h => by simp at h, fun _ => ⟨fun h => by simp at h, fun _ => ⟨fun h => by simp at h, fun _ => ⟨fun h => by simp at h, fun _ => ⟨fun h => by simp at h, fun _ => ⟨fun h => by simp at h, fun _ => ⟨fun h => by simp at h, fun _ => ⟨fun h => by simp at h, fun _ => ⟨fun _ => hQ _ (vk11 _ (EC (by omega))) (by simp [CG]), fun h => by simp at h⟩⟩⟩⟩⟩⟩⟩⟩⟩⟩⟩⟩⟩⟩⟩
  · exact ⟨fun h => by simp at h, fun _ => ⟨fun h => by simp at h, fun _ => ⟨fun h => by simp at h, fun _ => ⟨fun h => by simp at h, fun _ => ⟨fun h => by simp at h, fun _ => ⟨fun h => by simp at h, fun _ => ⟨fun h => by simp at h, fun _ => ⟨fun h => by simp at h, fun _ => ⟨fun h => by simp at h, fun _ => ⟨fun h => by simp at h, fun _ => ⟨fun h => by simp at h, fun _ => ⟨fun h => by simp at h, fun _ => ⟨fun h => by simp at h, fun _ => ⟨fun h => by simp at h, fun _ => ⟨fun h => by simp at h, fun _ => ⟨fun _ => hQ _ (vk12 _ _ (EC (by omega)) (EC (by omega))) (by simp [CG]), fun h => by simp at h⟩⟩⟩⟩⟩⟩⟩⟩⟩⟩⟩⟩⟩⟩⟩⟩
  · exact ⟨fun h => by simp at h, fun _ => ⟨fun h => by simp at h, fun _ => ⟨fun h => by simp at h, fun _ => ⟨fun h => by simp at h, fun _ => ⟨fun h => by simp at h, fun _ => ⟨fun h => by simp at h, fun _ => ⟨fun h => by simp at h, fun _ => ⟨fun h => by simp at h, fun _ => ⟨fun h => by simp at h, fun _ => ⟨fun h => by simp at h, fun _ => ⟨fun h => by simp at h, fun _ => ⟨fun h => by simp at h, fun _ => ⟨fun h => by simp at h, fun _ => ⟨fun h => by simp at h, fun _ => ⟨fun h => by simp at h, fun _ => ⟨fun h => by simp at h, fun _ => ⟨fun _ => hQ _ (vk13 _ _ (EC (by omega)) (EC (by omega))) (by simp [CG]), fun h => by simp at h⟩⟩⟩⟩⟩⟩⟩⟩⟩⟩⟩⟩⟩⟩⟩⟩⟩
  · exact ⟨fun h => by simp at h, fun _ => ⟨fun h => by simp at h, fun _ => ⟨fun h => by simp at h, fun _ => ⟨fun h => by simp at h, fun _ => ⟨fun h => by simp at h, fun _ => ⟨fun h => by simp at h, fun _ => ⟨fun h => by simp at h, fun _ => ⟨fun h => by simp at h, fun _ => ⟨fun h => by simp at h, fun _ => ⟨fun h => by simp at h, fun _ => ⟨fun h => by simp at h, fun _ => ⟨fun h => by simp at h, fun _ => ⟨fun h => by simp at h, fun _ => ⟨fun h => by simp at h, fun _ => ⟨fun h => by simp at h, fun _ => ⟨fun h => by simp at h, fun _ => ⟨fun h => by simp at h, fun _ => ⟨fun _ => hQ _ (vk14 _ (EC (by omega))) (by simp [CG]), fun h => by simp at h⟩⟩⟩⟩⟩⟩⟩⟩⟩⟩⟩⟩⟩⟩⟩⟩⟩⟩
  · exact ⟨fun h => by simp at h, fun _ => ⟨fun h => by simp at h, fun _ => ⟨fun h => by simp at h, fun _ => ⟨fun h => by simp at h, fun _ => ⟨fun h => by simp at h, fun _ => ⟨fun h => by simp at h, fun _ => ⟨fun h => by simp at h, fun _ => ⟨fun h => by simp at h, fun _ => ⟨fun h => by simp at h, fun _ => ⟨fun h => by simp at h, fun _ => ⟨fun h => by simp at h, fun _ => ⟨fun h => by simp at h, fun _ => ⟨fun h => by simp at h, fun _ => ⟨fun h => by simp at h, fun _ => ⟨fun h => by simp at h, fun _ => ⟨fun h => by simp at h, fun _ => ⟨fun h => by simp at h, fun _ => ⟨fun h => by simp at h, fun _ => ⟨fun _ => ⟨fun _ => hQ _ (vk15 _ _ (EC (by omega)) (EC (by omega))) (by simp [CG]), fun _ => ⟨s6, es6, m7, sk, esk, ex, eex, hQ _ (vk16 _ _ hs6 (sho0 (by omega))) (by simp [CG]; omega)⟩⟩, fun h => by simp at h⟩⟩⟩⟩⟩⟩⟩⟩⟩⟩⟩⟩⟩⟩⟩⟩⟩⟩⟩
  · exact ⟨fun h => by simp at h, fun _ => ⟨fun h => by simp at h, fun _ => ⟨fun h => by simp at h, fun _ => ⟨fun h => by simp at h, fun _ => ⟨fun h => by simp at h, fun _ => ⟨fun h => by simp at h, fun _ => ⟨fun h => by simp at h, fun _ => ⟨fun h => by simp at h, fun _ => ⟨fun h => by simp at h, fun _ => ⟨fun h => by simp at h, fun _ => ⟨fun h => by simp at h, fun _ => ⟨fun h => by simp at h, fun _ => ⟨fun h => by simp at h, fun _ => ⟨fun h => by simp at h, fun _ => ⟨fun h => by simp at h, fun _ => ⟨fun h => by simp at h, fun _ => ⟨fun h => by simp at h, fun _ => ⟨fun h => by simp at h, fun _ => ⟨fun h => by simp at h, fun _ => hQ _ vk17 z0⟩⟩⟩⟩⟩⟩⟩⟩⟩⟩⟩⟩⟩⟩⟩⟩⟩⟩⟩
theorem GF (l : List Int) (i : Int) (hl : l.length ≤ 4611686018427387904) (h0 : 0 ≤ i) (h1 : i ≤ 900) : ∃ x, WS l i x ∧ Js x = 0 ∧ CG 65536 x :=
  Mo (Post := fun x => Js x = 0 ∧ CG 65536 x) (Mw l i hl h0 h1 _ fun x h1 h2 => ⟨h1, h2⟩)
theorem ED (a : Int) (ha : 0 ≤ a) : ∃ q, VS a q := by
  obtain ⟨v, hv, _⟩ := Ev (Post := fun _ => True) (a0 := a) (by
    unfold JX
    simp only [jn]
    obtain ⟨v1, e1, _⟩ := Dh a
    have h4 : 0 ≤ QH .i64 a 4 := by
      show 0 ≤ a.fdiv (2 ^ 4)
      rw [Int.fdiv_eq_ediv_of_nonneg a (by decide)]
      exact Int.ediv_nonneg ha (by decide)
    have h3 : 0 ≤ (QH .i64 a 4).tmod 3 ∧ (QH .i64 a 4).tmod 3 < 3 := by rw [Jc h4]; omega
    obtain ⟨x, hx, _⟩ := Jd (l := ([((⟨#[]⟩ : ByteArray)), ((⟨#[120]⟩ : ByteArray)), ((⟨#[48, 49, 50, 51, 52, 53, 54, 55, 56, 57, 48, 49, 50, 51, 52, 53, 54, 55, 56, 57, 48, 49, 50, 51, 52, 53, 54, 55, 56, 57, 48, 49, 50, 51]⟩ : ByteArray))])) h3.1 (by simp; omega)
    exact ⟨v1, e1, fun _ => trivial, fun _ => ⟨fun _ => ⟨x, hx, trivial⟩, fun _ => ⟨fun _ => trivial, fun _ => ⟨fun _ => trivial, fun _ => ⟨fun _ => trivial, fun _ => trivial⟩⟩⟩⟩⟩)
  exact ⟨v, hv⟩
theorem Hr (x : Qo) (a : Int) (m : Nat) (hm : m ≤ 1000000) (hx : CG m x) (Q : Qo → Prop) (hQ : ∀ y, CG (m + 70000) y → Q y) : VI x a Q := by
  obtain ⟨h1, h2, h3, h4, h5, h6⟩ := hx
  unfold VI
  simp only [jn, Fz, PQ]
  have ht : 0 ≤ QH .i64 a 5 % 16777216 ∧ QH .i64 a 5 % 16777216 < 16777216 := by omega
  generalize QH .i64 a 5 % 16777216 = t at ht ⊢
  have t3 : t.tmod 3 = t % 3 := Jc ht.1
  have t20 : t.tmod 20 = t % 20 := Jc ht.1
  have t2 : t.tmod 2 = t % 2 := Jc ht.1
  have t9 : t.tmod 9 = t % 9 := Jc ht.1
  have w1 : IntKind.i64.wrap (64 + t % 2) = 64 + t % 2 := Zr (by omega)
  have w2 : IntKind.i64.wrap (60 + t % 9) = 60 + t % 9 := Zr (by omega)
  have w3 : IntKind.i64.wrap (65536 + t % 2) = 65536 + t % 2 := Zr (by omega)
  rw [t3, t20, t2, t9, w1, w2, w3]
  obtain ⟨s1, e1, _⟩ := Jd (l := ([((⟨#[]⟩ : ByteArray)), ((⟨#[65]⟩ : ByteArray)), ((⟨#[97, 45, 49, 46, 120]⟩ : ByteArray)), ((⟨#[48, 49, 50, 51, 52, 53, 54, 55, 56, 57, 48, 49, 50, 51, 52, 53, 54]⟩ : ByteArray))])) (n := t % 4) (by omega) (by simp; omega)
  obtain ⟨s2, e2, _⟩ := Jd (l := ([((⟨#[]⟩ : ByteArray)), ((⟨#[98]⟩ : ByteArray)), ((⟨#[98, 32, 98]⟩ : ByteArray)), ((⟨#[99]⟩ : ByteArray))])) (n := t % 4) (by omega) (by simp; omega)
  obtain ⟨s3, e3, _⟩ := Jd (l := ([((⟨#[]⟩ : ByteArray)), ((⟨#[97]⟩ : ByteArray)), ((⟨#[63]⟩ : ByteArray))])) (n := t % 3) (by omega) (by simp; omega)
  obtain ⟨s6, e6, _⟩ := Cu t
  obtain ⟨s9, e9, _⟩ := Jd (l := ([(0), (1), (1048576), (1048577)] : List Int)) (n := t % 4) (by omega) (by simp; omega)
  obtain ⟨q, eq⟩ := ED t ht.1
  have z0 : x.fa0.length ≤ m + 70000 ∧ x.f0.length ≤ m + 70000 ∧ x.fb0.length ≤ m + 70000 ∧ x.fb3.length ≤ m + 70000 := by omega
  obtain ⟨z1, z2, z3, z4⟩ := z0
  refine ⟨fun _ => hQ _ ⟨z1, z2, z3, z4, h5, h6⟩, fun _ => ⟨fun _ => ⟨s1, e1, hQ _ ⟨z1, z2, z3, z4, h5, h6⟩⟩, fun _ => ⟨fun _ => ⟨s2, e2, hQ _ ⟨z1, z2, z3, z4, h5, h6⟩⟩, fun _ => ⟨fun _ => ⟨by omega, s3, e3, by simp; omega, hQ _ ⟨by simp; omega, z2, z3, z4, h5, h6⟩⟩, fun _ => ⟨fun _ => ⟨⟨by omega, by omega⟩, hQ _ ⟨by simp; omega, z2, z3, z4, h5, h6⟩⟩, fun _ => ⟨fun _ => hQ _ ⟨z1, z2, z3, z4, by simp, by simp⟩, fun _ => ⟨fun _ => ⟨by omega, s6, e6, by simp; omega, hQ _ ⟨z1, by simp; omega, z3, z4, h5, h6⟩⟩, fun _ => ⟨fun _ => ⟨⟨by omega, by omega⟩, hQ _ ⟨z1, by simp; omega, z3, z4, h5, h6⟩⟩, fun _ => ⟨fun _ => ⟨⟨by omega, by omega⟩, hQ _ ⟨z1, z2, by simp; omega, z4, h5, h6⟩⟩, fun _ => ⟨fun _ => ⟨s9, e9, hQ _ ⟨z1, z2, z3, z4, h5, h6⟩⟩, fun _ => ⟨fun _ => ⟨s9, e9, hQ _ ⟨z1, z2, z3, z4, h5, h6⟩⟩, fun _ => ⟨fun _ => hQ _ ⟨z1, z2, z3, z4, h5, h6⟩, fun _ => ⟨fun _ => hQ _ ⟨z1, z2, z3, z4, h5, h6⟩, fun _ => ⟨fun _ => hQ _ ⟨z1, z2, z3, z4, h5, h6⟩, fun _ => ⟨fun _ => hQ _ ⟨z1, z2, z3, z4, h5, h6⟩, fun _ => ⟨fun _ => ⟨q, eq, hQ _ ⟨z1, z2, z3, z4, h5, h6⟩⟩, fun _ => ⟨fun _ => ⟨⟨by omega, by omega⟩, hQ _ ⟨z1, z2, z3, by simp; omega, h5, h6⟩⟩, fun _ => ⟨fun _ => hQ _ ⟨z1, z2, z3, by simp, h5, h6⟩, fun _ => hQ _ ⟨z1, z2, z3, z4, h5, h6⟩⟩⟩⟩⟩⟩⟩⟩⟩⟩⟩⟩⟩⟩⟩⟩⟩⟩⟩
theorem Hs (x : Qo) (a : Int) (m : Nat) (hm : m ≤ 1000000) (hx : CG m x) : ∃ y, YN x a y ∧ CG (m + 70000) y :=
  Hf (Post := fun y => CG (m + 70000) y) (Hr x a m hm hx _ fun y h => h)
def NK : Qy := (Dp (.bool false) (.bool false)).fm
def R7 : Qo := (Dp (.bool false) (.bool false)).fOp
def OO (x : Qg) (o : Qo) (i : Int) : Qg := Qg.mk true o NK i x.f7 x.fa5
def R8 (x : Qg) : Qg := Qg.mk false R7 NK 0 x.f7 x.fa5
section
variable {ts : List Qg} {k i : Int} {x : Qg} {o : Qo}
theorem R9 (h0 : 0 ≤ k) (hx : ts[k.toNat]? = some x) (hl : ts.length ≤ 64) (hv : Js o = 0) : ∃ r, KL ts k o i r ∧ ((r.1 = [] ∧ r.2 = 12) ∨ r = (ts.set k.toNat (OO x o i), 0)) := by
  have hk : k.toNat < ts.length := (List.getElem?_eq_some_iff.1 hx).1
  have c1 : (bif decide (k < 0) then true else decide (k ≥ (ts.length : Int))) = false := by
    have e1 : decide (k < 0) = false := by simp; omega
    have e2 : decide (k ≥ (ts.length : Int)) = false := by simp; omega
    rw [e1, e2]; rfl
  cases hb : x.fb7 with
  | true =>
    refine ⟨([], 12), ?_, .inl ⟨rfl, rfl⟩⟩
    unfold KL JP
    rw [c1]
    refine ⟨fun h => (by cases h), fun _ => ⟨Js o, Vs o, fun h => by simp [hv] at h, fun _ => ⟨x, ⟨h0, hx⟩, fun _ => rfl, fun h => by simp [hb] at h⟩⟩⟩
  | false =>
    refine ⟨(ts.set k.toNat (OO x o i), 0), ?_, .inr rfl⟩
    unfold KL JP
    rw [c1]
    refine ⟨fun h => (by cases h), fun _ => ⟨Js o, Vs o, fun h => by simp [hv] at h, fun _ => ⟨x, ⟨h0, hx⟩, fun h => by simp [hb] at h, fun _ => ⟨by omega, x, ⟨h0, hx⟩, ?_⟩⟩⟩⟩
    simp only [List.set_set]
    rfl
theorem Ra (h0 : 0 ≤ k) (hx : ts[k.toNat]? = some x) (hl : ts.length ≤ 64) (hb : x.fb7 = true) : Vd ts k (ts.set k.toNat (R8 x), 0) := by
  have hk : k.toNat < ts.length := (List.getElem?_eq_some_iff.1 hx).1
  have c1 : (bif decide (k < 0) then true else decide (k ≥ (ts.length : Int))) = false := by
    have e1 : decide (k < 0) = false := by simp; omega
    have e2 : decide (k ≥ (ts.length : Int)) = false := by simp; omega
    rw [e1, e2]; rfl
  unfold Vd XZ
  rw [c1]
  refine ⟨fun h => (by cases h), fun _ => ⟨x, ⟨h0, hx⟩, fun h => by simp [hb] at h, fun _ => ⟨by omega, x, ⟨h0, hx⟩, ?_⟩⟩⟩
  simp only [List.set_set]
  rfl
def Lp (ts : List Qg) : Prop := ∀ x ∈ ts, Mt x.fOp ∧ P4 x.fm
theorem M1 : P4 NK := by simp [P4, SmK, NK, Dp]
theorem Ph : Mt R7 := by simp [Mt, R7, Dp]
theorem sm_of (h : CG 65536 o) : Mt o := by
  obtain ⟨h1, h2, h3, h4, _⟩ := h
  exact ⟨by omega, by omega, by omega, by omega⟩
theorem Lp.set {n : Nat} {y : Qg} (h : Lp ts) (hy : Mt y.fOp ∧ P4 y.fm) : Lp (ts.set n y) := by
  intro z hz
  rcases List.mem_or_eq_of_mem_set hz with h1 | rfl
  · exact h z h1
  · exact hy
def BU (ts ts' : List Qg) : Prop := ts'.length = ts.length ∧ ∀ (k : Nat) x', ts'[k]? = some x' → ∃ x, ts[k]? = some x ∧ x'.f7 = x.f7 ∧ x'.fa5 = x.fa5
theorem BU.refl (ts : List Qg) : BU ts ts := ⟨rfl, fun k x h => ⟨x, h, rfl, rfl⟩⟩
theorem BU.set {n : Nat} {y : Qg} (hx : ts[n]? = some x) (h1 : y.f7 = x.f7) (h2 : y.fa5 = x.fa5) : BU ts (ts.set n y) := by
  refine ⟨by simp, fun k x' h => ?_⟩
  rw [List.getElem?_set] at h
  by_cases e : n = k
  · rw [if_pos e] at h
    split at h
    · cases h; subst e; exact ⟨x, hx, h1, h2⟩
    · cases h
  · rw [if_neg e] at h
    exact ⟨x', h, rfl, rfl⟩
theorem JI.same {w0 : World} {A0 : Nat → Prop} {N : Nat} {st : St} {ts' : List Qg} {gs : List (Nat × Nat)} {a : Act} {w : World} (hj : JI w0 A0 N st ts gs a w) (hs : BU ts ts') : JI w0 A0 N st ts' gs a w := by
  obtain ⟨E, cx, hr, hi, hf⟩ := hj
  refine ⟨E, cx, hr, ⟨by rw [hi.len, hs.1], fun k x' g hx hg => ?_, hi.nd, hi.off⟩, hf⟩
  obtain ⟨x, h1, h2, h3⟩ := hs.2 k x' hx
  obtain ⟨⟨c, S, e1, l1, m1, n1, d1, r1⟩, c2, C, e2, l2, m2, n2, r2⟩ := hi.els k x g h1 hg
  exact ⟨⟨c, S, h2.trans e1, l1, m1, n1, d1, r1⟩, c2, C, h3.trans e2, l2, m2, n2, r2⟩
end
set_option maxRecDepth 100000
set_option maxHeartbeats 4000000
section
variable {E : En} {N : Nat} {P : Program} {ops : Array Oper} {Q : Exit → Act → World → Prop} {st : St} {cx : Cx} {a : Act} {w w' w0 : World} {A0 : Nat → Prop} {ts : List Qg} {gs : List (Nat × Nat)}
theorem Ht {c : Code} {Q : Exit → St → Prop} (h : ∀ E, AW E N P c (fun e s => ∃ s', QB s s' ∧ Q e s') st) (hj : JI w0 A0 N st ts gs a w) (hm : st.mu = true) : c.wp P (fun e a' w' => ∃ s', Q e s' ∧ JI w0 A0 N s' ts gs a' w') a w :=
  Iu (fun E => Ad (h E) fun e s ⟨s', h1, h2⟩ => ⟨s', h1, h2⟩) hj hm
theorem E4 {x y : Code} {Q : Exit → Act → World → Prop} {st' : St} (h : ∀ E, AW E N P x (fun e s => e = .normal ∧ QB s st') st) (hj : JI w0 A0 N st ts gs a w) (hm : st.mu = true) (k : ∀ a' w', JI w0 A0 N st' ts gs a' w' → y.wp P Q a' w') : (Code.seq x y).wp P Q a w :=
  DY (fun E => Ad (h E) fun e s ⟨h1, h2⟩ => ⟨st', h2, h1, rfl⟩) hj hm k
theorem NL {c : Operand} {y : Value} (hr : ZV E N cx st a w) (hb : st.ev c = .c (.p (.v y))) (hc : Zu c = true) : a.eval c = y := by
  have := hr.ev hc
  rw [hb] at this
  have h2 := this.2
  revert h2
  generalize a.eval c = z
  intro h2
  cases h2 with | v _ _ => rfl
theorem IA {i d ty : Nat} {f : FuncId} {xs : Array Operand} {tys : Array TypeId} {pos : String} {af : Array Edge} {K : Act → World → Prop} {R : Ending → World → Prop} (ho : ops[i]? = some ⟨some d, .call { callee := .value (.func f), args := xs, argTypes := tys }, ty, pos, af, none⟩) (he : Me P f = true) (hc : Calls P f (xs.map a.eval) w R)
    (k : ∀ e w', R e w' → ∃ v, e = .returned v ∧ K (a.put (some d) v) w') : wpOp P ops Q i K a w := by
  unfold wpOp
  rw [ho]
  simp only
  have hw : Region.wanted (⟨some d, .call { callee := .value (.func f), args := xs, argTypes := tys }, ty, pos, af, none⟩ : Oper) (yielded ops a.tmps) = true := rfl
  rw [if_pos hw]
  refine .inl ?_
  unfold Oper.wp
  rw [F3 he, Oper.upon_enter]
  refine hc.mono ?_
  rintro e w' hR
  obtain ⟨v, rfl, hk⟩ := k e w' hR
  exact hk
def NM (fr : List (Nat × TV)) : Prop := ∀ x ∈ fr, ∃ p, x.2 = .c (.p p)
theorem OP {fr : List (Nat × TV)} {v : Value} {d : Nat} (hr : ZV E N cx ⟨fr, []⟩ a w) (hp : NM fr) (hd : d < N) (hnd : ∀ x ∈ fr, x.1 ≠ d) (hn : R2 w cx.A w' v ts) (hf : Fr w0 A0 w cx ⟨fr, []⟩) :
    ∃ gs cx', ZV ⟨w', cx'.A, Own cx' ⟨(d, .tup [.c (.sl (5, 1000) 0 (XD ts)), .c (.p (.v (.int .i64 0)))]) :: fr, [((5, 1000), some (Ye ts))]⟩, cx'.ι⟩ N cx' ⟨(d, .tup [.c (.sl (5, 1000) 0 (XD ts)), .c (.p (.v (.int .i64 0)))]) :: fr, [((5, 1000), some (Ye ts))]⟩ (a.put (some d) (.tuple #[v, .int .i64 0])) w' ∧
      DX w' cx'.A (Own cx' ⟨(d, .tup [.c (.sl (5, 1000) 0 (XD ts)), .c (.p (.v (.int .i64 0)))]) :: fr, [((5, 1000), some (Ye ts))]⟩) (fun x => w0.heap.size ≤ x) ts gs ∧ Fr w0 A0 w' cx' ⟨(d, .tup [.c (.sl (5, 1000) 0 (XD ts)), .c (.p (.v (.int .i64 0)))]) :: fr, [((5, 1000), some (Ye ts))]⟩ := by
  obtain ⟨A, g, c, gs, rfl, l1, m1, r1, nA, ⟨cc, el, hcc, hcs⟩, hisl, hlo, hsz, hkept, hA1, hA2, hos, htp, hou⟩ := hn
  have hh : ∀ b', (⟨(d, .tup [.c (.sl (5, 1000) 0 (XD ts)), .c (.p (.v (.int .i64 0)))]) :: fr, [((5, 1000), some (Ye ts))]⟩ : St).h b' = if b' = (5, 1000) then some (Ye ts) else none := by
    intro b'
    rw [C1]
    rfl
  have hg : ∀ s, (⟨(d, .tup [.c (.sl (5, 1000) 0 (XD ts)), .c (.p (.v (.int .i64 0)))]) :: fr, [((5, 1000), some (Ye ts))]⟩ : St).g s = if s = d then .tup [.c (.sl (5, 1000) 0 (XD ts)), .c (.p (.v (.int .i64 0)))] else (⟨fr, []⟩ : St).g s := by
    intro s
    rw [La]
    rfl
  let cx' : Cx := ⟨fun b => if b = (5, 1000) then some (g, 0) else none, A⟩
  have hown : ∀ x, Own cx' ⟨(d, .tup [.c (.sl (5, 1000) 0 (XD ts)), .c (.p (.v (.int .i64 0)))]) :: fr, [((5, 1000), some (Ye ts))]⟩ x → x = g := by
    rintro x ⟨b, q, hb, hi⟩
    simp only [cx'] at hi
    split at hi
    · cases hi; rfl
    · cases hi
  have hka : ∀ {p : PV} {u : Value}, RP w cx.A p u → RP w' A p u := fun h => h.mono hA1 hsz (fun x hx hl => hkept x hl)
  have hrel : ZV ⟨w', A, fun x => x = g, cx'.ι⟩ N cx' ⟨(d, .tup [.c (.sl (5, 1000) 0 (XD ts)), .c (.p (.v (.int .i64 0)))]) :: fr, [((5, 1000), some (Ye ts))]⟩ (a.put (some d) (.tuple #[.slice (some ⟨g, 0, none⟩) ts.length c, .int .i64 0])) w' := by
    refine ⟨hr.defers, by simp only [Act.put, Array.size_setIfInBounds]; exact hr.size, fun s => ?_, fun b bk hb => ?_, fun b b' g1 o g2 o' hb hb' hi hi' hne => ?_, fun b g1 o hb hi => ?_, fun x hx => ⟨(hA2 x hx).1, .inl hx⟩, fun _ h => h, fun _ _ _ => rfl, Nat.le_refl _, rfl, rfl, rfl, hr.hN, fun _ _ => rfl⟩
    · rw [hg]
      by_cases e : s = d
      · subst e
        have e2 : (a.put (some s) (.tuple #[.slice (some ⟨g, 0, none⟩) ts.length c, .int .i64 0])).tmps.getD s undef = .tuple #[.slice (some ⟨g, 0, none⟩) ts.length c, .int .i64 0] := CN (o := (⟨some s, .move (.tmp 0), 0, "", #[], none⟩ : Oper)) rfl (by rw [hr.size]; exact hd)
        rw [if_pos rfl, e2]
        refine ⟨_, rfl, rfl, fun i t ht => ?_⟩
        match i, ht with
        | 0, ht =>
          cases ht
          refine ⟨_, rfl, .inr rfl, fun bk hbk => ?_⟩
          rw [hh, if_pos rfl] at hbk
          cases hbk
          refine ⟨some ⟨g, 0, none⟩, c, by simp [XD], by simpa [XD] using l1, m1, by simp [Bk.len, XD], .inr ⟨g, cc, el, (0, 0), by simp [cx'], by simp [Bk.e], hcc, fun _ => by simp [Bk.e, hcs]⟩⟩
        | 1, ht =>
          cases ht
          exact ⟨_, rfl, .inr rfl, .v _ rfl⟩
      · have e2 : (a.put (some d) (.tuple #[.slice (some ⟨g, 0, none⟩) ts.length c, .int .i64 0])).tmps.getD s undef = a.tmps.getD s undef := put_eq (o := (⟨some d, .move (.tmp 0), 0, "", #[], none⟩ : Oper)) (fun h => e (Option.some.inj h).symm)
        rw [if_neg e, e2]
        have h1 := hr.fr s
        have h2 : (⟨fr, []⟩ : St).g s = (ZC fr s).getD (.c .any) := rfl
        rw [h2] at h1 ⊢
        cases hl : ZC fr s with
        | none => exact ⟨.inl rfl, trivial⟩
        | some t =>
          obtain ⟨p, hp'⟩ := hp _ (Bi hl)
          simp only at hp'
          subst hp'
          rw [hl] at h1
          exact ⟨h1.1, hka h1.2⟩
    · rw [hh] at hb
      split at hb
      · cases hb
        rename_i e
        subst e
        obtain ⟨h0, h1, c', el', capR, h2, h3, h4, h5, h6⟩ := r1
        exact ⟨h0, h1, by simp only [cx', if_true]; exact ⟨trivial, c', el', (0, 0), capR, h2, fun _ => ⟨rfl, nA⟩, (fun h => by cases h), h3, h4, h5, h6⟩⟩
      · cases hb
    · simp only [cx'] at hi hi'
      split at hi
      · split at hi'
        · rename_i e1 e2; exact absurd (e1.trans e2.symm) hne
        · cases hi'
      · cases hi
    · simp only [cx'] at hi
      split at hi
      · cases hi; exact ⟨r1.lt, .inr rfl⟩
      · cases hi
  refine ⟨gs, cx', hrel.base, ⟨hisl.len, hisl.els, hisl.nd, fun x hx => ⟨(hisl.off x hx).1, fun h => (hisl.off x hx).2.1 (hown x h), Nat.le_trans hf.sz (hisl.off x hx).2.2⟩⟩, ⟨Nat.le_trans hf.sz hsz, fun x hx => (hkept x (Nat.lt_of_lt_of_le hx hf.sz)).trans (hf.kept x hx), fun x hx => hA1 x (hf.A x hx), fun x hx => ?_, fun x hx => ?_, hos.trans hf.os, htp.trans hf.tape, hou.trans hf.output⟩⟩
  · rcases (hA2 x hx).2 with h | h
    · exact hf.A' x h
    · exact .inr (Nat.le_trans hf.sz h)
  · rw [hown x hx]; exact Nat.le_trans hf.sz hlo
end
set_option maxRecDepth 100000
set_option maxHeartbeats 4000000
def Do (id : Nat) : Code → Option Code
  | .block i c => match Nat.beq i id with
    | true => some c
    | false => Do id c
  | .seq a b => (Do id a).or (Do id b)
  | .cond _ a b => (Do id a).or (Do id b)
  | .loop a => Do id a
  | .scope a => Do id a
  | _ => none
noncomputable def mBlk (id : Nat) : Option Code := Tryz.f6.body.bind (Do id)
def sL (l : List Int) (i : Int) (ts : List Qg) : St := ⟨[(1, .c (.p (.l 1 (List.map (eI .i64) l)))), (5, .c (.sl (5, 1000) 0 (XD ts))), (7, .c (.p (.v (.int .i64 i))))], [((5, 1000), some (Ye ts))]⟩
def Hu (ts : List Qg) (ts' : List Qg) : Prop := ts'.length = ts.length ∧ Lp ts' ∧ BU ts ts'
section
variable {E : En} {a : Act} {w w0 : World} {A0 : Nat → Prop} {l : List Int} {ts : List Qg} {gs : List (Nat × Nat)} {x : Qg} {i k y : Int} {o : Qo}
theorem Hu.refl (h : Lp ts) : Hu ts ts := ⟨rfl, h, BU.refl _⟩
theorem Hu.ji {N : Nat} {st : St} {ts' : List Qg} (h : Hu ts ts') (hj : JI w0 A0 N st ts gs a w) : JI w0 A0 N st ts' gs a w := hj.same h.2.2
theorem OQ (hG : Lp ts) (hx : ts[k.toNat]? = some x) (hs : CG 65536 o) : Hu ts (ts.set k.toNat (OO x o i)) := ⟨by simp, hG.set ⟨sm_of hs, M1⟩, BU.set hx rfl rfl⟩
theorem OR (hG : Lp ts) (hx : ts[k.toNat]? = some x) : Hu ts (ts.set k.toNat (R8 x)) := ⟨by simp, hG.set ⟨Ph, M1⟩, BU.set hx rfl rfl⟩
theorem Rb {C9 : Code} (h0 : 0 ≤ k) (hx : ts[k.toNat]? = some x) (hl : ts.length ≤ 64) (hG : Lp ts) (ho : WS l i o) (hv : Js o = 0) (hs : CG 65536 o)
    (hC : (Tryz.f6.body.bind (Do 1)).bind (fun c => match c with
      | .seq _ (.seq _ (.seq (.seq _ (.cond _ (.seq c _) _)) _)) => some c
      | _ => none) = some C9) :
    AW E nM Tryz.prog C9 (fun e s => e = .normal ∧ ∃ ts', Hu ts ts' ∧ QB s (sL l i ts')) (sR l i k ts) := by
  cases hC
  obtain ⟨r, hr, hcase⟩ := R9 (i := i) h0 hx hl hv
  refine tk fun L hL => ?_
  refine dN 4 rfl ?_
  refine ul (Zw (GD ho)) ?_
  refine dN 1 rfl ?_
  rcases hcase with ⟨hr1, hr2⟩ | rfl
  · obtain ⟨r1, r2⟩ := r
    cases hr1
    cases hr2
    refine ul (Zi (YY hr) (YG (K4.cons (.o (fun _ h => nomatch h)) (K4.cons (.p rfl) K4.nil))) rfl rfl (.cons (.c (.fr rfl (QG rfl))) (.cons (.c (.p _)) (.cons (.agg (.cons (.p _) (.cons (.p _) (.cons (.p _) (.cons (.p _) (.cons (.p _) (.cons (.p _) (.cons (.p _) (.cons (.p _) (.cons (.fr rfl (QG rfl)) (.cons (.p _) (.cons (.p _) (.cons (.p _) (.cons (.p _) (.cons (.p _) (.cons (.p _) (.cons (.p _) (.cons (.p _) (.cons (.p _) (.cons (.p _) (.cons (.p _) (.cons (.p _) (.cons (.fr rfl (QG rfl)) .nil))))))))))))))))))))))) (.cons (.c (.p _)) .nil))))) ?_
    refine dN 5 rfl ?_
    refine rt (hL _ ?_)
    refine tD rfl ?_
    refine Yg (b := false) rfl rfl (fun h => by cases h) fun _ => ?_
    exact Qi ⟨rfl, ts, Hu.refl hG, QB.fit⟩
  · refine ul (Y2 (YY hr) rfl rfl (.cons (.c (.fr rfl (QG rfl))) (.cons (.c (.p _)) (.cons (.agg (.cons (.p _) (.cons (.p _) (.cons (.p _) (.cons (.p _) (.cons (.p _) (.cons (.p _) (.cons (.p _) (.cons (.p _) (.cons (.fr rfl (QG rfl)) (.cons (.p _) (.cons (.p _) (.cons (.p _) (.cons (.p _) (.cons (.p _) (.cons (.p _) (.cons (.p _) (.cons (.p _) (.cons (.p _) (.cons (.p _) (.cons (.p _) (.cons (.p _) (.cons (.fr rfl (QG rfl)) .nil))))))))))))))))))))))) (.cons (.c (.p _)) .nil))))) ?_
    refine dN 5 rfl ?_
    refine rt (hL _ ?_)
    refine tD rfl ?_
    refine Yg (b := true) rfl rfl (fun _ => ?_) fun h => by cases h
    exact tE rfl ⟨rfl, ts.set k.toNat (OO x o i), OQ hG hx hs, QB.nm [1, 5, 7] [((51, 0), (5, 1000))] rfl (by kernel_rfl)⟩
theorem NN (z : Int) (hG : Lp ts) (hx : ts[k.toNat]? = some x) : Hu ts (ts.set k.toNat { x with fm := { x.fm with fc7 := z } }) := by
  obtain ⟨h1, h2, h3, h4, h5⟩ := hG x (List.mem_of_getElem? hx)
  exact ⟨by simp, hG.set ⟨h1, h2, h3, h4, h5⟩, BU.set hx rfl rfl⟩
theorem Rc {n : Nat} {y : Qg} : sR l i k (ts.set n y) = ⟨(sR l i k ts).fr, [((5, 1000), some (Ye (ts.set n y)))]⟩ := by
  have e : XD (ts.set n y) = XD ts := by simp [XD]
  unfold sR
  rw [e]
theorem Re {R : Array Oper} (hR : R3 13 = some R) (hx : ix ts k x) (hy : ix l i y) : AW E nM Tryz.prog (.region 13 R false) (fun e s => e = .normal ∧ QB s (sR l i k (ts.set k.toNat { x with fm := { x.fm with fc7 := QM .i64 (QH .i64 y 7) 7 } }))) (sR l i k ts) := by
  cases hR
  refine tl fun L hL => ?_
  refine dN 4 rfl ?_
  refine u0 (QC hy) ?_
  refine dN 3 rfl ?_
  refine u0 (QU hx) ?_
  refine dN 2 rfl ?_
  refine un (Zg (x1 := { x with fm := { x.fm with fc7 := QM .i64 (QH .i64 y 7) 7 } }) hx.2) ?_
  refine rt (hL _ ⟨rfl, ?_⟩)
  rw [Rc]
  exact QB.fit
theorem Rf {C : Code} (h0 : 0 ≤ k) (hx : ts[k.toNat]? = some x) (hy : ix l i y) (hl : ts.length ≤ 64) (hG : Lp ts)
    (hC : (mBlk 1).bind (fun c => match c with
      | .seq _ (.seq _ (.seq _ (.seq _ (.seq _ (.seq _ c))))) => some c
      | _ => none) = some C) :
    AW E nM Tryz.prog C (fun e s => e = .normal ∧ ∃ ts', Hu ts ts' ∧ QB s (sL l i ts')) (sR l i k ts) := by
  cases hC
  refine tk fun L hL => ?_
  refine dN 2 rfl ?_
  refine u0 (QU ⟨h0, hx⟩) ?_
  refine dN 1 rfl ?_
  refine u0 (QW (i := k.toNat) rfl rfl (gm hx)) ?_
  refine dN 1 rfl ?_
  refine Q2 rfl rfl Q6 (fun hg => Qd rfl rfl) ?_
  refine Q2 rfl rfl Q6 (fun hg => Qd rfl rfl) ?_
  refine Q2 rfl rfl Q6 (fun hg => QC hy (Qb hg) (Qb hg) rfl rfl rfl rfl rfl rfl) ?_
  refine Q2 rfl rfl Q6 (fun hg => Zm (Qb hg) rfl rfl rfl rfl) ?_
  refine Q2 rfl rfl Q6 (fun hg => F7 (by decide) (Qb hg) rfl rfl rfl) ?_
  refine Q2 rfl rfl Q6 (fun hg => WM (z := .int .i64 (QM .i64 (QH .i64 y 10) 1)) (Qb hg) rfl rfl rfl rfl) ?_
  refine Q2 rfl rfl Q6 (fun hg => Qz (c := (QM .i64 (QH .i64 y 10) 1) == 1) (Qb hg) rfl rfl rfl rfl) ?_
  refine u0 (Ql (v := .bool ((QM .i64 (QH .i64 y 10) 1) == 1)) (w := .bool false) rfl rfl Q6 rfl Qw) ?_
  refine rt (hL _ ?_)
  refine QS (st' := ⟨[(1, .c (.p (.l 1 (List.map (eI .i64) l)))), (5, .c (.sl (5, 1000) 0 (XD ts))), (7, .c (.p (.v (.int .i64 i)))), (8, .c (.p (.v (.int .i64 k)))), (110, .c (.p (.v (.bool (bif x.fb7 then (QM .i64 (QH .i64 y 10) 1) == 1 else false)))))], [((5, 1000), some (Ye ts))]⟩) QB.fit ?_
  refine Yg (b := bif x.fb7 then (QM .i64 (QH .i64 y 10) 1) == 1 else false) rfl rfl (fun h => ?_) fun _ => ?_
  · have hb : x.fb7 = true := Nb h
    have hv := Ra h0 hx hl hb
    refine tl fun L hL => ?_
    refine dN 2 rfl ?_
    refine ul (Y2 (Bz hv) rfl rfl (.cons (.c (.fr rfl (QG rfl))) (.cons (.c (.p _)) .nil))) ?_
    refine dN 4 rfl ?_
    exact rt (hL _ ⟨rfl, ts.set k.toNat (R8 x), OR hG hx, QB.nm [1, 5, 7] [((114, 0), (5, 1000))] rfl (by kernel_rfl)⟩)
  · exact Qi ⟨rfl, ts, Hu.refl hG, QB.fit⟩
theorem Hu.trans {ts1 ts2 : List Qg} (h1 : Hu ts ts1) (h2 : Hu ts1 ts2) : Hu ts ts2 := by
  refine ⟨h2.1.trans h1.1, h2.2.1, h2.1.trans h1.1, fun k x' hx => ?_⟩
  obtain ⟨x1, e1, e2, e3⟩ := h2.2.2.2 k x' hx
  obtain ⟨x0, e4, e5, e6⟩ := h1.2.2.2 k x1 e1
  exact ⟨x0, e4, e2.trans e5, e3.trans e6⟩
theorem OS {C : Code} (hC : mBlk 1 = some C) (hG : Lp ts) (hl : ts.length ≤ 64) (hll : l.length ≤ 4611686018427387904) (hi0 : 0 ≤ i) (hi1 : i ≤ 900) (hil : i < l.length) (hj : JI w0 A0 nM (sL l i ts) ts gs a w) :
    C.wp Tryz.prog (fun e a' w' => (e = .normal ∨ e = .exit 1) ∧ ∃ ts', Hu ts ts' ∧ JI w0 A0 nM (sL l i ts') ts' gs a' w') a w := by
  cases hC
  obtain ⟨y, hy⟩ : ∃ y, l[i.toNat]? = some y := ⟨_, List.getElem?_eq_getElem (by omega)⟩
  have hiy : ix l i y := ⟨hi0, hy⟩
  obtain ⟨j0, j1⟩ := b3 y
  refine E4 (st' := sR l i (QM .i64 y 3) ts) (fun E => ?_) hj rfl fun a1 w1 hj1 => ?_
  · refine tl fun L hL => ?_
    refine dN 2 rfl ?_
    refine u0 (QC hiy) ?_
    refine dN 3 rfl ?_
    exact rt (hL _ ⟨rfl, QB.fit⟩)
  generalize QM .i64 y 3 = k at hj1 j0 j1
  refine wp_seq (wp_mono (Ht (Q := fun e s => (e = .normal ∧ s = sR l i k ts ∧ k < ts.length) ∨ (e = .exit 1 ∧ s = sL l i ts)) (fun E => ?_) hj1 rfl) ?_)
  · refine tk fun L hL => ?_
    refine dN 2 rfl ?_
    refine u0 Ki ?_
    refine dN 1 rfl ?_
    refine rt (hL _ ?_)
    refine Yg (b := decide (k ≥ (ts.length : Int))) rfl rfl (fun h => ?_) fun h => ?_
    · exact QT ⟨_, QB.fit, .inr ⟨rfl, rfl⟩⟩
    · exact Qi ⟨_, QB.fit, .inl ⟨rfl, rfl, by simp at h; omega⟩⟩
  rintro e a2 w2 ⟨s2, hcase, hj2⟩
  rcases hcase with ⟨rfl, rfl, hkl⟩ | ⟨rfl, rfl⟩
  · obtain ⟨x, hx⟩ : ∃ x, ts[k.toNat]? = some x := ⟨_, List.getElem?_eq_getElem (by omega)⟩
    have hxk : ix ts k x := ⟨j0, hx⟩
    refine wp_seq (wp_mono (Ht (Q := fun e s => (e = .normal ∧ s = sR l i k ts) ∨ (e = .exit 1 ∧ ∃ ts', Hu ts ts' ∧ s = sL l i ts')) (fun E => ?_) hj2 rfl) ?_)
    · refine tk fun L hL => ?_
      refine dN 2 rfl ?_
      refine u0 (QC hiy) ?_
      refine dN 4 rfl ?_
      refine rt (hL _ ?_)
      refine QS (st' := ⟨(sR l i k ts).fr ++ [(43, .c (.p (.v (.bool ((QM .i64 (QH .i64 y 2) 1) == 1)))))], (sR l i k ts).H⟩) QB.fit ?_
      refine Yg (b := (QM .i64 (QH .i64 y 2) 1) == 1) rfl rfl (fun h => ?_) fun h => ?_
      · obtain ⟨o, ho, hv, hs⟩ := GF l i hll hi0 hi1
        refine QS (st' := sR l i k ts) QB.fit ?_
        refine GU (Lz (Rb (ts := ts) j0 hx hl hG ho hv hs rfl) ?_)
        rintro e s ⟨rfl, ts', h1, h2⟩
        exact QS h2 (QT ⟨_, QB.fit, .inr ⟨rfl, ts', h1, rfl⟩⟩)
      · exact Qi ⟨_, QB.fit, .inl ⟨rfl, rfl⟩⟩
    rintro e a3 w3 ⟨s3, hcase, hj3⟩
    rcases hcase with ⟨rfl, rfl⟩ | ⟨rfl, ts', hr, rfl⟩
    · refine wp_seq (wp_mono (OL hj3 rfl rfl rfl hx fun E g cp S hv h4 hS hGd hp => R4 rfl hxk hiy hv hS hGd hp) ?_)
      rintro e a4 w4 ⟨rfl, hj4⟩
      refine wp_seq (wp_mono (OM hj4 rfl rfl rfl hx fun E g cp S hv h4 hS hp => R5 rfl hxk hiy hv hS hp) ?_)
      rintro e a5 w5 ⟨rfl, hj5⟩
      refine E4 (fun E => Re rfl hxk hiy) hj5 rfl fun a6 w6 hj6 => ?_
      have hr := NN (QM .i64 (QH .i64 y 7) 7) hG hx
      have hj7 := hr.ji hj6
      refine wp_mono (Ht (Q := fun e s => e = .normal ∧ ∃ ts', Hu (ts.set k.toNat { x with fm := { x.fm with fc7 := QM .i64 (QH .i64 y 7) 7 } }) ts' ∧ s = sL l i ts') (fun E => Lz (Rf (x := { x with fm := { x.fm with fc7 := QM .i64 (QH .i64 y 7) 7 } }) j0 (by simp [List.getElem?_set]; omega) hiy (by simp; omega) hr.2.1 rfl) ?_) hj7 rfl) ?_
      · rintro e s ⟨rfl, ts', h1, h2⟩
        exact ⟨_, h2, rfl, ts', h1, rfl⟩
      rintro e a8 w8 ⟨s8, ⟨rfl, ts', h1, rfl⟩, hj8⟩
      exact ⟨.inl rfl, ts', hr.trans h1, h1.ji hj8⟩
    · exact ⟨.inr rfl, ts', hr, hr.ji hj3⟩
  · exact ⟨.inr rfl, ts, Hu.refl hG, hj2⟩
end
set_option maxRecDepth 100000
set_option maxHeartbeats 4000000
section
variable {a : Act} {w w0 : World} {A0 : Nat → Prop} {n : Int} {l : List Int} {ts : List Qg} {gs : List (Nat × Nat)}
theorem Rh {v1 v2 : Value} : Mt (Dp v1 v2).fOp ∧ P4 (Dp v1 v2).fm := ⟨Ph, M1⟩
theorem NO {lv : Value} {Q : Exit → Act → World → Prop} (hA : ∀ x, A0 x → x < w0.heap.size) (hn : KC (.int .i64 n) = true) (hlv : RP w0 A0 (.l 1 (List.map (eI .i64) l)) lv) (hll : l.length ≤ 4611686018427387904)
    (hfin : ∀ a w ts gs, 1 ≤ ts.length → ts.length ≤ 4 → Lp ts → JI w0 A0 nM ⟨[(4, .c (.sl (5, 1000) 0 (XD ts)))], [((5, 1000), some (Ye ts))]⟩ ts gs a w → Q .ret a w) :
    ∀ body, Tryz.f6.body = some body → body.wp Tryz.prog Q { tmps := #[Value.int .i64 n, lv] ++ Array.replicate (nM - (#[Value.int .i64 n, lv] : Array Value).size) undef, defers := [] } w0 := by
  intro body hbody
  cases hbody
  have hr0 : ZV ⟨w0, A0, fun _ => False, fun _ => none⟩ nM ⟨fun _ => none, A0⟩ ⟨[(0, .c (.p (.v (.int .i64 n)))), (1, .c (.p (.l 1 (List.map (eI .i64) l))))], []⟩ { tmps := #[Value.int .i64 n, lv] ++ Array.replicate (nM - (#[Value.int .i64 n, lv] : Array Value).size) undef, defers := [] } w0 :=
    NI (fn := Tryz.f6) (avs := [.c (.v (.int .i64 n)), .c (.l 1 (List.map (eI .i64) l))]) (g := 0) (q := 0) rfl (by kernel_rfl) (Nat.le_of_ble_eq_true (by kernel_rfl)) rfl hA ⟨.v _ hn, hlv, trivial⟩
  have hj0 : JI w0 A0 nM ⟨[(0, .c (.p (.v (.int .i64 n)))), (1, .c (.p (.l 1 (List.map (eI .i64) l))))], []⟩ [] [] { tmps := #[Value.int .i64 n, lv] ++ Array.replicate (nM - (#[Value.int .i64 n, lv] : Array Value).size) undef, defers := [] } w0 :=
    ⟨_, _, hr0, ⟨rfl, fun k x g hx => by simp at hx, ⟨fun g hg => by simp at hg, fun k k2 g g2 hg => by simp at hg⟩, fun x hx => by simp [It] at hx⟩, ⟨Nat.le_refl _, fun _ _ => rfl, fun _ h => h, fun _ h => .inl h, fun g ⟨b, q, hb, _⟩ => absurd rfl hb, rfl, rfl, rfl⟩⟩
  -- the result's variable
  refine E4 (st' := ⟨[(0, .c (.p (.v (.int .i64 n)))), (1, .c (.p (.l 1 (List.map (eI .i64) l))))], []⟩) (fun E => tE rfl ⟨rfl, QB.fit⟩) hj0 rfl fun a1 w1 hj1 => ?_
  -- the table
  obtain ⟨E1, cx1, hr1, hi1, hf1⟩ := hj1
  refine wp_seq (wp_region ?_)
  obtain ⟨j0, j1⟩ := b3 n
  have hwn : IntKind.i64.wrap (1 + QM .i64 n 3) = 1 + QM .i64 n 3 := by rw [IntKind.wrap_i64]; omega
  show wpOps _ _ _ [0, 1, 2, 3, 4, 5, 6, 7, 8] _ _
  rw [wpOps_cons]
  refine Kg hr1.base rfl rfl (Qd rfl rfl) rfl rfl fun cx2 a2 w2 hr2 => ?_
  rw [wpOps_cons]
  refine Kg hr2 rfl rfl WM rfl rfl fun cx3 a3 w3 hr3 => ?_
  rw [wpOps_cons]
  refine Kg hr3 rfl rfl WM rfl rfl fun cx4 a4 w4 hr4 => ?_
  rw [wpOps_cons]
  have hc4 := hr4.cut (fr' := [(1, .c (.p (.l 1 (List.map (eI .i64) l)))), (14, .c (.p (.v (.int .i64 (IntKind.i64.wrap (1 + QM .i64 n 3))))))]) (H' := []) ⟨rfl, rfl, trivial⟩ trivial
  have l4 := Dg hr1 rfl hc4
  have hf4 := hf1.lv l4 (fun _ h => h.elim)
  have e14 := NL (c := .tmp 14) hc4 rfl rfl
  refine IA rfl (by kernel_rfl) (R := fun e w => ∃ v ts, e = .returned (.tuple #[v, .int .i64 0]) ∧ (ts.length : Int) = 1 + QM .i64 n 3 ∧ (∀ x ∈ ts, ∃ v1 v2, x = Dp v1 v2) ∧ R2 w4 cx4.A w v ts) ?_ ?_
  · have exs : (#[Operand.tmp 14] : Array Operand).map a4.eval = #[Value.int .i64 (1 + QM .i64 n 3)] := by simp only [List.map_toArray, List.map_cons, List.map_nil, e14, hwn]
    refine exs ▸ ?_
    exact ON (fun x hx => (hc4.A x hx).1) (by omega) (by omega)
  rintro e w5 ⟨v, ts, rfl, hlen, hz, hnew⟩
  refine ⟨_, rfl, ?_⟩
  obtain ⟨gs, cx5, hr5, hi5, hf5⟩ := OP (d := 15) hc4 (by intro x hx; simp at hx; rcases hx with rfl | rfl <;> exact ⟨_, rfl⟩) (Nat.le_of_ble_eq_true (by kernel_rfl)) (by intro x hx; simp at hx; rcases hx with rfl | rfl <;> simp) hnew hf4
  rw [wpOps_cons]
  refine Kg hr5 rfl rfl (IX rfl rfl) rfl rfl fun cx6 a6 w6 hr6 => ?_
  rw [wpOps_cons]
  refine Kg hr6 rfl rfl (Uo rfl rfl rfl) rfl rfl fun cx7 a7 w7 hr7 => ?_
  rw [wpOps_cons]
  refine Kg hr7 rfl rfl (Uo rfl rfl rfl) rfl rfl fun cx8 a8 w8 hr8 => ?_
  rw [wpOps_cons]
  refine Kg hr8 rfl rfl (WO rfl rfl) rfl rfl fun cx9 a9 w9 hr9 => ?_
  rw [wpOps_cons]
  refine Kg hr9 rfl rfl (WO rfl rfl) rfl rfl fun cx10 a10 w10 hr10 => ?_
  have hc10 := hr10.cut (fr' := [(1, .c (.p (.l 1 (List.map (eI .i64) l)))), (5, .c (.sl (5, 1000) 0 (XD ts)))]) (H' := [((5, 1000), some (Ye ts))]) ⟨rfl, rfl, trivial⟩ ⟨rfl, trivial⟩
  have l10 := Dg hr5 rfl hc10
  have hj10 : JI w0 A0 nM ⟨[(1, .c (.p (.l 1 (List.map (eI .i64) l)))), (5, .c (.sl (5, 1000) 0 (XD ts)))], [((5, 1000), some (Ye ts))]⟩ ts gs a10 w10 := ⟨_, cx10, hc10, hi5.lv l10 (fun _ _ h => h), hf5.lv l10 (fun _ h => h.elim)⟩
  have hG0 : Lp ts := fun x hx => by
    obtain ⟨v1, v2, rfl⟩ := hz x hx
    exact Rh
  refine wp_seq ?_
  refine E4 (st' := sL l 0 ts) (fun E => tE rfl ⟨rfl, QB.fit⟩) hj10 rfl fun a11 w11 hj11 => ?_
  refine wp_block ?_
  refine Gw (fun k a w => ∃ (j : Nat) (ts : List Qg) (gs : List (Nat × Nat)), j ≤ 8 ∧ 1 ≤ ts.length ∧ ts.length ≤ 4 ∧ Lp ts ∧ k = 8 - j ∧ JI w0 A0 nM (sL l (j : Int) ts) ts gs a w) ?_ 8 _ _ ⟨0, ts, gs, by omega, by omega, by omega, hG0, rfl, hj11⟩
  rintro k a w ⟨j, ts, gs, hj8, hn1, hn4, hG, rfl, hj⟩
  refine wp_seq ?_
  refine wp_mono (Ht (Q := fun e s => s = sL l (j : Int) ts ∧ ((e = .normal ∧ j < 8 ∧ j < l.length) ∨ e = .exit 0)) (fun E => ?_) hj rfl) ?_
  · refine tk fun L hL => ?_
    refine dN 2 rfl ?_
    refine u0 QA ?_
    refine dN 2 rfl ?_
    refine Q2 rfl rfl Q6 (fun hg => Qd rfl rfl) ?_
    refine Q2 rfl rfl Q6 (fun hg => Qz (c := decide ((j : Int) < (8))) (Qb hg) rfl rfl rfl rfl) ?_
    refine u0 (Ql (v := .bool (decide ((j : Int) < (8)))) (w := .bool (false)) rfl rfl Q6 rfl Qw) ?_
    refine rt (hL _ ?_)
    refine Yg (b := (bif decide ((j : Int) < (l.length : Int)) then decide ((j : Int) < 8) else false)) rfl rfl (fun h => ?_) fun h => ?_
    · refine Qi ⟨_, QB.fit, rfl, .inl ⟨rfl, ?_⟩⟩
      have h1 := Nb h
      rw [h1] at h
      simp at h1 h
      omega
    · exact QT ⟨_, QB.fit, rfl, .inr rfl⟩
  rintro e a1 w1 ⟨s1, ⟨rfl, hcase⟩, hj1⟩
  rcases hcase with ⟨rfl, hlt8, hltl⟩ | rfl
  · -- a round
    refine wp_seq (wp_block (wp_mono (OS rfl hG (by omega) hll (by omega) (by omega) (by omega) hj1) ?_))
    rintro e a2 w2 ⟨he, ts', ⟨hl', hG', -⟩, hj2⟩
    have hw1 : IntKind.i64.wrap ((j : Int) + 1) = ((j + 1 : Nat) : Int) := by rw [IntKind.wrap_i64]; omega
    rcases he with rfl | rfl
    all_goals
      refine wp_mono (Iu (Q := fun e s => e = .normal ∧ s = sL l ((j + 1 : Nat) : Int) ts') (fun E => ?_) hj2 rfl) ?_
      · refine Ad (Q := fun e s => e = .normal ∧ s = _) (tE rfl ⟨rfl, rfl⟩) ?_
        rintro e s ⟨rfl, rfl⟩
        refine ⟨⟨[(1, .c (.p (.l 1 (List.map (eI .i64) l)))), (5, .c (.sl (5, 1000) 0 (XD ts'))), (7, .c (.p (.v (.int .i64 (IntKind.i64.wrap ((j : Int) + 1))))))], [((5, 1000), some (Ye ts'))]⟩, QB.fit, rfl, ?_⟩
        rw [hw1]; rfl
      rintro e a7 w7 ⟨st7, ⟨rfl, rfl⟩, hj7⟩
      exact ⟨8 - (j + 1), by omega, j + 1, ts', gs, by omega, by omega, by omega, hG', rfl, hj7⟩
  · -- the end
    simp only [Exit.then, Exit.inBlock, if_true]
    refine E4 (st' := ⟨[(5, .c (.sl (5, 1000) 0 (XD ts)))], [((5, 1000), some (Ye ts))]⟩) (fun E => ?_) hj1 rfl fun a2 w2 hj2 => ?_
    · refine tk fun L hL => ?_
      refine dN 1 rfl ?_
      refine u0 Ki ?_
      refine dN 1 rfl ?_
      refine rt (hL _ ?_)
      refine Yg (b := ((ts.length : Int) == 0)) rfl rfl (fun h => ?_) fun h => ?_
      · exfalso
        simp at h
        subst h
        simp at hn1
      · exact Qi ⟨rfl, QB.fit⟩
    refine E4 (st' := ⟨[(4, .c (.sl (5, 1000) 0 (XD ts)))], [((5, 1000), some (Ye ts))]⟩) (fun E => tE rfl ⟨rfl, QB.fit⟩) hj2 rfl fun a3 w3 hj3 => ?_
    exact wp_ret (hfin a3 w3 ts gs hn1 hn4 hG hj3)
end
set_option maxRecDepth 100000
set_option maxHeartbeats 4000000
section
variable {w w0 : World} {A A' : Nat → Prop}
theorem GG {g e cap : Nat} {rows rows' : List (List PV)} (h : Ua w A g e rows) (hg : A' g) (hl : rows'.length = rows.length) (he : ∀ r ∈ rows', r.length = e) (hc1 : rows'.length ≤ cap) (hc2 : cap ≤ maxLen)
    (hp : ∀ (i : Nat) r (k : Nat) p, rows'[i]? = some r → r[k]? = some p → ∃ r0 p0, rows[i]? = some r0 ∧ r0[k]? = some p0 ∧ ∀ v, RP w A p0 v → RP w A' p v) : RP w A' (.l e rows') (.slice (some ⟨g, 0, none⟩) rows'.length cap) := by
  obtain ⟨h0, h1, c, el, capR, h2, h3, h4, h5, h6⟩ := h
  have hlt : g < w.heap.size := by
    rcases Nat.lt_or_ge g w.heap.size with h | h
    · exact h
    · rw [Array.getElem?_eq_none h] at h2; cases h2
  refine .l e rows' _ cap (fun i k => c.getD (i * e + k) undef) hc1 hc2 he (.inr ⟨g, 0, rfl, hg, hlt, fun i r k p hi hk => ?_⟩) fun i r k p hi hk => ?_
  · obtain ⟨r0, p0, e1, e2, e3⟩ := hp i r k p hi hk
    obtain ⟨cv, e4, e5⟩ := h6 i r0 k p0 e1 e2
    rw [Nat.zero_add]
    simp only [World.cell?, h2, Array.getD_eq_getD_getElem?, e4, Option.getD_some]
    rfl
  · obtain ⟨r0, p0, e1, e2, e3⟩ := hp i r k p hi hk
    obtain ⟨cv, e4, e5⟩ := h6 i r0 k p0 e1 e2
    simp only [Array.getD_eq_getD_getElem?, e4, Option.getD_some]
    exact e3 _ e5
theorem M2 {g e cap : Nat} {rows : List (List PV)} (h : Ua w A g e rows) (hA : ∀ x, A x → A' x) (hg : A' g) (hc1 : rows.length ≤ cap) (hc2 : cap ≤ maxLen) : RP w A' (.l e rows) (.slice (some ⟨g, 0, none⟩) rows.length cap) :=
  GG h hg rfl h.2.1 hc1 hc2 fun i r k p hi hk => ⟨r, p, hi, hk, fun v hv => hv.mono hA (Nat.le_refl _) fun _ _ _ => rfl⟩
def SesR (w : World) (A' : Nat → Prop) (x : Qg) (s : Q5) : Prop :=
  Mu s ∧ ∃ S C, s = Q5.mk x.fb7 x.fOp x.fm x.fa3 S C ∧ RP w A' (.l 3 (List.map QF S)) x.f7 ∧ RP w A' (.l 4 (List.map QY C)) x.fa5
def Ri (x : Qg) : List PV := (Z9 x).take 95
theorem pre_o (x : Qg) : Z9 x = Ri x ++ [.o x.f7, .o x.fa5] := rfl
theorem pre_s (x : Qg) (S : List Qx) (C : List QI) : Qv (Q5.mk x.fb7 x.fOp x.fm x.fa3 S C) = Ri x ++ [.l 3 (List.map QF S), .l 4 (List.map QY C)] := rfl
theorem Hv (x : Qg) : (Ri x).length = 95 := rfl
theorem rp_o {x v : Value} (h : RP w A (.o x) v) : v = x := by cases h; rfl
theorem NP {x : Qg} {s : Q5} (h : SesR w A' x s) (hA : ∀ g, A g → A' g) {k : Nat} {p : PV} (hk : (Qv s)[k]? = some p) : ∃ p0, (Z9 x)[k]? = some p0 ∧ ∀ v, RP w A p0 v → RP w A' p v := by
  obtain ⟨-, S, C, rfl, h1, h2⟩ := h
  rw [pre_s] at hk
  rw [pre_o]
  by_cases hl : k < 95
  · rw [List.getElem?_append_left (by rw [Hv]; exact hl)] at hk ⊢
    exact ⟨p, hk, fun v hv => hv.mono hA (Nat.le_refl _) fun _ _ _ => rfl⟩
  · rw [List.getElem?_append_right (by rw [Hv]; omega), Hv] at hk ⊢
    match hd : k - 95, hk with
    | 0, hk =>
      cases hk
      refine ⟨_, rfl, fun v hv => ?_⟩
      rw [rp_o hv]; exact h1
    | 1, hk =>
      cases hk
      refine ⟨_, rfl, fun v hv => ?_⟩
      rw [rp_o hv]; exact h2
    | n + 2, hk => simp at hk
theorem IB {α β : Type} {R : α → β → Prop} : ∀ {l : List α}, (∀ x ∈ l, ∃ y, R x y) → ∃ r : List β, r.length = l.length ∧ ∀ (i : Nat) y, r[i]? = some y → ∃ x, l[i]? = some x ∧ R x y
  | [], _ => ⟨[], rfl, fun i y h => by simp at h⟩
  | x :: l, h => by
    obtain ⟨y, hy⟩ := h x (by simp)
    obtain ⟨r, h1, h2⟩ := IB (l := l) fun z hz => h z (by simp [hz])
    refine ⟨y :: r, by simp [h1], fun i z hz => ?_⟩
    cases i with
    | zero => simp at hz; subst hz; exact ⟨x, rfl, hy⟩
    | succ i => simp at hz; simpa using h2 i z hz
def NQ (r : List Q5) : Prop := 1 ≤ r.length ∧ r.length ≤ 4 ∧ ∀ s ∈ r, Mu s
def M5 (w0 : World) (A0 : Nat → Prop) (w : World) (v : Value) (r : List Q5) : Prop :=
  NQ r ∧ ∃ A : Nat → Prop, RP w A (.l 97 (List.map Qv r)) v ∧ w0.heap.size ≤ w.heap.size ∧ (∀ g, g < w0.heap.size → w.heap[g]? = w0.heap[g]?) ∧ (∀ g, A0 g → A g) ∧ (∀ g, A g → g < w.heap.size ∧ (A0 g ∨ w0.heap.size ≤ g)) ∧ w.os = w0.os ∧ w.tape = w0.tape ∧ w.output = w0.output
theorem OT (s : Q5) : (Qv s).length = 97 := rfl
theorem NR {ts : List Qg} {gs : List (Nat × Nat)} {a : Act} {A0 : Nat → Prop} (h1 : 1 ≤ ts.length) (h4 : ts.length ≤ 4) (hG : Lp ts) (hj : JI w0 A0 nM ⟨[(4, .c (.sl (5, 1000) 0 (XD ts)))], [((5, 1000), some (Ye ts))]⟩ ts gs a w) : ∃ r, M5 w0 A0 w (a.tmps.getD 4 undef) r := by
  obtain ⟨E, cx, hr, hi, hf⟩ := hj
  obtain ⟨g, c, e1, l1, m1, i1, r1, n1⟩ := M0 hr (s := 4) (b := (5, 1000)) (e := 97) (rows := List.map Z9 ts) (m := XD ts) rfl rfl (by simp; omega) (Nat.le_refl _)
  let A' : Nat → Prop := fun x => cx.A x ∨ x = g ∨ x ∈ It gs
  have hA : ∀ x, cx.A x → A' x := fun x hx => .inl hx
  have hex : ∀ x ∈ ts, ∃ s, SesR w A' x s := by
    intro x hx
    obtain ⟨k, hk, rfl⟩ := List.getElem_of_mem hx
    have hkg : k < gs.length := by rw [hi.len]; exact hk
    have hm : gs[k] ∈ gs := List.getElem_mem hkg
    obtain ⟨⟨c1, S, e2, l2, m2, n2, d2, r2⟩, c2, C, e3, l3, m3, n3, r3⟩ := hi.els k _ _ (List.getElem?_eq_getElem hk) (List.getElem?_eq_getElem hkg)
    obtain ⟨g1, g2⟩ := hG _ hx
    refine ⟨Q5.mk ts[k].fb7 ts[k].fOp ts[k].fm ts[k].fa3 S C, ⟨g1, g2, by rw [n2]; decide, by rw [n3]; decide, fun s hs => Nat.le_trans (d2 s hs) (by decide)⟩, S, C, rfl, ?_, ?_⟩
    · have := M2 (cap := c1) r2 hA (.inr (.inr (V4.2 ⟨_, hm, .inl rfl⟩))) (by simpa [n2] using l2) m2
      rw [e2]
      simpa [n2] using this
    · have := M2 (cap := c2) r3 hA (.inr (.inr (V4.2 ⟨_, hm, .inr rfl⟩))) (by simpa [n3] using l3) m3
      rw [e3]
      simpa [n3] using this
  obtain ⟨r, hl, hpr⟩ := IB hex
  refine ⟨r, ⟨by omega, by omega, fun s hs => ?_⟩, A', ?_, hf.sz, hf.kept, fun x hx => .inl (hf.A x hx), ?_, hf.os, hf.tape, hf.output⟩
  · obtain ⟨k, hk, rfl⟩ := List.getElem_of_mem hs
    obtain ⟨x, _, h2⟩ := hpr k _ (List.getElem?_eq_getElem hk)
    exact h2.1
  · have hlen : (List.map Qv r).length = XD ts := by simp [XD, hl]
    have := GG (A' := A') (rows' := List.map Qv r) (cap := c) r1 (.inr (.inl rfl)) (by simpa using hl) (fun y hy => by
      obtain ⟨s, _, rfl⟩ := List.mem_map.1 hy
      exact OT s) (by rw [hlen]; exact l1) m1 (fun i y k p hi2 hk => by
      rw [List.getElem?_map, Option.map_eq_some_iff] at hi2
      obtain ⟨s, hs, rfl⟩ := hi2
      obtain ⟨x, hx, hR⟩ := hpr i s hs
      obtain ⟨p0, h5, h6⟩ := NP hR hA hk
      exact ⟨_, p0, by rw [List.getElem?_map, hx]; rfl, h5, h6⟩)
    rw [e1, ← hlen]
    exact this
  · rintro x (hx | rfl | hx)
    · exact ⟨(hr.A x hx).1, hf.A' x hx⟩
    · exact ⟨r1.lt, .inr (hf.own x ⟨(5, 1000), 0, (fun h => by cases h), i1⟩)⟩
    · exact ⟨hi.lt hx, .inr (hi.off x hx).2.2⟩
theorem Lq {n : Int} {l : List Int} {lv : Value} {A0 : Nat → Prop} (hA : ∀ x, A0 x → x < w0.heap.size) (hn : KC (.int .i64 n) = true) (hlv : RP w0 A0 (.l 1 (List.map (eI .i64) l)) lv) (hll : l.length ≤ 4611686018427387904) :
    Calls Tryz.prog 6 #[.int .i64 n, lv] w0 fun e w => ∃ v r, e = .returned v ∧ M5 w0 A0 w v r := by
  refine calls_of_wp Tryz.func6 rfl ?_
  refine NO hA hn hlv hll (fun a w ts gs h1 h4 hG hj => ?_) _ rfl
  obtain ⟨r, hr⟩ := NR h1 h4 hG hj
  obtain ⟨E, cx, hrel, _, _⟩ := hj
  exact bodyPost_ret (results_tmp rfl _ _ _) hrel.defers ⟨_, r, rfl, hr⟩
end
set_option maxRecDepth 100000
section
variable {ts : List Q5} {k i : Int} {o : Qo}
def Rj (x : Q5) (o : Qo) (i : Int) : Q5 := Q5.mk true o NK i x.f7 x.fa5
theorem Rk {m : Nat} (h : CG m o) (hm : m ≤ 1000000) : Mt o := by
  obtain ⟨h1, h2, h3, h4, _⟩ := h
  exact ⟨by omega, by omega, by omega, by omega⟩
def Gm (ts : List Q5) : Prop := ts.length ≤ 4 ∧ ∀ s ∈ ts, Mu s
theorem Gm.set {n : Nat} {y : Q5} (h : Gm ts) (hy : Mu y) : Gm (ts.set n y) := by
  refine ⟨by simpa using h.1, fun z hz => ?_⟩
  rcases List.mem_or_eq_of_mem_set hz with h1 | rfl
  · exact h.2 z h1
  · exact hy
theorem Gm.nil : Gm [] := ⟨by decide, fun s h => by cases h⟩
theorem OU {x : Q5} (hx : Mu x) (ho : Mt o) : Mu (Rj x o i) := ⟨ho, M1, hx.2.2⟩
theorem c_in (h0 : 0 ≤ k) (h1 : k < ts.length) : (bif decide (k < 0) then true else decide (k ≥ (ts.length : Int))) = false := by
  have e1 : decide (k < 0) = false := by simp; omega
  have e2 : decide (k ≥ (ts.length : Int)) = false := by simp; omega
  rw [e1, e2]; rfl
theorem c_out (h : ¬ (0 ≤ k ∧ k < ts.length)) : (bif decide (k < 0) then true else decide (k ≥ (ts.length : Int))) = true := by
  by_cases h0 : k < 0
  · have e1 : decide (k < 0) = true := by simpa using h0
    rw [e1]; rfl
  · have e1 : decide (k < 0) = false := by simpa using h0
    have e2 : decide (k ≥ (ts.length : Int)) = true := by simp; omega
    rw [e1, e2]; rfl
def BegP (ts : List Q5) (k : Int) (o : Qo) (i : Int) (r : List Q5 × Int) : Prop :=
  (¬ (0 ≤ k ∧ k < ts.length) ∧ r = ([], 5)) ∨ (0 ≤ k ∧ k < ts.length ∧ ((Js o ≠ 0 ∧ r = ([], Js o)) ∨ ∃ x, ix ts k x ∧ ((x.fb7 = true ∧ r = ([], 12)) ∨ r = (ts.set k.toNat (Rj x o i), 0))))
theorem FG (h : Gm ts) (ho : Mt o) : ∃ r, Zd ts k o i r ∧ Zq ts k o i r ∧ Gm r.1 ∧ BegP ts k o i r := by
  by_cases hk : 0 ≤ k ∧ k < ts.length
  · obtain ⟨h0, h1⟩ := hk
    have c1 := c_in h0 h1
    obtain ⟨x, hx⟩ : ∃ x, ts[k.toNat]? = some x := ⟨_, List.getElem?_eq_getElem (by omega)⟩
    have hxk : ix ts k x := ⟨h0, hx⟩
    have hsx := h.2 x (List.mem_of_getElem? hx)
    have hl := h.1
    by_cases hv : Js o = 0
    · cases hb : x.fb7 with
      | true =>
        refine ⟨([], 12), ?_, ?_, Gm.nil, .inr ⟨h0, h1, .inr ⟨x, hxk, .inl ⟨hb, rfl⟩⟩⟩⟩
        · unfold Zd Ko
          rw [c1]
          exact ⟨fun h => (by cases h), fun _ => ⟨Js o, Je o, fun h => by simp [hv] at h, fun _ => ⟨x, hxk, fun _ => rfl, fun h => by simp [hb] at h⟩⟩⟩
        · unfold Zq Kl
          rw [c1]
          exact ⟨fun h => (by cases h), fun _ => ⟨Js o, Vs o, fun h => by simp [hv] at h, fun _ => ⟨x, hxk, fun _ => rfl, fun h => by simp [hb] at h⟩⟩⟩
      | false =>
        refine ⟨(ts.set k.toNat (Rj x o i), 0), ?_, ?_, h.set (OU hsx ho), .inr ⟨h0, h1, .inr ⟨x, hxk, .inr rfl⟩⟩⟩
        · unfold Zd Ko
          rw [c1]
          refine ⟨fun h => (by cases h), fun _ => ⟨Js o, Je o, fun h => by simp [hv] at h, fun _ => ⟨x, hxk, fun h => by simp [hb] at h, fun _ => ⟨ts, FB ts (by omega) h.2, x, hxk, o, Cq o ho, ?_⟩⟩⟩⟩
          simp only [List.set_set]
          rfl
        · unfold Zq Kl
          rw [c1]
          refine ⟨fun h => (by cases h), fun _ => ⟨Js o, Vs o, fun h => by simp [hv] at h, fun _ => ⟨x, hxk, fun h => by simp [hb] at h, fun _ => ⟨by omega, x, hxk, ?_⟩⟩⟩⟩
          simp only [List.set_set]
          rfl
    · refine ⟨([], Js o), ?_, ?_, Gm.nil, .inr ⟨h0, h1, .inl ⟨hv, rfl⟩⟩⟩
      · unfold Zd Ko
        rw [c1]
        exact ⟨fun h => (by cases h), fun _ => ⟨Js o, Je o, fun _ => rfl, fun h => by simp [hv] at h⟩⟩
      · unfold Zq Kl
        rw [c1]
        exact ⟨fun h => (by cases h), fun _ => ⟨Js o, Vs o, fun _ => rfl, fun h => by simp [hv] at h⟩⟩
  · have c1 := c_out hk
    refine ⟨([], 5), ?_, ?_, Gm.nil, .inl ⟨hk, rfl⟩⟩
    · unfold Zd Ko
      rw [c1]
      exact ⟨fun _ => rfl, fun h => (by cases h)⟩
    · unfold Zq Kl
      rw [c1]
      exact ⟨fun _ => rfl, fun h => (by cases h)⟩
end
set_option maxRecDepth 100000
set_option maxHeartbeats 4000000
section
variable {E : En} {N : Nat} {st : St} {cx : Cx} {a : Act} {w w' : World} {fr : List (Nat × TV)} {d : Nat} {v : Value} {r : List Q5}
theorem ev_p {c : Operand} {p : PV} (hr : ZV E N cx st a w) (hb : st.ev c = .c (.p p)) (hc : Zu c = true) : RP w cx.A p (a.eval c) := by
  have := hr.ev hc
  rw [hb] at this
  exact this.2
theorem NS (hr : ZV E N cx ⟨fr, []⟩ a w) (hp : NM fr) (hd : d < N) (hm : M5 w cx.A w' v r) : ∃ cx', ZV E N cx' ⟨(d, .c (.p (.l 97 (List.map Qv r)))) :: fr, []⟩ (a.put (some d) v) w' := by
  obtain ⟨-, A, hv, hsz, hkept, hA1, hA2, hos, htp, hou⟩ := hm
  have hg : ∀ s, (⟨(d, .c (.p (.l 97 (List.map Qv r)))) :: fr, []⟩ : St).g s = if s = d then .c (.p (.l 97 (List.map Qv r))) else (⟨fr, []⟩ : St).g s := by
    intro s
    rw [La]
  refine ⟨⟨cx.ι, A⟩, hr.defers, by simp only [Act.put, Array.size_setIfInBounds]; exact hr.size, fun s => ?_, fun b bk hb => (by cases hb), fun b b' g1 o g2 o' hb => absurd rfl hb, fun b g1 o hb => absurd rfl hb, fun x hx => ⟨(hA2 x hx).1, ?_⟩, fun g hg => hA1 g (hr.A0 g hg), fun g h1 h2 => (hkept g (Nat.lt_of_lt_of_le h1 hr.sz)).trans (hr.kept g h1 h2), Nat.le_trans hr.sz hsz, hos.trans hr.os, htp.trans hr.tape, hou.trans hr.output, hr.hN, hr.pin⟩
  · rw [hg]
    by_cases e : s = d
    · subst e
      have e2 : (a.put (some s) v).tmps.getD s undef = v := CN (o := (⟨some s, .move (.tmp 0), 0, "", #[], none⟩ : Oper)) rfl (by rw [hr.size]; exact hd)
      rw [if_pos rfl, e2]
      refine ⟨.inr (by cases hv; rfl), hv⟩
    · have e2 : (a.put (some d) v).tmps.getD s undef = a.tmps.getD s undef := put_eq (o := (⟨some d, .move (.tmp 0), 0, "", #[], none⟩ : Oper)) (fun h => e (Option.some.inj h).symm)
      rw [if_neg e, e2]
      have h1 := hr.fr s
      have h2 : (⟨fr, []⟩ : St).g s = (ZC fr s).getD (.c .any) := rfl
      rw [h2] at h1 ⊢
      cases hl : ZC fr s with
      | none => exact ⟨.inl rfl, trivial⟩
      | some t =>
        obtain ⟨p, hp'⟩ := hp _ (Bi hl)
        simp only at hp'
        subst hp'
        rw [hl] at h1
        exact ⟨h1.1, h1.2.mono hA1 hsz (fun x hx hl => hkept x hl)⟩
  · rcases (hA2 x hx).2 with h | h
    · exact (hr.A x h).2
    · exact .inr (.inl (Nat.le_trans hr.sz h))
end
set_option maxRecDepth 100000
set_option maxHeartbeats 4000000
theorem NT {E : En} {Q : Exit → St → Prop} {y : Code} {a0 : Int} {a1 : List Int} {a2 : Int} {a3 : Int} {R : Array Oper} (hll : a1.length ≤ 4611686018427387904) (hR : Tryz.f3.body.bind (BR 1) = some R) (k : ∀ r, NQ r → AW E 78 Tryz.prog y Q ⟨[(9, .c (.p (.l 97 (List.map Qv r)))), (0, .c (.p (.v (.int .i64 a0)))), (1, .c (.p (.l 1 (List.map (eI .i64) a1)))), (2, .c (.p (.v (.int .i64 a2)))), (3, .c (.p (.v (.int .i64 a3)))), (8, .c (.p (.v (.bool false))))], []⟩) :
    AW E 78 Tryz.prog (.seq (.region 1 R false) y) Q ⟨[(0, .c (.p (.v (.int .i64 a0)))), (1, .c (.p (.l 1 (List.map (eI .i64) a1)))), (2, .c (.p (.v (.int .i64 a2)))), (3, .c (.p (.v (.int .i64 a3)))), (8, .c (.p (.v (.bool false))))], []⟩ := by
  cases hR
  intro cx a w hr
  refine wp_seq (wp_region ?_)
  show wpOps _ _ _ [0, 1, 2, 3] _ _
  rw [wpOps_cons]
  refine Kg hr rfl rfl (Qd rfl rfl) rfl rfl fun cx2 ac2 w2 hr2 => ?_
  rw [wpOps_cons]
  refine Kg hr2 rfl rfl (Qd rfl rfl) rfl rfl fun cx3 ac3 w3 hr3 => ?_
  rw [wpOps_cons]
  have e0 := NL (c := .tmp 20) (y := .int .i64 a0) hr3 rfl rfl
  have e1 := ev_p (c := .tmp 21) (p := .l 1 (List.map (eI .i64) a1)) hr3 rfl rfl
  have h0 : RP w3 cx3.A (.v (.int .i64 a0)) (ac3.eval (.tmp 20)) := ev_p (c := .tmp 20) hr3 rfl rfl
  have hn : KC (.int .i64 a0) = true := by
    revert h0
    generalize ac3.eval (.tmp 20) = z
    intro h0
    cases h0 with | v _ h => exact h
  have hc3 := hr3.cut (fr' := [(0, .c (.p (.v (.int .i64 a0)))), (1, .c (.p (.l 1 (List.map (eI .i64) a1)))), (2, .c (.p (.v (.int .i64 a2)))), (3, .c (.p (.v (.int .i64 a3)))), (8, .c (.p (.v (.bool false))))]) (H' := []) ⟨rfl, rfl, rfl, rfl, rfl, trivial⟩ trivial
  refine IA rfl (by kernel_rfl) (R := fun e w => ∃ v r, e = .returned v ∧ M5 w3 cx3.A w v r) ?_ ?_
  · have exs : (#[Operand.tmp 20, Operand.tmp 21] : Array Operand).map ac3.eval = #[Value.int .i64 a0, ac3.eval (.tmp 21)] := by simp only [List.map_toArray, List.map_cons, List.map_nil, e0]
    refine exs ▸ ?_
    exact Lq (fun x hx => (hr3.A x hx).1) hn e1 hll
  rintro e w4 ⟨v, r, rfl, hm⟩
  refine ⟨v, rfl, ?_⟩
  obtain ⟨cx4, hr4⟩ := NS (d := 22) hc3 (by intro x hx; simp at hx; rcases hx with rfl | rfl | rfl | rfl | rfl <;> exact ⟨_, rfl⟩) (by decide) hm
  rw [wpOps_cons]
  refine Kg hr4 rfl rfl (WO rfl rfl) rfl rfl fun cx5 ac5 w5 hr5 => ?_
  have hc5 := hr5.cut (fr' := [(9, .c (.p (.l 97 (List.map Qv r)))), (0, .c (.p (.v (.int .i64 a0)))), (1, .c (.p (.l 1 (List.map (eI .i64) a1)))), (2, .c (.p (.v (.int .i64 a2)))), (3, .c (.p (.v (.int .i64 a3)))), (8, .c (.p (.v (.bool false))))]) (H' := []) ⟨rfl, rfl, rfl, rfl, rfl, rfl, trivial⟩ trivial
  exact k r hm.1 _ _ _ hc5
def Xi (a0 : Int) (a1 : (List Int)) (a2 : Int) (a3 : Int) (Q : Bool → Prop) : Prop :=
 ∀ (v1 : (List Q5)), NQ v1 → ∃ (v2 : Qo), WS (a1) (3) v2 ∧ ∃ (v3 : Qo), YN (Qo.mk (v2.fk) (v2.fb4) (v2.fi) (v2.fa0) v2.fa (v2.f0) (v2.fb0) (v2.f9) (v2.fa6) (v2.fa1) (v2.fb1) (v2.fa2) (v2.fv) v2.fo (v2.fb3)) (a3) v3 ∧ ∃ (v4 : (List Q5) × Int), Zd (v1) (IntKind.i64.wrap ((QM .i64 (a2) (7)) - (1))) v3 (QM .i64 (a3) (15)) v4 ∧ ∃ (v5 : (List Q5) × Int), Zq (v1) (IntKind.i64.wrap ((QM .i64 (a2) (7)) - (1))) v3 (QM .i64 (a3) (15)) v5 ∧ ∃ (v6 : (List Q5) × Int), Zd (v1) (a2) v3 (0) v6 ∧ ∃ (v7 : (List Q5) × Int), Zq (v1) (a2) v3 (0) v7 ∧ ∃ (v8 : Bool), ((((v4.2) == (v5.2))) = true → Jb (v4.1) (v5.1) v8) ∧ ∃ (v9 : Bool), (((bif (bif ((v4.2) == (v5.2)) then v8 else false) then ((v6.2) == (v7.2)) else false)) = true → Yc  v9) ∧ Q (((bif (bif (bif ((v4.2) == (v5.2)) then v8 else false) then ((v6.2) == (v7.2)) else false) then v9 else false)))
def JQ (a0 : Int) (a1 : (List Int)) (a2 : Int) (a3 : Int) (r : Bool) : Prop := Xi a0 a1 a2 a3 fun x => r = x
theorem AI {a0 : Int} {a1 : (List Int)} {a2 : Int} {a3 : Int} {r : Bool} (hll : a1.length ≤ 4611686018427387904) (h : JQ a0 a1 a2 a3 r) : Qq Tryz.prog 3 [.c (.v (.int .i64 (a0))), .c (.l 1 (List.map (eI .i64) (a1))), .c (.v (.int .i64 (a2))), .c (.v (.int .i64 (a3)))] [.c (.p (.v (.bool (r))))] [] := by
  refine Qn tb Tryz.func3 rfl (by kernel_rfl) rfl rfl (Nat.le_of_ble_eq_true rfl) rfl ?_
  intro E
  unfold JQ Xi at h
  refine Z3 (fun Q hQ => ?_)
  refine tD rfl ?_
  refine QS (st' := ⟨[(0, .c (.p (.v (.int .i64 a0)))), (1, .c (.p (.l 1 (List.map (eI .i64) a1)))), (2, .c (.p (.v (.int .i64 a2)))), (3, .c (.p (.v (.int .i64 a3)))), (8, .c (.p (.v (.bool false))))], []⟩) QB.fit ?_
  refine NT hll rfl fun v1 hv1 => ?_
  replace h := h v1 hv1
  refine tk fun L hL => ?_
  refine dN 1 rfl ?_
  obtain ⟨v2, hv2, h⟩ := h
  refine ul (Zw (GD hv2)) ?_
  refine dN 1 rfl ?_
  obtain ⟨v3, hv3, h⟩ := h
  refine ul (Y2 (Hg hv3) rfl rfl (.cons (.agg (.cons (.p _) (.cons (.p _) (.cons (.p _) (.cons (.p _) (.cons (.p _) (.cons (.p _) (.cons (.p _) (.cons (.p _) (.cons (.fr rfl (QG rfl)) (.cons (.p _) (.cons (.p _) (.cons (.p _) (.cons (.p _) (.cons (.p _) (.cons (.p _) (.cons (.p _) (.cons (.p _) (.cons (.p _) (.cons (.p _) (.cons (.p _) (.cons (.p _) (.cons (.fr rfl (QG rfl)) .nil))))))))))))))))))))))) (.cons (.c (.p _)) .nil))) ?_
  refine dN 2 rfl ?_
  refine rt (hL _ ?_)
  refine tD rfl ?_
  refine tk fun L hL => ?_
  refine dN 5 rfl ?_
  obtain ⟨v4, hv4, h⟩ := h
  refine ul (Zw (XR hv4)) ?_
  refine dN 5 rfl ?_
  refine rt (hL _ ?_)
  refine tk fun L hL => ?_
  refine dN 5 rfl ?_
  obtain ⟨v5, hv5, h⟩ := h
  refine ul (Zw (Wz hv5)) ?_
  refine dN 5 rfl ?_
  refine rt (hL _ ?_)
  refine tk fun L hL => ?_
  refine dN 3 rfl ?_
  obtain ⟨v6, hv6, h⟩ := h
  refine ul (Zw (XR hv6)) ?_
  refine dN 5 rfl ?_
  refine rt (hL _ ?_)
  refine QS (st' := ⟨[(2, .c (.p (.v (.int .i64 (a2))))), (9, .c (.p (.l 97 (List.map Qv (v1))))), (10, .c (.ptr (10, 0) 0 0)), (12, .c (.sl (36, 0) 0 (List.map Qv (v4.1)).length)), (13, .c (.p (.v (.int .i64 (v4.2))))), (14, .c (.sl (45, 0) 0 (List.map Qv (v5.1)).length)), (15, .c (.p (.v (.int .i64 (v5.2))))), (17, .c (.p (.v (.int .i64 (v6.2)))))], [((10, 0), some (.box (List.map CV.p (Zf v3)))), ((36, 0), some (.row 97 (List.map Qv (v4.1)) true)), ((45, 0), some (.row 97 (List.map Qv (v5.1)) true))]⟩) QB.fit ?_
  refine tk fun L hL => ?_
  refine dN 3 rfl ?_
  obtain ⟨v7, hv7, h⟩ := h
  refine ul (Zw (Wz hv7)) ?_
  refine dN 5 rfl ?_
  refine rt (hL _ ?_)
  refine tk fun L hL => ?_
  refine dN 4 rfl ?_
  refine Q2 rfl rfl Q6 (fun hg => Qd rfl rfl) ?_
  refine Q2 rfl rfl Q6 (fun hg => Qd rfl rfl) ?_
  obtain ⟨v8, hv8, h⟩ := h
  refine Q2 rfl rfl Q6 (fun hg => Zi (B5 (hv8 hg)) (YG (K4.cons (.p rfl) K4.nil)) rfl rfl (.cons (Zh hg (.c (.fr rfl (QG rfl)))) (.cons (Zh hg (.c (.fr rfl (QG rfl)))) .nil)) rfl rfl rfl) ?_
  refine u0 (Ql (v := .bool (v8)) (w := .bool (false)) rfl rfl Q6 rfl Qw) ?_
  refine dN 1 rfl ?_
  refine Q2 rfl rfl Q6 (fun hg => Qd rfl rfl) ?_
  refine Q2 rfl rfl Q6 (fun hg => Qd rfl rfl) ?_
  refine Q2 rfl rfl Q6 (fun hg => Qz (c := ((v6.2) == (v7.2))) (Qb hg) (Qb hg) rfl rfl rfl) ?_
  refine u0 (Ql (v := .bool (((v6.2) == (v7.2)))) (w := .bool (false)) rfl rfl Q6 rfl Qw) ?_
  refine dN 1 rfl ?_
  obtain ⟨v9, hv9, h⟩ := h
  refine Q2 rfl rfl Q6 (fun hg => QN (G9 (hv9 hg)) rfl rfl .nil rfl rfl rfl) ?_
  refine u0 (Ql (v := .bool (v9)) (w := .bool (false)) rfl rfl Q6 rfl Qw) ?_
  refine dN 1 rfl ?_
  refine rt (hL _ ?_)
  obtain rfl := h
  exact Qf (hQ _ _ ⟨.inr rfl, _, _, _, (.cons (.p rfl) .nil), (.cons (.c (.p _)) .nil), rfl, rfl⟩)
theorem AJ (n : Int) (l : List Int) (s m : Int) (hl : l.length ≤ 4611686018427387904) : JQ n l s m true := by
  unfold JQ Xi
  rintro v1 ⟨-, g4, gs⟩
  obtain ⟨o, ho, hv, hs⟩ := GF l 3 hl (by omega) (by omega)
  obtain ⟨o2, ho2, hs2⟩ := Hs o m 65536 (by omega) hs
  have hsm : Mt o2 := Rk hs2 (by omega)
  obtain ⟨r, r1, r2, r3, -⟩ := FG (k := IntKind.i64.wrap ((QM .i64 s 7) - 1)) (i := QM .i64 m 15) ⟨g4, gs⟩ hsm
  obtain ⟨q, q1, q2, q3, -⟩ := FG (k := s) (i := 0) ⟨g4, gs⟩ hsm
  exact ⟨o, ho, o2, ho2, r, r1, r, r2, q, q1, q, q2, true, fun _ => Bb _ (Nat.le_trans r3.1 (by decide)) r3.2, true, fun _ => Gd, by simp⟩
theorem SessionsBegin_walk (a0 : Int) (v1 : Value) (l1 : List Int) (a2 a3 : Int) (w : World) (h0 : (Lit.int .i64 a0).wf = true) (h1 : Ints .i64 w v1 l1) (s1 : l1.length * Tryz.prog.bytesOf 3 ≤ 140737488351232) (h2 : (Lit.int .i64 a2).wf = true) (h3 : (Lit.int .i64 a3).wf = true) :
    Calls Tryz.prog 3 #[.int .i64 a0, v1, .int .i64 a2, .int .i64 a3] w fun e w' => e = .returned (.bool true) ∧ Below w.heap.size w w' := by
  have hl : l1.length ≤ 4611686018427387904 := by
    have e : Tryz.prog.bytesOf 3 = 8 := by kernel_rfl
    rw [e] at s1; omega
  refine (Ug (A := fun x => x < w.heap.size) (vs := #[.int .i64 a0, v1, .int .i64 a2, .int .i64 a3]) (g := 0) (q := 0) (AI (r := true) hl (AJ a0 l1 a2 a3 hl)) rfl (fun x h => h) ⟨.v _ h0, IO h1 (fun _ _ _ g _ _ hg => hg), .v _ h2, .v _ h3, trivial⟩).mono ?_
  rintro e w' ⟨rfl, hg⟩
  exact ⟨rfl, EM hg⟩
end Go.Proofs.YtpnpodbihdiegaaGreat
