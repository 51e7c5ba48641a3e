/- Parts of the proof, laid together. No condition. -/
import Derived.Test.YtpnpodbihdiegaaGreatR6
import Derived.Below
set_option linter.unusedVariables false
set_option linter.unusedSimpArgs false
namespace Go.Proofs.YtpnpodbihdiegaaGreat
open Go.RowKit
set_option maxRecDepth 100000
set_option maxHeartbeats 4000000
section
variable {E : En} {N : Nat} {P : Program} {ops : Array Oper} {st : St} {d : Nat} {ty : Nat} {pos : String} {af : Array Edge} {gd : Option (Nat × Bool)}
theorem Gw [T : Tb P] {α : Type} {f : α → List PV} {L : List α} {x y : Operand} {t el e : Nat} {v : Value} {g n c : Nat} {b : QX} {mu : Bool} {k : IntKind} {m : Int} {tt te : TE} (hp : E.pin b = some (g, 0)) (hpi : GA b) (hv : v = .slice (some ⟨g, 0, none⟩) n c) (hm : 0 ≤ m ∧ m < n)
    (h1 : st.ev x = .c (.p (.o v))) (hb : st.h b = some (.row e (L.map f) mu)) (h2 : st.ev y = .c (.p (.v (.int k m)))) (ht : ZA T.ty t = some tt) (hk : tt.kd = .slice el) (hel : ZA T.ty el = some te) (he : te.size = e) (hx : Zr x = true) (hy : Zr y = true) :
    KC E N P ops ⟨some d, .indexAddr t x y, ty, pos, af, gd⟩ st ⟨[b], []⟩ ⟨.c (.ptr b m.toNat 0), []⟩ :=
  Zc fun st' cx a w ha hr => by
    obtain ⟨e2, w2⟩ := BB h2 hy ha (by simp [Op.operands]) hr
    obtain ⟨-, h4⟩ := FB h1 hx ha (by simp [Op.operands]) hr
    have h5 : a.eval x = v := by
      revert h4
      generalize a.eval x = z
      intro h4
      cases h4 with | o _ _ => rfl
    have hmn : (m.toNat : Int) = m := by omega
    have hrun := Ww (g := g) (q := 0) (cap := c) (k := k) (w := w) ht hk hel (show m.toNat < n by omega)
    rw [hmn] at hrun
    refine ⟨.pointer (some ⟨g, 0 + m.toNat * te.size, none⟩), ?_, .inr rfl, fun bk hbk => ⟨g, 0, (hr.pin b hpi).trans hp, ?_⟩⟩
    · simp only [execOp, h5, hv, e2, Sem.run_bind, hrun, Result.andThen_ok, Sem.run_pure]
    · rw [ha.2 b (by simp)] at hbk
      rw [hb] at hbk
      cases hbk
      simp [Bk.e, he]
end
noncomputable abbrev nM : Nat := Tryz.f6.ntmps
noncomputable def PY (id : Nat) : Option (Array Oper) := Tryz.f6.body.bind (BO id)
def sR (l : List Int) (i k : Int) (ts : List Qg) : St := ⟨[(1, .c (.p (.l 1 (List.map (eI .i64) l)))), (5, .c (.sl (5, 1000) 0 (Xw ts))), (7, .c (.p (.v (.int .i64 i)))), (8, .c (.p (.v (.int .i64 k))))], [((5, 1000), some (Y7 ts))]⟩
section
variable {E : En} {l : List Int} {i k : Int} {ts : List Qg} {x : Qg} {y : Int}
theorem b3 (z : Int) : 0 ≤ Zg .i64 z 3 ∧ Zg .i64 z 3 < 4 := by
  rw [bA3]; omega
theorem PZ {R : Array Oper} (hR : PY 11 = some R) (hx : ix ts k x) (hy : ix l i y) {g cp : Nat} {S : List Qx} (hv : x.f5 = .slice (some ⟨g, 0, none⟩) 4 cp) (hS : S.length = 4) (hG : GdS S) (hp : E.pin Jd = some (g, 0)) :
    AW E nM Tryz.prog (.region 11 R true) (fun e s => e = .normal ∧ ∃ S', S'.length = 4 ∧ GdS S' ∧ s = ⟨(sR l i k ts).fr, (Jd, some (.row 3 (List.map QE S') true)) :: (sR l i k ts).H⟩) ⟨(sR l i k ts).fr, (Jd, some (.row 3 (List.map QE S) true)) :: (sR l i k ts).H⟩ := by
  cases hR
  obtain ⟨j0, j1⟩ := b3 (QT .i64 y 3)
  have hjl : (Zg .i64 (QT .i64 y 3) 3).toNat < S.length := by omega
  obtain ⟨s0, hs0⟩ : ∃ s0, S[(Zg .i64 (QT .i64 y 3) 3).toNat]? = some s0 := ⟨_, List.getElem?_eq_getElem hjl⟩
  refine A9 (Q := fun e s => e = .normal ∧ QC s ⟨(sR l i k ts).fr, (Jd, some (.row 3 (List.map QE (S.set (Zg .i64 (QT .i64 y 3) 3).toNat (Qx.mk true i [(⟨#[97]⟩ : ByteArray)]))) true)) :: (sR l i k ts).H⟩) (dl mixed (fun L hL => ?_)) ?_
  · refine dN 2 rfl ?_
    refine u0 (QV hx rfl rfl rfl) ?_
    refine dN 1 rfl ?_
    refine u0 (Z5 (i := k.toNat) rfl rfl (gm hx.2)) ?_
    refine dN 2 rfl ?_
    refine u0 (QB hy) ?_
    refine dN 4 rfl ?_
    refine ul (QF (rows := List.map eS [(⟨#[97]⟩ : ByteArray)])) ?_
    refine dN 1 rfl ?_
    refine u0 (Gw (b := Jd) hp (.inr (Nat.le_refl _)) hv ⟨j0, j1⟩ rfl rfl rfl rfl rfl rfl rfl rfl rfl) ?_
    refine AJ rfl (ZB (b := (69, 0)) rfl rfl (K0 (x1 := Qx.mk true i [(⟨#[97]⟩ : ByteArray)]) hs0 rfl rfl rfl rfl (.cons (.k _) (.cons (.k _) (.cons (.fr rfl (QH rfl)) .nil))))) ?_
    exact rd (hL _ ⟨rfl, QC.fit⟩)
  · rintro e s ⟨rfl, hs⟩
    refine ⟨_, hs, rfl, S.set (Zg .i64 (QT .i64 y 3) 3).toNat (Qx.mk true i [(⟨#[97]⟩ : ByteArray)]), by simp [hS], ?_, rfl⟩
    intro s hs
    rcases List.mem_or_eq_of_mem_set hs with h | h
    · exact hG s h
    · rw [h]; simp
theorem R0 {R : Array Oper} (hR : PY 12 = some R) (hx : ix ts k x) (hy : ix l i y) {g cp : Nat} {S : List QG} (hv : x.fa0 = .slice (some ⟨g, 0, none⟩) 4 cp) (hS : S.length = 4) (hp : E.pin Jd = some (g, 0)) :
    AW E nM Tryz.prog (.region 12 R true) (fun e s => e = .normal ∧ ∃ S', S'.length = 4 ∧ s = ⟨(sR l i k ts).fr, (Jd, some (.row 4 (List.map QW S') true)) :: (sR l i k ts).H⟩) ⟨(sR l i k ts).fr, (Jd, some (.row 4 (List.map QW S) true)) :: (sR l i k ts).H⟩ := by
  cases hR
  obtain ⟨j0, j1⟩ := b3 (QT .i64 y 5)
  have hjl : (Zg .i64 (QT .i64 y 5) 3).toNat < S.length := by omega
  obtain ⟨s0, hs0⟩ : ∃ s0, S[(Zg .i64 (QT .i64 y 5) 3).toNat]? = some s0 := ⟨_, List.getElem?_eq_getElem hjl⟩
  refine A9 (Q := fun e s => e = .normal ∧ QC s ⟨(sR l i k ts).fr, (Jd, some (.row 4 (List.map QW (S.set (Zg .i64 (QT .i64 y 5) 3).toNat (QG.mk true i (⟨#[98]⟩ : ByteArray) 2))) true)) :: (sR l i k ts).H⟩) (dl mixed (fun L hL => ?_)) ?_
  · refine dN 2 rfl ?_
    refine u0 (QV hx rfl rfl rfl) ?_
    refine dN 1 rfl ?_
    refine u0 (Z5 (i := k.toNat) rfl rfl (gm hx.2)) ?_
    refine dN 2 rfl ?_
    refine u0 (QB hy) ?_
    refine dN 5 rfl ?_
    refine u0 (Gw (b := Jd) hp (.inr (Nat.le_refl _)) hv ⟨j0, j1⟩ rfl rfl rfl rfl rfl rfl rfl rfl rfl) ?_
    refine un (Zf (x1 := QG.mk true i (⟨#[98]⟩ : ByteArray) 2) hs0) ?_
    exact rd (hL _ ⟨rfl, QC.fit⟩)
  · rintro e s ⟨rfl, hs⟩
    exact ⟨_, hs, rfl, S.set (Zg .i64 (QT .i64 y 5) 3).toNat (QG.mk true i (⟨#[98]⟩ : ByteArray) 2), by simp [hS], rfl⟩
end
theorem WN (l : List Int) (i : Int) (hl : l.length ≤ 4611686018427387904) (h0 : 0 ≤ i) (h1 : i ≤ 1000) : ∃ v, VQ l i v ∧ 0 ≤ v ∧ v ≤ 66600 := by
  unfold VQ Dt
  simp only [LO]
  by_cases hz : l.length = 0
  · refine ⟨i % 65536, ⟨fun _ => rfl, fun h => ?_⟩, by omega, by omega⟩
    simp [hz] at h
  · have hp : (0 : Int) < l.length := by omega
    have e : i.tmod (l.length : Int) = i % l.length := VN h0
    have e1 : 0 ≤ i % (l.length : Int) := Int.emod_nonneg _ (by omega)
    have e2 : i % (l.length : Int) < l.length := Int.emod_lt_of_pos _ hp
    obtain ⟨v, hv, _⟩ := V1 (l := l) (n := i % l.length) e1 e2
    have t1 : i.tdiv (l.length : Int) = i / l.length := Int.tdiv_eq_ediv_of_nonneg h0
    have t2 : 0 ≤ i / (l.length : Int) := Int.ediv_nonneg h0 (by omega)
    have t3 : i / (l.length : Int) ≤ i := Int.ediv_le_self _ h0
    have w1 : IntKind.i64.wrap (i / (l.length : Int)) = i / l.length := Zs (by omega)
    have w2 : IntKind.i64.wrap (v % 65536 + i / (l.length : Int)) = v % 65536 + i / l.length := Zs (by omega)
    refine ⟨v % 65536 + i / l.length, ⟨fun h => ?_, fun _ => ⟨by omega, v, by rw [e]; exact hv, by omega, by rw [t1, w1, w2]⟩⟩, by omega, by omega⟩
    simp at h; exact absurd h (by intro e; rw [e] at hz; exact hz rfl)
theorem Ui (a : Int) : ∃ s, Zu a s ∧ D6 s = true := by
  unfold Zu AK
  rw [Lb, VN (by omega)]
  have h3 : a % 16777216 % 3 = 0 ∨ a % 16777216 % 3 = 1 ∨ a % 16777216 % 3 = 2 := by omega
  rcases h3 with h | h | h <;> rw [h]
  · exact ⟨⟨#[97]⟩, ⟨_, ⟨by decide, rfl⟩, rfl⟩, by decide⟩
  · exact ⟨⟨#[98]⟩, ⟨_, ⟨by decide, rfl⟩, rfl⟩, by decide⟩
  · exact ⟨⟨#[99]⟩, ⟨_, ⟨by decide, rfl⟩, rfl⟩, by decide⟩
def G8 (p : Q6) : Prop :=
  (p.fo = 1 ∧ p.fg = 0 ∧ p.fq = 0 ∧ p.fu = 0) ∨ (p.fo = 2 ∧ 1 ≤ p.fg ∧ p.fg ≤ 4 ∧ 1 ≤ p.fq ∧ p.fq ≤ 2 ∧ 0 ≤ p.fu ∧ p.fu ≤ 3)
  ∨ (p.fo = 3 ∧ 2 ≤ p.fg ∧ p.fg ≤ 3 ∧ p.fq = 0 ∧ 0 ≤ p.fu ∧ p.fu ≤ 3) ∨ ((p.fo = 4 ∨ p.fo = 5) ∧ 1 ≤ p.fg ∧ p.fg ≤ 4 ∧ p.fq = 0 ∧ p.fu = 0)
  ∨ (p.fo = 6 ∧ (p.fg = 2 ∨ p.fg = 4) ∧ p.fq = 0 ∧ p.fu = 0)
theorem Mn {p : Q6} (h : G8 p) : U4 p.fo p.fg p.fq p.fu = 0 := by
  unfold G8 at h; unfold U4
  grind
theorem BP (a : Int) : ∃ p, VR a p ∧ G8 p := by
  unfold VR Ul
  simp only [bA1, bA3]
  generalize QT .i64 a 3 = s3; generalize QT .i64 a 4 = s4; generalize QT .i64 a 8 = s8
  have w1 : IntKind.i64.wrap (1 + s4 % 4) = 1 + s4 % 4 := Zs (by omega)
  have w2 : IntKind.i64.wrap (1 + s3 % 2) = 1 + s3 % 2 := Zs (by omega)
  have w3 : IntKind.u64.wrap (s8 % 4) = s8 % 4 := BN (by omega)
  have w4 : IntKind.i64.wrap (2 + s3 % 2) = 2 + s3 % 2 := Zs (by omega)
  have w5 : IntKind.i64.wrap (1 + s3 % 4) = 1 + s3 % 4 := Zs (by omega)
  have w6 : IntKind.i64.wrap (2 * (s3 % 2)) = 2 * (s3 % 2) := Zs (by omega)
  have w7 : IntKind.i64.wrap (2 + 2 * (s3 % 2)) = 2 + 2 * (s3 % 2) := Zs (by omega)
  simp only [w1, w2, w3, w4, w5, w6, w7]
  generalize a.tmod 6 = k
  by_cases k0 : k = 0
  · refine ⟨⟨1, 0, 0, 0⟩, ?_, by simp [G8]⟩; simp [k0]
  by_cases k1 : k = 1
  · refine ⟨⟨2, 1 + s4 % 4, 1 + s3 % 2, s8 % 4⟩, ?_, by simp [G8]; omega⟩; simp [k1]
  by_cases k2 : k = 2
  · refine ⟨⟨3, 2 + s3 % 2, 0, s8 % 4⟩, ?_, by simp [G8]; omega⟩; simp [k2]
  by_cases k3 : k = 3
  · refine ⟨⟨4, 1 + s3 % 4, 0, 0⟩, ?_, by simp [G8]; omega⟩; simp [k3]
  by_cases k4 : k = 4
  · refine ⟨⟨5, 1 + s3 % 4, 0, 0⟩, ?_, by simp [G8]; omega⟩; simp [k4]
  refine ⟨⟨6, 2 + 2 * (s3 % 2), 0, 0⟩, ?_, by simp [G8]; omega⟩
  simp [k0, k1, k2, k3, k4]
theorem Fx (a : Int) : ∃ s, Yf a s ∧ 1 ≤ s.size ∧ s.size ≤ 32 := by
  unfold Yf C2
  simp only [bA15, bA255, List.length_cons, List.length_nil]
  generalize hs : QT .i64 a 8 % 16 = k
  by_cases hk : k = 15
  · refine ⟨_, ⟨fun _ => rfl, fun h => by simp [hk] at h⟩, ?_⟩
    rw [Ft]; simp
  · have e : (a % 256).tmod ((0 + 1 + 1 + 1 + 1 + 1 + 1 + 1 + 1 + 1 + 1 + 1 + 1 : Nat) : Int) = a % 256 % 12 := VN (by omega)
    rw [e]
    have hall : ∀ x ∈ ([⟨#[97]⟩, ⟨#[98]⟩, ⟨#[99]⟩, ⟨#[100]⟩, ⟨#[101]⟩, ⟨#[102]⟩, ⟨#[97, 97]⟩, ⟨#[98, 32, 99]⟩, ⟨#[37, 54, 49]⟩, ⟨#[65, 58, 49]⟩, ⟨#[0]⟩, ⟨#[122, 47, 255]⟩] : List ByteArray), 1 ≤ x.size ∧ x.size ≤ 32 := by decide
    obtain ⟨x, hx, hg⟩ := V1 (l := ([⟨#[97]⟩, ⟨#[98]⟩, ⟨#[99]⟩, ⟨#[100]⟩, ⟨#[101]⟩, ⟨#[102]⟩, ⟨#[97, 97]⟩, ⟨#[98, 32, 99]⟩, ⟨#[37, 54, 49]⟩, ⟨#[65, 58, 49]⟩, ⟨#[0]⟩, ⟨#[122, 47, 255]⟩] : List ByteArray)) (n := a % 256 % 12) (by omega) (by simp; omega)
    exact ⟨x, ⟨fun h => by simp at h; exact absurd h hk, fun _ => ⟨by decide, x, hx, rfl⟩⟩, hall x (List.mem_of_getElem? hg)⟩
theorem Ha (a : Int) : ∃ q, XC a q ∧ Ay q.fo q.fa1 q.f0 q.fc0 q.fb9 = 0 := by
  unfold XC US
  have z : (ByteArray.empty).toList = [] := Yi
  obtain ⟨s, hs, hs1, hs2⟩ := Fx (QT .i64 a 3)
  simp only [bA3, bA7]
  generalize QT .i64 a 3 = s3 at *; generalize QT .i64 a 5 = s5
  have w : IntKind.i64.wrap (3 + s5 % 4) = 3 + s5 % 4 := Zs (by omega)
  rw [w]
  generalize a.tmod 7 = k
  by_cases k0 : k = 0
  · refine ⟨⟨1, .empty, 0, 0, 0⟩, ?_, by simp [Ay, z]⟩; simp [k0]
  by_cases k1 : k = 1
  · refine ⟨⟨2, s, 0, 0, 0⟩, ?_, by simp [Ay, hs1, hs2]⟩; simp [k1, hs]
  by_cases k2 : k = 2
  · refine ⟨⟨3, .empty, 0, 0, 0⟩, ?_, by simp [Ay, z]⟩; simp [k2]
  by_cases k3 : k = 3
  · refine ⟨⟨4, .empty, 0, 0, 0⟩, ?_, by simp [Ay, z]⟩; simp [k3]
  by_cases k4 : k = 4
  · refine ⟨⟨5, .empty, s3 % 8, 0, 0⟩, ?_, by simp [Ay, z]; omega⟩; simp [k4]
  by_cases k5 : k = 5
  · refine ⟨⟨6, s, 0, 0, 0⟩, ?_, by simp [Ay, hs1, hs2]⟩; simp [k5, hs]
  refine ⟨⟨7, .empty, 0, s3 % 4, 3 + s5 % 4⟩, ?_, by simp [Ay, z]; omega⟩
  simp [k0, k1, k2, k3, k4, k5]
theorem Ij (a : Int) : ∃ x, Wn a x ∧ Fq x = 0 := by
  unfold Wn AM
  obtain ⟨s, hs, hs1, hs2⟩ := Fx a
  simp only [bA3, bA7, bA15, LO, jn]
  generalize QT .i64 a 12 = s12; generalize QT .i64 a 4 = s4
  have w1 : IntKind.i64.wrap (a % 65536 * 65537) = a % 65536 * 65537 := Zs (by omega)
  have w2 : (a % 65536 * 65537).tmod 4294967295 = a % 65536 * 65537 % 4294967295 := VN (by omega)
  have w3 : IntKind.i64.wrap (1 + a % 65536 * 65537 % 4294967295) = 1 + a % 65536 * 65537 % 4294967295 := Zs (by omega)
  have w4 : IntKind.i64.wrap (4294967295 - a % 4) = 4294967295 - a % 4 := Zs (by omega)
  have w5 : IntKind.i64.wrap (1 + s4 % 8) = 1 + s4 % 8 := Zs (by omega)
  simp only [w1, w2, w3, w4, w5]
  have it : ∀ w : Int, 1 ≤ w → w ≤ 4294967295 → Fq ⟨s, w⟩ = 0 := by intro w h1 h2; simp [Fq, hs1, hs2, h1, h2]
  generalize s12 % 16 = k
  by_cases k1 : k = 14
  · refine ⟨⟨s, 1 + a % 65536 * 65537 % 4294967295⟩, ?_, it _ (by omega) (by omega)⟩; simp [k1, hs]
  by_cases k2 : k = 15
  · refine ⟨⟨s, 4294967295 - a % 4⟩, ?_, it _ (by omega) (by omega)⟩; simp [k2, hs]
  refine ⟨⟨s, 1 + s4 % 8⟩, ?_, it _ (by omega) (by omega)⟩
  simp [k1, k2, hs]
theorem Dd (l : List Int) (n : Int) (hl : l.length ≤ 4611686018427387904) (h0 : 0 ≤ n) (h1 : n ≤ 1000) : ∃ r, Vy l n r ∧ (r.length : Int) = n ∧ ∀ x ∈ r, Fq x = 0 := by
  refine GV (Post := fun r => (r.length : Int) = n ∧ ∀ x ∈ r, Fq x = 0) ?_
  unfold XD
  simp only [jn]
  refine Kl (I := fun k s => (s.1.length : Int) = s.2 ∧ 0 ≤ s.2 ∧ s.2 ≤ n ∧ k = (n - s.2).toNat ∧ ∀ x ∈ s.1, Fq x = 0) ?_ (k := n.toNat) ⟨rfl, by omega, by omega, by simp, by simp⟩
  rintro k ⟨r, i⟩ ⟨hr, hi0, hi1, hk, hx⟩ X hX
  simp only at hr hi0 hi1 hk hx ⊢
  refine ⟨fun h => ?_, fun h => ?_⟩
  · have hlt : i < n := by simpa using h
    obtain ⟨v, hv, _, _⟩ := WN l i hl hi0 (by omega)
    obtain ⟨x, hx1, hx2⟩ := Ij v
    refine ⟨v, hv, x, hx1, by simp; omega, ?_⟩
    rw [Zs (by omega)]
    refine hX (n - (i + 1)).toNat _ (by omega) ⟨by simp; omega, by simp only; omega, by simp only; omega, rfl, ?_⟩
    intro y hy
    rcases List.mem_append.1 hy with h | h
    · exact hx y h
    · simp at h; rw [h]; exact hx2
  · have hge : ¬ i < n := by simpa using h
    exact ⟨by omega, hx⟩
theorem De (a : Int) : ∃ r, JQ a r ∧ r.length ≤ 4 := by
  unfold JQ UT
  rw [bA3, Zs (by omega)]
  exact ⟨_, ⟨⟨by omega, by simp; omega⟩, rfl⟩, by simp; omega⟩
theorem B7 {α : Type} {l : List α} (hl : l.length ≤ 4611686018427387904) {B : (Int → Prop) → Int → Prop} {J : Prop} (P : α → Prop)
    (hB : ∀ (j : Nat) x, j < l.length → l[j]? = some x → ∀ X : Int → Prop, (P x → X (IntKind.i64.wrap ((j : Int) + 1))) → B X (j : Int)) (hJ : (∀ x ∈ l, P x) → J) :
    lp (fun X s => (decide (s < (l.length : Int)) = true → B X s) ∧ (decide (s < (l.length : Int)) = false → J)) 0 := by
  refine Fl l.length hl (fun j => ∀ i, i < j → ∀ y, l[i]? = some y → P y) (fun i hi => absurd hi (by omega)) ?_ ?_
  · intro j hj hI X hX
    obtain ⟨x, hx⟩ : ∃ x, l[j]? = some x := ⟨l[j], by simp [hj]⟩
    refine hB j x hj hx X fun h0 => hX fun i hi y hy => ?_
    by_cases e : i = j
    · subst e; rw [hx] at hy; cases hy; exact h0
    · exact hI i (by omega) y hy
  · intro hI
    refine hJ fun x hx => ?_
    obtain ⟨j, hj⟩ := List.getElem?_of_mem hx
    have := hj
    rw [List.getElem?_eq_some_iff] at this
    exact hI j this.1 x hj
theorem Xx (t : Qo) : ∃ v, ZP t v ∧ (v = 0 → (0 ≤ t.fm ∧ t.fm ≤ 4294967295) ∧ 0 ≤ t.f8 ∧ t.f8 ≤ 4294967295) := by
  refine AO (Post := fun v => v = 0 → (0 ≤ t.fm ∧ t.fm ≤ 4294967295) ∧ 0 ≤ t.f8 ∧ t.f8 ≤ 4294967295) ?_
  unfold Km
  simp only [ZE, exists_eq_left, JK, Jp]
  refine ⟨_, fun _ => rfl, fun _ h => by simp at h, fun h _ => ?_⟩
  simp [wI] at h
  exact ⟨h.1.1, h.1.2⟩
def okCm (c : Qb) : Prop := (1 ≤ c.fq ∧ c.fq ≤ 8) ∧ (1 ≤ c.fg ∧ c.fg ≤ 64) ∧ (c.fa8.length : Int) = c.fq * c.fg ∧ ∀ x ∈ c.fa8, 0 ≤ x ∧ x ≤ 4294967295
theorem Hb {d s : Int} (h1 : 1 ≤ d ∧ d ≤ 8) (h2 : 1 ≤ s ∧ s ≤ 64) : 1 ≤ d * s ∧ d * s ≤ 512 := by
  have h : d = 1 ∨ d = 2 ∨ d = 3 ∨ d = 4 ∨ d = 5 ∨ d = 6 ∨ d = 7 ∨ d = 8 := by omega
  rcases h with rfl | rfl | rfl | rfl | rfl | rfl | rfl | rfl <;> omega
theorem Vp (c : Qb) : ∃ v, Zx c v ∧ (v = 0 → okCm c) := by
  refine UB (Post := fun v => v = 0 → okCm c) ?_
  unfold ZJ
  simp only [ZE, exists_eq_left, JK, Jp, jn]
  refine ⟨_, fun _ => rfl, fun _ h => by simp at h, fun h => ?_⟩
  have h' : (1 ≤ c.fq ∧ c.fq ≤ 8) ∧ 1 ≤ c.fg ∧ c.fg ≤ 64 := by simpa [wI] using h
  have hm := Hb h'.1 h'.2
  rw [Zs (by omega)]
  refine ⟨fun _ h => by simp at h, fun hl => ?_⟩
  have hl' : (c.fa8.length : Int) = c.fq * c.fg := by simpa using hl
  refine B7 (by omega) (fun x => 0 ≤ x ∧ x ≤ 4294967295) ?_ ?_
  · intro j x hj hx X hX
    refine ⟨x, V2 rfl hx, fun _ h => by simp at h, fun h => hX (by simpa [wI] using h)⟩
  · intro hP _; exact ⟨h'.1, h'.2, hl', hP⟩
def okLl (c : Qj) : Prop := (2 ≤ c.f7 ∧ c.f7 ≤ 8) ∧ (c.f3.length : Int) = Wi .i64 1 (IntKind.u64.wrap c.f7) ∧ c.f3.length ≤ 256 ∧ ∀ x ∈ c.f3, 0 ≤ x ∧ x ≤ 63
theorem ND {p : Int} (h : 2 ≤ p ∧ p ≤ 8) : 4 ≤ Wi .i64 1 (IntKind.u64.wrap p) ∧ Wi .i64 1 (IntKind.u64.wrap p) ≤ 256 := by
  have h : p = 2 ∨ p = 3 ∨ p = 4 ∨ p = 5 ∨ p = 6 ∨ p = 7 ∨ p = 8 := by omega
  rcases h with rfl | rfl | rfl | rfl | rfl | rfl | rfl <;> decide
theorem Xd (c : Qj) : ∃ v, ZH c v ∧ (v = 0 → okLl c) := by
  refine Al (Post := fun v => v = 0 → okLl c) ?_
  unfold K9
  simp only [ZE, exists_eq_left, JK, Jp, jn]
  refine ⟨fun _ h => by simp at h, fun h => ?_⟩
  have h' : 2 ≤ c.f7 ∧ c.f7 ≤ 8 := by simpa [wI] using h
  have hm := ND h'
  refine ⟨by rw [BN (by omega)]; omega, fun _ h => by simp at h, fun hl => ?_⟩
  have hl' : (c.f3.length : Int) = Wi .i64 1 (IntKind.u64.wrap c.f7) := by simpa using hl
  refine B7 (by omega) (fun x => 0 ≤ x ∧ x ≤ 63) ?_ ?_
  · intro j x hj hx X hX
    refine ⟨x, V2 rfl hx, fun _ h => by simp at h, fun h => hX ?_⟩
    rw [Zs (by omega)] at h
    simp [wI] at h; omega
  · intro hP _; exact ⟨h', hl', by omega, hP⟩
theorem B8 (l : List Q1) (k : ByteArray) (hl : l.length ≤ 1000000) : ∃ v, Xk l k v ∧ -1 ≤ v ∧ v < l.length := by
  refine I0 (Post := fun v => -1 ≤ v ∧ v < (l.length : Int)) ?_
  unfold Yo
  simp only [jn]
  refine B7 (by omega) (fun _ => True) ?_ (fun _ => by omega)
  intro j x hj hx X hX
  exact ⟨x, V2 rfl hx, fun _ => by omega, fun _ => hX trivial⟩
def okE (e : Q1) : Prop := (1 ≤ e.fa1.size ∧ e.fa1.size ≤ 32) ∧ (1 ≤ e.f0 ∧ e.f0 ≤ 1099511627776) ∧ 0 ≤ e.fc2 ∧ e.fc2 < e.f0
def Pd (c : Qt) : Prop := (1 ≤ c.fg ∧ c.fg ≤ 32) ∧ (0 ≤ c.fm ∧ c.fm ≤ 1099511627776) ∧ (c.fh.length : Int) ≤ c.fg ∧ ∀ e ∈ c.fh, okE e
theorem Yj (c : Qt) : ∃ v, Ki c v ∧ (v = 0 → Pd c) := by
  refine C5 (Post := fun v => v = 0 → Pd c) ?_
  unfold KP
  simp only [ZE, VE, exists_eq_left, JK, Jp, jn]
  refine ⟨_, fun _ => rfl, fun _ h => by simp at h, fun h => ?_⟩
  have h' : (1 ≤ c.fg ∧ c.fg ≤ 32) ∧ 0 ≤ c.fm ∧ c.fm ≤ 1099511627776 := by simpa [wI] using h
  refine ⟨fun _ h => by simp at h, fun hl => ?_⟩
  have hl' : (c.fh.length : Int) ≤ c.fg := by simpa using hl
  refine B7 (by omega) okE ?_ (fun hP _ => ⟨h'.1, h'.2, hl', hP⟩)
  intro j x hj hx X hX
  refine ⟨x, V2 rfl hx, fun _ h => by simp at h, fun hk => ?_⟩
  have hk' : 1 ≤ x.fa1.size ∧ x.fa1.size ≤ 32 := by simpa using hk
  refine ⟨_, fun _ => rfl, fun _ h => by simp at h, fun hc => ?_⟩
  have hc1 : 1 ≤ x.f0 ∧ x.f0 ≤ 1099511627776 := by simp [wI] at hc; exact hc.1
  rw [Zs (by omega)] at hc
  have hc2 : 0 ≤ x.fc2 ∧ x.fc2 ≤ x.f0 - 1 := by simp [wI] at hc; exact ⟨hc.2.1, by omega⟩
  obtain ⟨v, hv, _⟩ := B8 (List.take (Int.toNat (j : Int)) c.fh) x.fa1 (by simp; omega)
  refine ⟨⟨by omega, by omega⟩, v, hv, fun _ h => by simp at h, fun _ => ?_⟩
  by_cases h0 : j = 0
  · subst h0
    refine ⟨x, fun h => by simp at h, true, fun h => by simp at h, fun _ h => by simp at h, fun _ => hX ⟨hk', hc1, hc2.1, by omega⟩⟩
  · obtain ⟨y, hy⟩ : ∃ y, c.fh[j - 1]? = some y := ⟨c.fh[j - 1]'(by omega), by simp⟩
    refine ⟨y, fun _ => V2 (j := j - 1) (by rw [Zs (by omega)]; omega) hy, _, fun _ => rfl, fun _ h => by simp at h, fun _ => hX ⟨hk', hc1, hc2.1, by omega⟩⟩
def okFr (c : Qe) : Prop := (1 ≤ c.fg ∧ c.fg ≤ 32) ∧ (0 ≤ c.fm ∧ c.fm ≤ 1099511627776) ∧ (0 ≤ c.fb3 ∧ c.fb3 ≤ 1099511627776) ∧ (c.fh.length : Int) ≤ c.fg ∧ ∀ e ∈ c.fh, okE e
theorem Vq (c : Qe) : ∃ v, Zy c v ∧ (v = 0 → okFr c) := by
  refine UC (Post := fun v => v = 0 → okFr c) ?_
  unfold ZK
  simp only [ZE, VE, exists_eq_left, JK, Jp, jn]
  refine ⟨_, fun _ => rfl, _, fun _ => rfl, fun _ h => by simp at h, fun h => ?_⟩
  have h' : ((1 ≤ c.fg ∧ c.fg ≤ 32) ∧ 0 ≤ c.fm ∧ c.fm ≤ 1099511627776) ∧ 0 ≤ c.fb3 ∧ c.fb3 ≤ 1099511627776 := by simpa [wI] using h
  refine ⟨fun _ h => by simp at h, fun hl => ?_⟩
  have hl' : (c.fh.length : Int) ≤ c.fg := by simpa using hl
  refine B7 (by omega) okE ?_ (fun hP _ => ⟨h'.1.1, h'.1.2, h'.2, hl', hP⟩)
  intro j x hj hx X hX
  refine ⟨x, V2 rfl hx, fun _ h => by simp at h, fun hk => ?_⟩
  have hk' : 1 ≤ x.fa1.size ∧ x.fa1.size ≤ 32 := by simpa using hk
  refine ⟨fun _ h => by simp at h, fun hc => ?_⟩
  have hc1 : (1 ≤ x.f0 ∧ x.f0 ≤ 1099511627776) ∧ x.fc2 = 0 := by simpa [wI] using hc
  by_cases h0 : j = 0
  · subst h0
    refine ⟨x, fun h => by simp at h, fun _ h => by simp at h, fun _ => hX ⟨hk', hc1.1, by omega, by omega⟩⟩
  · obtain ⟨y, hy⟩ : ∃ y, c.fh[j - 1]? = some y := ⟨c.fh[j - 1]'(by omega), by simp⟩
    refine ⟨y, fun _ => V2 (j := j - 1) (by rw [Zs (by omega)]; omega) hy, fun _ h => by simp at h, fun _ => hX ⟨hk', hc1.1, by omega, by omega⟩⟩
def R1 (c : Qk) : Prop := (2 ≤ c.fg ∧ c.fg ≤ 32 ∧ c.fg % 2 = 0) ∧ (0 ≤ c.fm ∧ c.fm ≤ 1099511627776) ∧ (0 ≤ c.fa9 ∧ c.fa9 ≤ 1099511627776) ∧ c.fw.length ≤ 41 ∧ ∀ l ∈ c.fw, (l.length : Int) < c.fg ∧ ∀ s ∈ l, 1 ≤ s.size ∧ s.size ≤ 32
theorem Xy (c : Qk) : ∃ v, ZQ c v ∧ (v = 0 → R1 c) := by
  refine AQ (Post := fun v => v = 0 → R1 c) ?_
  unfold Kn
  simp only [ZE, VE, exists_eq_left, JK, Jp, jn]
  refine ⟨_, fun _ => rfl, _, fun _ => rfl, fun _ h => by simp at h, fun h => ?_⟩
  have h' : (((2 ≤ c.fg ∧ c.fg ≤ 32) ∧ ¬ c.fg.tmod 2 = 1) ∧ 0 ≤ c.fm ∧ c.fm ≤ 1099511627776) ∧ 0 ≤ c.fa9 ∧ c.fa9 ≤ 1099511627776 := by simpa [wI] using h
  have he : c.fg % 2 = 0 := by have := h'.1.1.2; rw [VN (by omega)] at this; omega
  refine ⟨fun _ h => by simp at h, fun hl => ?_⟩
  have hl' : c.fw.length ≤ 41 := by simp at hl; omega
  clear h hl
  refine Kl (I := fun k s => ∃ j : Nat, s.2 = (j : Int) ∧ j ≤ c.fw.length ∧ k = c.fw.length - j ∧ ∀ i, i < j → ∀ y, c.fw[i]? = some y → (y.length : Int) < c.fg ∧ ∀ s ∈ y, 1 ≤ s.size ∧ s.size ≤ 32) ?_ (k := c.fw.length) ⟨0, rfl, by omega, by omega, fun i hi => absurd hi (by omega)⟩
  rintro k ⟨tot, i⟩ ⟨j, hj, hj1, hk, hI⟩ X hX
  simp only at hj ⊢
  subst hj
  refine ⟨fun h => ?_, fun h => ?_⟩
  · have hlt : j < c.fw.length := by simp at h; omega
    obtain ⟨L, hL⟩ : ∃ x, c.fw[j]? = some x := ⟨c.fw[j], by simp [hlt]⟩
    have hx : ix c.fw (j : Int) L := V2 rfl hL
    refine ⟨L, hx, fun _ h => by simp at h, fun h2 => ?_⟩
    have h2' : (L.length : Int) < c.fg := by simpa using h2
    refine Kl (I := fun k s => ∃ m : Nat, s = (m : Int) ∧ m ≤ L.length ∧ k = L.length - m ∧ ∀ i, i < m → ∀ y, L[i]? = some y → 1 ≤ y.size ∧ y.size ≤ 32) ?_ (k := L.length) ⟨0, rfl, by omega, by omega, fun i hi => absurd hi (by omega)⟩
    rintro k2 s ⟨m, rfl, hm1, hk2, hI2⟩ X2 hX2
    refine ⟨L, hx, fun h3 => ?_, fun h3 => ?_⟩
    · have hm : m < L.length := by simp at h3; omega
      obtain ⟨y, hy⟩ : ∃ x, L[m]? = some x := ⟨L[m], by simp [hm]⟩
      refine ⟨L, hx, y, V2 rfl hy, fun _ h => by simp at h, fun h4 => ?_⟩
      have h4' : 1 ≤ y.size ∧ y.size ≤ 32 := by simpa using h4
      refine ⟨L, fun _ => hx, y, fun _ => V2 rfl hy, L, fun _ => hx, ?_⟩
      have go : X2 (IntKind.i64.wrap ((m : Int) + 1)) := by
        rw [Zs (by omega)]
        refine hX2 (L.length - (m + 1)) _ (by omega) ⟨m + 1, by omega, by omega, rfl, fun i hi z hz => ?_⟩
        by_cases e : i = m
        · subst e; rw [hy] at hz; cases hz; exact h4'
        · exact hI2 i (by omega) z hz
      by_cases h0 : m = 0
      · subst h0
        exact ⟨y, fun h => by simp at h, fun _ h => by simp at h, fun _ => go⟩
      · obtain ⟨z, hz⟩ : ∃ z, L[m - 1]? = some z := ⟨L[m - 1]'(by omega), by simp⟩
        exact ⟨z, fun _ => V2 (j := m - 1) (by rw [Zs (by omega)]; omega) hz, fun _ h => by simp at h, fun _ => go⟩
    · have hm : m = L.length := by simp at h3; omega
      subst hm
      refine ⟨L, hx, by rw [BN (by omega)]; omega, ?_⟩
      rw [Zs (n := (j : Int) + 1) (by omega)]
      refine hX (c.fw.length - (j + 1)) _ (by omega) ⟨j + 1, by simp, by omega, rfl, fun i hi z hz => ?_⟩
      by_cases e : i = j
      · subst e; rw [hL] at hz; cases hz
        refine ⟨h2', fun s hs => ?_⟩
        obtain ⟨i, hi⟩ := List.getElem?_of_mem hs
        have := hi
        rw [List.getElem?_eq_some_iff] at this
        exact hI2 i this.1 s hi
      · exact hI i (by omega) z hz
  · have hge : j = c.fw.length := by simp at h; omega
    have fin : R1 c := by
      refine ⟨⟨h'.1.1.1.1, h'.1.1.1.2, he⟩, h'.1.2, h'.2, hl', fun l hl => ?_⟩
      obtain ⟨i, hi⟩ := List.getElem?_of_mem hl
      have := hi
      rw [List.getElem?_eq_some_iff] at this
      exact hI i (by rw [hge]; exact this.1) l hi
    by_cases h0 : c.fw.length = 0
    · refine ⟨[], fun h => by simp [h0] at h, fun _ h => by simp at h, fun _ => ⟨fun _ h => by simp at h, fun _ _ => fin⟩⟩
    · obtain ⟨z, hz⟩ : ∃ z, c.fw[c.fw.length - 1]? = some z := ⟨c.fw[c.fw.length - 1]'(by omega), by simp⟩
      exact ⟨z, fun _ => V2 (j := c.fw.length - 1) (by rw [Zs (by omega)]; omega) hz, fun _ h => by simp at h, fun _ => ⟨fun _ h => by simp at h, fun _ _ => fin⟩⟩
theorem Ai (a b : List Int) (ha : a.length ≤ 1000000) : ∃ v, KB a b v := by
  obtain ⟨v, hv, _⟩ := Eg (Post := fun _ => True) (a0 := a) (a1 := b) (by
    unfold Jg
    simp only [jn]
    refine ⟨fun _ => trivial, fun h => ?_⟩
    have hl : a.length = b.length := by simp at h; omega
    refine B7 (by omega) (fun _ => True) ?_ (fun _ => trivial)
    intro j x hj hx X hX
    obtain ⟨y, hy⟩ : ∃ y, b[j]? = some y := ⟨b[j]'(by omega), by simp⟩
    exact ⟨x, V2 rfl hx, y, V2 rfl hy, fun _ => trivial, fun _ => hX trivial⟩)
  exact ⟨v, hv⟩
theorem U7 (a b : List Q1) (ha : a.length ≤ 1000000) : ∃ v, ZO a b v := by
  obtain ⟨v, hv, _⟩ := C4 (Post := fun _ => True) (a0 := a) (a1 := b) (by
    unfold Kh
    simp only [jn]
    refine ⟨fun _ => trivial, fun h => ?_⟩
    have hl : a.length = b.length := by simp at h; omega
    refine B7 (by omega) (fun _ => True) ?_ (fun _ => trivial)
    intro j x hj hx X hX
    obtain ⟨y, hy⟩ : ∃ y, b[j]? = some y := ⟨b[j]'(by omega), by simp⟩
    exact ⟨x, V2 rfl hx, y, V2 rfl hy, fun _ => trivial, fun _ => hX trivial⟩)
  exact ⟨v, hv⟩
theorem DV (a b : Qk) (ha : a.fw.length ≤ 1000000) (ha2 : ∀ l ∈ a.fw, l.length ≤ 1000000) : ∃ v, KO a b v := by
  obtain ⟨v, hv, _⟩ := Du (Post := fun _ => True) (a0 := a) (a1 := b) (by
    unfold KN
    simp only [jn, Jp]
    refine ⟨fun _ => trivial, fun h => ?_⟩
    have hl : a.fw.length = b.fw.length := by
      have := (Bool.or_eq_false_iff.1 h).2
      simp at this; omega
    refine B7 (by omega) (fun _ => True) ?_ (fun _ => trivial)
    intro j x hj hx X hX
    obtain ⟨y, hy⟩ : ∃ y, b.fw[j]? = some y := ⟨b.fw[j]'(by omega), by simp⟩
    have hxl : x.length ≤ 1000000 := ha2 x (List.mem_of_getElem? hx)
    refine ⟨x, V2 rfl hx, y, V2 rfl hy, fun _ => trivial, fun h2 => ?_⟩
    have hl2 : x.length = y.length := by simp at h2; omega
    refine Kl (I := fun k s => ∃ m : Nat, s = (m : Int) ∧ m ≤ x.length ∧ k = x.length - m) ?_ (k := x.length) ⟨0, rfl, by omega, by omega⟩
    rintro k s ⟨m, rfl, hm, hk⟩ X2 hX2
    refine ⟨x, V2 rfl hx, fun h3 => ?_, fun _ => hX trivial⟩
    have hm2 : m < x.length := by simp at h3; omega
    obtain ⟨p, hp⟩ : ∃ p, x[m]? = some p := ⟨x[m]'(by omega), by simp⟩
    obtain ⟨q, hq⟩ : ∃ q, y[m]? = some q := ⟨y[m]'(by omega), by simp⟩
    refine ⟨x, V2 rfl hx, p, V2 rfl hp, y, V2 rfl hy, q, V2 rfl hq, fun _ => trivial, fun _ => ?_⟩
    rw [Zs (by omega)]
    exact hX2 (x.length - (m + 1)) _ (by omega) ⟨m + 1, by simp, by omega, rfl⟩)
  exact ⟨v, hv⟩
def Ik (s : Qd) : Prop := s.fc.fa8.length ≤ 1000000 ∧ s.fy.f3.length ≤ 1000000 ∧ s.fa4.fh.length ≤ 1000000 ∧ s.ff.fh.length ≤ 1000000 ∧ s.fp.fw.length ≤ 1000000 ∧ ∀ l ∈ s.fp.fw, l.length ≤ 1000000
theorem Bu (a b : Qb) (ha : a.fa8.length ≤ 1000000) : ∃ v, V3 a b v := by
  obtain ⟨v, hv⟩ := Ai a.fa8 b.fa8 ha
  exact ⟨_, v, fun _ => hv, rfl⟩
theorem Df (a b : Qj) (ha : a.f3.length ≤ 1000000) : ∃ v, Xe a b v := by
  obtain ⟨v, hv⟩ := Ai a.f3 b.f3 ha
  exact ⟨_, v, fun _ => hv, rfl⟩
theorem Fy (a b : Qt) (ha : a.fh.length ≤ 1000000) : ∃ v, YD a b v := by
  obtain ⟨v, hv⟩ := U7 a.fh b.fh ha
  exact ⟨_, v, fun _ => hv, rfl⟩
theorem Bv (a b : Qe) (ha : a.fh.length ≤ 1000000) : ∃ v, V4 a b v := by
  obtain ⟨v, hv⟩ := U7 a.fh b.fh ha
  exact ⟨_, v, fun _ => hv, rfl⟩
theorem Hc (a b : Qd) (h : Ik a) : ∃ v, JR a b v := by
  obtain ⟨h1, h2, h3, h4, h5, h6⟩ := h
  obtain ⟨v1, e1⟩ := Bu a.fc b.fc h1
  obtain ⟨v2, e2⟩ := Df a.fy b.fy h2
  obtain ⟨v3, e3⟩ := Fy a.fa4 b.fa4 h3
  obtain ⟨v4, e4⟩ := Bv a.ff b.ff h4
  obtain ⟨v5, e5⟩ := DV a.fp b.fp h5 h6
  exact ⟨_, v1, fun _ => e1, v2, fun _ => e2, v3, fun _ => e3, v4, fun _ => e4, v5, fun _ => e5, rfl⟩
theorem Hd (s : Qd) : ∃ v, YE s v := by
  unfold YE UX
  simp only [jn]
  generalize s.fb.fo = k
  by_cases k1 : k = 1
  · subst k1; exact ⟨_, fun _ => rfl, fun h => by simp at h⟩
  have e1 : (k == 1) = false := by simp [k1]
  by_cases k2 : k = 2
  · subst k2; exact ⟨_, fun h => by simp at h, fun _ => ⟨fun _ => rfl, fun h => by simp at h⟩⟩
  have e2 : (k == 2) = false := by simp [k2]
  by_cases k3 : k = 3
  · subst k3; exact ⟨_, fun h => by simp at h, fun _ => ⟨fun h => by simp at h, fun _ => ⟨fun _ => rfl, fun h => by simp at h⟩⟩⟩
  have e3 : (k == 3) = false := by simp [k3]
  by_cases k4 : k = 4
  · subst k4; exact ⟨_, fun h => by simp at h, fun _ => ⟨fun h => by simp at h, fun _ => ⟨fun h => by simp at h, fun _ => ⟨fun _ => rfl, fun h => by simp at h⟩⟩⟩⟩
  have e4 : (k == 4) = false := by simp [k4]
  by_cases k5 : k = 5
  · subst k5; exact ⟨_, fun h => by simp at h, fun _ => ⟨fun h => by simp at h, fun _ => ⟨fun h => by simp at h, fun _ => ⟨fun h => by simp at h, fun _ => ⟨fun _ => rfl, fun h => by simp at h⟩⟩⟩⟩⟩
  have e5 : (k == 5) = false := by simp [k5]
  by_cases k6 : k = 6
  · subst k6; exact ⟨_, fun h => by simp at h, fun _ => ⟨fun h => by simp at h, fun _ => ⟨fun h => by simp at h, fun _ => ⟨fun h => by simp at h, fun _ => ⟨fun h => by simp at h, fun _ => ⟨fun _ => rfl, fun h => by simp at h⟩⟩⟩⟩⟩⟩
  have e6 : (k == 6) = false := by simp [k6]
  simp only [e1, e2, e3, e4, e5, e6]
  exact ⟨_, fun h => by simp at h, fun _ => ⟨fun h => by simp at h, fun _ => ⟨fun h => by simp at h, fun _ => ⟨fun h => by simp at h, fun _ => ⟨fun h => by simp at h, fun _ => ⟨fun h => by simp at h, fun _ => rfl⟩⟩⟩⟩⟩⟩
theorem UL (s : Qd) (h : Ik s) : ∃ v, Jt s v ∧ (v = 0 → 1 ≤ s.fb.fo ∧ s.fb.fo ≤ 6) := by
  refine Dw (Post := fun v => v = 0 → 1 ≤ s.fb.fo ∧ s.fb.fo ≤ 6) (a0 := s) (by
    unfold Js
    simp only [jn]
    refine ⟨_, VF s.fb, fun h e => by simp [e] at h, fun hpar => ?_⟩
    have hk : 1 ≤ s.fb.fo ∧ s.fb.fo ≤ 6 := by
      have hp : U4 s.fb.fo s.fb.fg s.fb.fq s.fb.fu = 0 := by simpa using hpar
      unfold U4 at hp; grind
    obtain ⟨v12, e12⟩ := Hd s
    obtain ⟨v13, e13⟩ := Hc s v12 h
    obtain ⟨v1, e1, _⟩ := Xx s.fx
    obtain ⟨v2, e2, _⟩ := Vp s.fc
    obtain ⟨v3, e3, _⟩ := Xd s.fy
    obtain ⟨v4, e4, _⟩ := Yj s.fa4
    obtain ⟨v5, e5, _⟩ := Vq s.ff
    obtain ⟨v6, e6, _⟩ := Xy s.fp
    refine ⟨fun _ => ⟨v1, e1, ?_⟩, fun _ => ⟨fun _ => ⟨v2, e2, ?_⟩, fun _ => ⟨fun _ => ⟨v3, e3, ?_⟩, fun _ => ⟨fun _ => ⟨v4, e4, ?_⟩, fun _ => ⟨fun _ => ⟨v5, e5, ?_⟩, fun _ => ⟨fun _ => ⟨v6, e6, ?_⟩, fun _ => ?_⟩⟩⟩⟩⟩⟩
    all_goals exact ⟨fun _ _ => hk, fun _ => ⟨v12, fun _ => e12, v13, fun _ => e13, fun _ _ => hk, fun _ _ => hk⟩⟩)
theorem Bg (x : Int) : 0 ≤ IntKind.u64.wrap x ∧ IntKind.u64.wrap x ≤ 18446744073709551615 := by rw [IntKind.wrap_u64]; omega
theorem Cp (a : Int) : ∃ v, W0 a v ∧ 0 ≤ v ∧ v ≤ 18446744073709551615 := ⟨_, rfl, Bg _⟩
theorem Lf (a b : Int) : ∃ v, A1 a b v := by
  obtain ⟨v, hv, _⟩ := Cp (F1 .u64 (a) (IntKind.u64.wrap ((IntKind.u64.wrap ((IntKind.u64.wrap (b)) + (1))) * (15074714826142052245))))
  exact ⟨v, v, hv, rfl⟩
theorem Dg (a : Int) : ∃ r, XG a r ∧ r.length = 256 := by
  refine GZ (Post := fun r => r.length = 256) ?_
  unfold XF
  simp only [jn]
  refine Kl (I := fun k s => (s.1.length : Int) = s.2 - 1 ∧ 1 ≤ s.2 ∧ s.2 ≤ 257 ∧ k = (257 - s.2).toNat) ?_ (k := 256) ⟨rfl, by decide, by decide, rfl⟩
  rintro k ⟨r, i⟩ ⟨h1, h2, h3, hk⟩ X hX
  simp only at h1 h2 h3 hk ⊢
  refine ⟨fun h => ?_, fun h => ?_⟩
  · have hi : i ≤ 256 := by simpa using h
    obtain ⟨v, hv, _⟩ := Cp (IntKind.u64.wrap ((a) + (IntKind.u64.wrap ((i) * (11400714819323198485)))))
    refine ⟨v, hv, by simp; omega, ?_⟩
    rw [BN (by omega)]
    exact hX (257 - (i + 1)).toNat _ (by omega) ⟨by simp; omega, by simp only; omega, by simp only; omega, rfl⟩
  · have hi : ¬ i ≤ 256 := by simpa using h
    omega
theorem Ea (l : List Int) (s : ByteArray) (hl : l.length = 256) (hs : s.size ≤ 1000000) : ∃ v, Yv l s v ∧ 0 ≤ v.1 ∧ v.1 ≤ 18446744073709551615 := by
  refine I7 (Post := fun v => 0 ≤ v.1 ∧ v.1 ≤ 18446744073709551615) ?_
  unfold Yu
  simp only [jn]
  refine ⟨fun _ => by decide, fun _ => ?_⟩
  obtain ⟨v, hv, _⟩ := V1 (l := l) (n := (s.size : Int) % 256) (by omega) (by omega)
  refine ⟨v, by rw [VN (by omega)]; exact hv, ?_⟩
  refine Kl (I := fun k s' => ∃ j : Nat, s'.2 = (j : Int) ∧ j ≤ s.size ∧ k = s.size - j) ?_ (k := s.size) ⟨0, rfl, by omega, by omega⟩
  rintro k ⟨h, i⟩ ⟨j, hj, hj1, hk⟩ X hX
  simp only at hj ⊢
  subst hj
  refine ⟨fun h => ?_, fun _ => ?_⟩
  · have hj2 : j < s.size := by simp at h; omega
    have hb := B2 hj2
    have hc : 0 ≤ B0 s j ∧ B0 s j ≤ 255 := by
      unfold B0; rw [dif_pos hj2]; have := (s[j]).toNat_lt; omega
    rw [Zs (n := (j : Int) + 1) (by omega)]
    have w : IntKind.i64.wrap (IntKind.i64.wrap (B0 s j) + (j : Int)) = B0 s j + j := by rw [Zs (n := B0 s j) (by omega), Zs (by omega)]
    obtain ⟨v2, hv2, _⟩ := V1 (l := l) (n := (B0 s j + j) % 256) (by omega) (by omega)
    refine ⟨B0 s j, hb, v2, by rw [w, VN (by omega)]; exact hv2, ?_⟩
    exact hX (s.size - (j + 1)) _ (by omega) ⟨j + 1, by simp, by omega, rfl⟩
  · obtain ⟨m, hm, h0, h1⟩ := Cp h
    exact ⟨m, hm, h0, h1⟩
theorem G9 (a b c : Int) (s : ByteArray) : ∃ v, XY a b c s v ∧ (0 ≤ b ∧ b ≤ 7 → 1 ≤ c ∧ c ≤ 64 → 0 ≤ v.1 ∧ v.1 < c) := by
  refine FN (Post := fun v => 0 ≤ b ∧ b ≤ 7 → 1 ≤ c ∧ c ≤ 64 → 0 ≤ v.1 ∧ v.1 < c) ?_
  unfold VT
  simp only [ZE, VE, exists_eq_left, Jp]
  refine ⟨_, fun _ => rfl, fun _ _ h => (show 0 ≤ (0 : Int) ∧ (0 : Int) < c by omega), fun h => ⟨fun _ _ h => (show 0 ≤ (0 : Int) ∧ (0 : Int) < c by omega), fun h2 => ?_⟩⟩
  have h' : (0 ≤ b ∧ b ≤ 7) ∧ 1 ≤ c ∧ c ≤ 64 := by simpa [wI] using h
  have h2' : 1 ≤ s.size ∧ s.size ≤ 32 := by simpa using h2
  obtain ⟨v6, e6⟩ := Lf a b
  obtain ⟨v7, e7, l7⟩ := Dg v6
  obtain ⟨v8, e8, h80, h81⟩ := Ea v7 s l7 (by omega)
  refine ⟨v6, e6, v7, e7, v8, e8, by rw [BN (by omega)]; omega, fun _ _ => ?_⟩
  show 0 ≤ IntKind.i64.wrap (v8.1.tmod (IntKind.u64.wrap c)) ∧ IntKind.i64.wrap (v8.1.tmod (IntKind.u64.wrap c)) < c
  rw [BN (n := c) (by omega), VN h80]
  have m0 := Int.emod_nonneg v8.1 (b := c) (by omega)
  have m1 := Int.emod_lt_of_pos v8.1 (b := c) (by omega)
  rw [Zs (by omega)]
  exact ⟨m0, m1⟩
theorem Aa (a b c : Int) : ∃ v, Xp a b c v := by
  unfold Xp Cf
  cases h : (bif decide ((CO a 0) > (CO c 0)) then true else decide ((CO b 0) > (IntKind.i64.wrap ((CO c 0) - (CO a 0)))))
  · refine ⟨(IntKind.i64.wrap ((CO a 0) + (CO b 0)), false), _, rfl, _, rfl, _, rfl, ?_⟩; exact ⟨fun h2 => (by rw [h] at h2; cases h2), fun _ => rfl⟩
  · refine ⟨(CO c 0, true), _, rfl, _, rfl, _, rfl, ?_⟩; exact ⟨fun _ => rfl, fun h2 => (by rw [h] at h2; cases h2)⟩
theorem Xz (a b : Int) : ∃ v, Jh a b v := by
  obtain ⟨v, hv⟩ := Aa a b 1099511627776
  exact ⟨_, v, hv, rfl⟩
theorem K6 (x : Qi) : ∃ v, Z6 x v ∧ (v = 0 → (1 ≤ x.fa1.size ∧ x.fa1.size ≤ 32) ∧ 1 ≤ x.fa7 ∧ x.fa7 ≤ 4294967295) :=
  ⟨_, WG x, fun h => by unfold Fq at h; grind⟩
theorem AB (c : Qb) (x : Qi) : ∃ v, KH c x v ∧ v.1.fa8.length ≤ 1000 := by
  refine Aq (Post := fun v => v.1.fa8.length ≤ 1000) ?_
  unfold Kc
  simp only [jn]
  obtain ⟨v2, e2, ok⟩ := Vp c
  obtain ⟨v4, e4, ok4⟩ := K6 x
  refine ⟨v2, e2, fun _ => by simp, fun h2 => ⟨v4, e4, fun _ => by simp, fun h4 => ?_⟩⟩
  obtain ⟨hd, hs, hl, hx⟩ := ok (by simpa using h2)
  have hm := Hb hd hs
  refine ⟨by omega, ?_⟩
  refine Kl (I := fun k s => 0 ≤ s.1 ∧ s.1 ≤ c.fq ∧ k = (c.fq - s.1).toNat ∧ s.2.1.length = c.fa8.length) ?_ (k := c.fq.toNat) ⟨by simp, by simp only; omega, by simp, rfl⟩
  rintro k ⟨i, l, f⟩ ⟨h0, h1, hk, hlen⟩ X hX
  simp only at h0 h1 hk hlen ⊢
  refine ⟨fun h => ?_, fun _ => by omega⟩
  have hi : i < c.fq := by simpa using h
  obtain ⟨v, hv, hr⟩ := G9 c.fu i c.fg x.fa1
  obtain ⟨r0, r1⟩ := hr (by omega) hs
  have p1 : 0 ≤ i * c.fg := Int.mul_nonneg h0 (by omega)
  have p2 : (i + 1) * c.fg ≤ c.fq * c.fg := Int.mul_le_mul_of_nonneg_right (by omega) (by omega)
  rw [Int.add_mul, Int.one_mul] at p2
  have w : IntKind.i64.wrap (IntKind.i64.wrap (i * c.fg) + v.1) = i * c.fg + v.1 := by rw [Zs (n := i * c.fg) (by omega), Zs (by omega)]
  obtain ⟨y, hy, _⟩ := V1 (l := l) (n := i * c.fg + v.1) (by omega) (by omega)
  obtain ⟨z, hz⟩ := Aa y x.fa7 4294967295
  refine ⟨i * c.fg + v.1, ⟨v, hv, w.symm⟩, y, hy, z, hz, y, hy, ?_⟩
  rw [Zs (by omega)]
  exact hX (c.fq - (i + 1)).toNat _ (by omega) ⟨by simp only; omega, by simp only; omega, rfl, by simpa using hlen⟩
theorem shr_p {p v : Int} (hp : 2 ≤ p ∧ p ≤ 8) (h0 : 0 ≤ v) (h1 : v ≤ 18446744073709551615) : 0 ≤ QT .u64 v (IntKind.u64.wrap (IntKind.i64.wrap (64 - p))) ∧ QT .u64 v (IntKind.u64.wrap (IntKind.i64.wrap (64 - p))) < Wi .i64 1 (IntKind.u64.wrap p) := by
  have h : p = 2 ∨ p = 3 ∨ p = 4 ∨ p = 5 ∨ p = 6 ∨ p = 7 ∨ p = 8 := by omega
  have hd : ∀ m : Int, 0 < m → v.fdiv m = v / m := fun m hm => Int.fdiv_eq_ediv_of_nonneg v (by omega)
  rcases h with rfl | rfl | rfl | rfl | rfl | rfl | rfl
  · have e1 : IntKind.u64.wrap (IntKind.i64.wrap (64 - 2)) = 62 := by decide
    have e2 : Wi .i64 1 (IntKind.u64.wrap 2) = 4 := by decide
    rw [e1, e2]; show 0 ≤ v.fdiv 4611686018427387904 ∧ v.fdiv 4611686018427387904 < 4; rw [hd _ (by decide)]; omega
  · have e1 : IntKind.u64.wrap (IntKind.i64.wrap (64 - 3)) = 61 := by decide
    have e2 : Wi .i64 1 (IntKind.u64.wrap 3) = 8 := by decide
    rw [e1, e2]; show 0 ≤ v.fdiv 2305843009213693952 ∧ v.fdiv 2305843009213693952 < 8; rw [hd _ (by decide)]; omega
  · have e1 : IntKind.u64.wrap (IntKind.i64.wrap (64 - 4)) = 60 := by decide
    have e2 : Wi .i64 1 (IntKind.u64.wrap 4) = 16 := by decide
    rw [e1, e2]; show 0 ≤ v.fdiv 1152921504606846976 ∧ v.fdiv 1152921504606846976 < 16; rw [hd _ (by decide)]; omega
  · have e1 : IntKind.u64.wrap (IntKind.i64.wrap (64 - 5)) = 59 := by decide
    have e2 : Wi .i64 1 (IntKind.u64.wrap 5) = 32 := by decide
    rw [e1, e2]; show 0 ≤ v.fdiv 576460752303423488 ∧ v.fdiv 576460752303423488 < 32; rw [hd _ (by decide)]; omega
  · have e1 : IntKind.u64.wrap (IntKind.i64.wrap (64 - 6)) = 58 := by decide
    have e2 : Wi .i64 1 (IntKind.u64.wrap 6) = 64 := by decide
    rw [e1, e2]; show 0 ≤ v.fdiv 288230376151711744 ∧ v.fdiv 288230376151711744 < 64; rw [hd _ (by decide)]; omega
  · have e1 : IntKind.u64.wrap (IntKind.i64.wrap (64 - 7)) = 57 := by decide
    have e2 : Wi .i64 1 (IntKind.u64.wrap 7) = 128 := by decide
    rw [e1, e2]; show 0 ≤ v.fdiv 144115188075855872 ∧ v.fdiv 144115188075855872 < 128; rw [hd _ (by decide)]; omega
  · have e1 : IntKind.u64.wrap (IntKind.i64.wrap (64 - 8)) = 56 := by decide
    have e2 : Wi .i64 1 (IntKind.u64.wrap 8) = 256 := by decide
    rw [e1, e2]; show 0 ≤ v.fdiv 72057594037927936 ∧ v.fdiv 72057594037927936 < 256; rw [hd _ (by decide)]; omega
theorem Eu (p a : Int) (s : ByteArray) (hp : 2 ≤ p ∧ p ≤ 8) : ∃ v, VL p a s v ∧ 0 ≤ v.1 ∧ v.1 < Wi .i64 1 (IntKind.u64.wrap p) := by
  have hs4 := ND hp
  refine Em (Post := fun v => 0 ≤ v.1 ∧ v.1 < Wi .i64 1 (IntKind.u64.wrap p)) ?_
  unfold JP
  simp only [ZE, VE, exists_eq_left, jn]
  refine ⟨fun _ => by omega, fun _ => ⟨fun _ => by omega, fun h2 => ?_⟩⟩
  have h2' : 1 ≤ s.size ∧ s.size ≤ 32 := by simpa using h2
  obtain ⟨v5, e5, l5⟩ := Dg a
  obtain ⟨v6, e6, h60, h61⟩ := Ea v5 s l5 (by omega)
  refine ⟨v5, e5, v6, e6, ?_⟩
  have sh := shr_p hp h60 h61
  refine Kl (I := fun k s => -1 ≤ s.2 ∧ s.2 ≤ 63 ∧ k = (s.2 + 1).toNat) ?_ (k := (64 - p).toNat) ⟨by simp only; rw [Zs (by omega)]; omega, by simp only; rw [Zs (by omega)]; omega, by simp only; rw [Zs (by omega)]; omega⟩
  rintro k ⟨n, i⟩ ⟨h0, h1, hk⟩ X hX
  simp only at h0 h1 hk ⊢
  refine ⟨fun h => by rw [BN (by simp at h; omega)]; simp at h; omega, fun h => ?_, fun h => ?_⟩
  · have hi : 0 ≤ i := by
      cases hd : decide (i ≥ 0) with
      | true => simpa using hd
      | false => rw [hd] at h; cases h
    rw [Zs (n := i - 1) (by omega)]
    exact hX (i - 1 + 1).toNat _ (by omega) ⟨by simp only; omega, by simp only; omega, rfl⟩
  · refine ⟨by rw [BN (by rw [Zs (by omega)]; omega), Zs (by omega)]; omega, ?_⟩
    rw [Zs (n := QT .u64 v6.1 _) (by omega)]
    exact sh
theorem Bw (c : Qj) (x : Qi) : ∃ v, Jk c x v ∧ v.1.f3.length ≤ 1000 := by
  refine Bm (Post := fun v => v.1.f3.length ≤ 1000) ?_
  unfold Kz
  obtain ⟨v2, e2, ok⟩ := Xd c
  obtain ⟨v4, e4, ok4⟩ := K6 x
  refine ⟨v2, e2, fun _ => by simp, fun h2 => ⟨v4, e4, fun _ => by simp, fun h4 => ?_⟩⟩
  obtain ⟨hp, hl, hlen, hx⟩ := ok (by simpa using h2)
  obtain ⟨v5, e5, h50, h51⟩ := Eu c.f7 c.fu x.fa1 hp
  obtain ⟨y, hy, _⟩ := V1 (l := c.f3) (n := v5.1) h50 (by omega)
  exact ⟨v5, e5, by omega, y, hy, y, hy, by simp; omega⟩
theorem Cq (t : Qo) (x : Qi) : ∃ v, JD t x v := by
  obtain ⟨v, hv, _⟩ := Cg (Post := fun _ => True) (a0 := t) (a1 := x) (by
    unfold KU
    obtain ⟨v2, e2, ok⟩ := Xx t
    obtain ⟨v4, e4, ok4⟩ := K6 x
    obtain ⟨a1, h1⟩ := Aa t.fm x.fa7 4294967295
    obtain ⟨a2, h2⟩ := Aa t.f8 1 4294967295
    exact ⟨v2, e2, fun _ => trivial, fun _ => ⟨v4, e4, fun _ => trivial, fun _ => ⟨_, ⟨a1, h1, a2, h2, rfl⟩, trivial⟩⟩⟩)
  exact ⟨v, hv⟩
theorem Yk {α : Type} {l : List α} {j : Nat} (h : j < l.length) : ∃ x, ix l (j : Int) x := by
  obtain ⟨x, hx, _⟩ := V1 (l := l) (n := (j : Int)) (by omega) (by omega)
  exact ⟨x, hx⟩
theorem He (c : Qt) (h : c.fh.length ≤ 1000) : ∃ v, YF c v := by
  obtain ⟨v, hv, _⟩ := H0 (Post := fun _ => True) (a0 := c) (by
    unfold XH
    simp only [Jp]
    refine ⟨fun _ => trivial, fun h2 => ?_⟩
    have h0 : c.fh.length ≠ 0 := by
      intro e; rw [e] at h2; simp at h2
    rw [Zs (by omega)]
    obtain ⟨x, hx, _⟩ := V1 (l := c.fh) (n := (c.fh.length : Int) - 1) (by omega) (by omega)
    exact ⟨x, hx, trivial⟩)
  exact ⟨v, hv⟩
theorem B9 (l : List Q1) (hl : l.length ≤ 1000) : ∃ r, Wr l r ∧ r.length ≤ 1000 := by
  refine I9 (Post := fun r => r.length ≤ 1000) ?_
  unfold Yw
  simp only [jn]
  refine Kl (I := fun k s => ∃ j : Nat, s.2 = (j : Int) ∧ j ≤ l.length ∧ k = l.length - j ∧ s.1.length = j) ?_ (k := l.length) ⟨0, rfl, by omega, by omega, rfl⟩
  rintro k ⟨a, i⟩ ⟨j, hj, hj1, hk, ha⟩ X hX
  simp only at hj ha ⊢
  subst hj
  refine ⟨fun h => ?_, fun _ => by omega⟩
  have hj2 : j < l.length := by simp at h; omega
  obtain ⟨x, hx⟩ := Yk hj2
  refine ⟨x, hx, by simp; omega, ?_⟩
  have w0 : IntKind.i64.wrap (((a ++ [x]).length : Int) - 1) = (j : Int) := by simp [ha]; rw [Zs (by omega)]
  rw [w0]
  refine Kl (I := fun k s => ∃ m : Nat, s.2 = (m : Int) ∧ m ≤ j ∧ k = m ∧ s.1.length = j + 1) ?_ (k := j) ⟨j, rfl, by omega, rfl, by simp [ha]⟩
  rintro k2 ⟨b, i2⟩ ⟨m, hm, hm1, hk2, hb⟩ X2 hX2
  simp only at hm hb ⊢
  subst hm
  have done : X (b, IntKind.i64.wrap ((j : Int) + 1)) := by
    rw [Zs (by omega)]
    exact hX (l.length - (j + 1)) _ (by omega) ⟨j + 1, by simp, by omega, rfl, hb⟩
  by_cases h0 : m = 0
  · subst h0
    exact ⟨x, fun h => by simp at h, x, fun h => by simp at h, false, fun h => by simp at h, fun h => by simp at h, fun _ => done⟩
  · obtain ⟨p, hp⟩ := Yk (l := b) (j := m) (by omega)
    obtain ⟨q, hq⟩ := Yk (l := b) (j := m - 1) (by omega)
    have wm : IntKind.i64.wrap ((m : Int) - 1) = ((m - 1 : Nat) : Int) := by rw [Zs (by omega)]; omega
    obtain ⟨z, hz⟩ := Yk (l := List.set b (Int.toNat (m : Int)) q) (j := m - 1) (by simp; omega)
    rw [wm]
    refine ⟨p, fun _ => hp, q, fun _ => hq, _, fun _ => rfl, fun _ => ⟨q, hq, p, hp, p, hp, z, hz, ?_⟩, fun _ => done⟩
    exact hX2 (m - 1) _ (by omega) ⟨m - 1, rfl, by omega, rfl, by simpa using hb⟩
theorem DW (c : Qt) (x : Qi) : ∃ v, Vd c x v ∧ v.1.fh.length ≤ 1000 := by
  refine DF (Post := fun v => v.1.fh.length ≤ 1000) ?_
  unfold Jw
  simp only [jn]
  obtain ⟨v2, e2, ok⟩ := Yj c
  obtain ⟨v4, e4, ok4⟩ := K6 x
  refine ⟨v2, e2, fun _ => by simp, fun h2 => ⟨v4, e4, fun _ => by simp, fun h4 => ?_⟩⟩
  obtain ⟨hs, ht, hl, hx⟩ := ok (by simpa using h2)
  obtain ⟨v6, e6⟩ := Xz c.fm x.fa7
  obtain ⟨v7, e7, h70, h71⟩ := B8 c.fh x.fa1 (by omega)
  refine ⟨by omega, v6, e6, v7, e7, fun h => ?_, fun h => ⟨fun h3 => ?_, fun h3 => ?_⟩⟩
  · have h' : 0 ≤ v7 := by simpa using h
    obtain ⟨y, hy, _⟩ := V1 (l := c.fh) (n := v7) h' h71
    obtain ⟨z, hz⟩ := Xz y.f0 x.fa7
    obtain ⟨r, hr, hr2⟩ := B9 (List.set c.fh (Int.toNat v7) (Q1.mk (y.fa1) (z.1) (y.fc2))) (by simp; omega)
    exact ⟨y, hy, z, hz, y, hy, r, hr, hr2⟩
  · obtain ⟨r, hr, hr2⟩ := B9 (c.fh ++ [Q1.mk (x.fa1) (x.fa7) (0)]) (by simp; omega)
    exact ⟨by simp; omega, r, hr, hr2⟩
  · have h3' : c.fg ≤ c.fh.length := by simpa using h3
    obtain ⟨v13, e13⟩ := He c (by omega)
    obtain ⟨v14, e14⟩ := Xz v13 x.fa7
    have w : IntKind.i64.wrap ((c.fh.length : Int) - 1) = (c.fh.length : Int) - 1 := Zs (by omega)
    obtain ⟨y, hy, _⟩ := V1 (l := c.fh) (n := (c.fh.length : Int) - 1) (by omega) (by omega)
    rw [w]
    obtain ⟨r, hr, hr2⟩ := B9 (List.set c.fh (Int.toNat ((c.fh.length : Int) - 1)) (Q1.mk (x.fa1) (v14.1) (XW (v13) (IntKind.i64.wrap ((v14.1) - (1)))))) (by simp; omega)
    exact ⟨v13, e13, v14, e14, y, hy, r, hr, hr2⟩
theorem Dh (l : List Q1) (x : Q1) (hl : l.length ≤ 900) : ∃ r, XJ l x r ∧ r.length ≤ 1000 := by
  refine H2 (Post := fun r => r.length ≤ 1000) ?_
  unfold XI
  simp only [jn]
  refine Kl (I := fun k s => ∃ j : Nat, s.2.2 = (j : Int) ∧ j ≤ l.length ∧ k = l.length - j ∧ s.1.length ≤ j + (if s.2.1 = true then 1 else 0)) ?_ (k := l.length) ⟨0, rfl, by omega, by omega, by simp⟩
  rintro k ⟨a, f, i⟩ ⟨j, hj, hj1, hk, ha⟩ X hX
  simp only at hj ha ⊢
  subst hj
  have hf : (if f = true then 1 else 0 : Nat) ≤ 1 := by cases f <;> simp
  refine ⟨fun h => ?_, fun h => ⟨fun _ => ⟨by simp; omega, by simp; omega⟩, fun _ => by omega⟩⟩
  have hj2 : j < l.length := by simp at h; omega
  obtain ⟨y, hy⟩ := Yk hj2
  refine ⟨y, fun _ => hy, fun h2 => ⟨by simp; omega, y, hy, by simp; omega, ?_⟩, fun h2 => ⟨y, hy, by simp; omega, ?_⟩⟩
  · rw [Zs (by omega)]
    have hff : f = false := by cases f <;> simp_all
    subst hff
    refine hX (l.length - (j + 1)) _ (by omega) ⟨j + 1, by simp, by omega, rfl, ?_⟩
    simp at ha ⊢; omega
  · rw [Zs (by omega)]
    refine hX (l.length - (j + 1)) _ (by omega) ⟨j + 1, by simp, by omega, rfl, ?_⟩
    simp; omega
theorem Hf (l : List Q1) (n : Int) (hl : l.length ≤ 900) : ∃ r, YG l n r ∧ r.length ≤ l.length := by
  refine H3 (Post := fun r => r.length ≤ l.length) ?_
  unfold XK
  simp only [jn]
  refine Kl (I := fun k s => ∃ j : Nat, s.2 = (j : Int) ∧ j ≤ l.length ∧ k = l.length - j ∧ s.1.length ≤ j) ?_ (k := l.length) ⟨0, rfl, by omega, by omega, by simp⟩
  rintro k ⟨a, i⟩ ⟨j, hj, hj1, hk, ha⟩ X hX
  simp only at hj ha ⊢
  subst hj
  refine ⟨fun h => ?_, fun _ => by omega⟩
  have hj2 : j < l.length := by simp at h; omega
  obtain ⟨y, hy⟩ := Yk hj2
  rw [Zs (by omega)]
  refine ⟨y, hy, fun _ => ⟨y, hy, y, hy, by simp; omega, ?_⟩, fun _ => ?_⟩
  · exact hX (l.length - (j + 1)) _ (by omega) ⟨j + 1, by simp, by omega, rfl, by simp; omega⟩
  · exact hX (l.length - (j + 1)) _ (by omega) ⟨j + 1, by simp, by omega, rfl, by simp only; omega⟩
theorem AC (c : Qe) (x : Qi) : ∃ v, KI c x v ∧ v.1.fh.length ≤ 1000 := by
  refine As (Post := fun v => v.1.fh.length ≤ 1000) ?_
  unfold Kd
  simp only [jn]
  obtain ⟨v2, e2, ok⟩ := Vq c
  obtain ⟨v4, e4, ok4⟩ := K6 x
  refine ⟨v2, e2, fun _ => by simp, fun h2 => ⟨v4, e4, fun _ => by simp, fun h4 => ?_⟩⟩
  obtain ⟨hs, ht, hlo, hl, hx⟩ := ok (by simpa using h2)
  obtain ⟨v6, e6⟩ := Xz c.fm x.fa7
  obtain ⟨v7, e7, h70, h71⟩ := B8 c.fh x.fa1 (by omega)
  refine ⟨by omega, v6, e6, v7, e7, fun h => ?_, fun h => ⟨fun h3 => ?_, fun h3 => ?_⟩⟩
  · have h' : 0 ≤ v7 := by simpa using h
    obtain ⟨y, hy, _⟩ := V1 (l := c.fh) (n := v7) h' h71
    obtain ⟨z, hz⟩ := Xz y.f0 x.fa7
    exact ⟨y, hy, z, hz, y, hy, by simp; omega⟩
  · obtain ⟨r, hr, hr2⟩ := Dh c.fh (Q1.mk (x.fa1) (x.fa7) (0)) (by omega)
    exact ⟨r, hr, hr2⟩
  · refine Kl (I := fun k s => ∃ j : Nat, s.2.1 = (j : Int) ∧ j ≤ c.fh.length ∧ k = c.fh.length - j ∧ s.2.2 = c.fh) ?_ (k := c.fh.length) ⟨0, rfl, by omega, by omega, rfl⟩
    rintro k ⟨n, i, l⟩ ⟨j, hj, hj1, hk, hl2⟩ X hX
    simp only at hj hl2 ⊢
    subst hj; subst hl2
    refine ⟨fun h => ?_, fun _ => ?_⟩
    · have hj2 : j < c.fh.length := by simp at h; omega
      obtain ⟨y, hy⟩ := Yk hj2
      refine ⟨y, hy, ?_⟩
      rw [Zs (by omega)]
      exact hX (c.fh.length - (j + 1)) _ (by omega) ⟨j + 1, by simp, by omega, rfl, rfl⟩
    · obtain ⟨v18, e18, l18⟩ := Hf c.fh n (by omega)
      obtain ⟨v19, e19⟩ := Xz c.fb3 n
      obtain ⟨r, hr, hr2⟩ := Dh v18 (Q1.mk (x.fa1) (IntKind.i64.wrap ((x.fa7) - n)) (0)) (by omega)
      exact ⟨v18, e18, v19, e19, fun _ => ⟨r, hr, hr2⟩, fun _ => (show v18.length ≤ 1000 by omega)⟩
theorem Ga (w : Int) : ∃ r, XZ w r ∧ r.length ≤ 63 ∧ ∀ x ∈ r, 0 ≤ x ∧ x ≤ 62 := by
  refine FP (Post := fun r => r.length ≤ 63 ∧ ∀ x ∈ r, 0 ≤ x ∧ x ≤ 62) ?_
  unfold VU
  simp only [jn]
  refine Kl (I := fun k s => ∃ j : Nat, s.2 = (j : Int) ∧ j ≤ 63 ∧ k = 63 - j ∧ s.1.length ≤ j ∧ ∀ x ∈ s.1, 0 ≤ x ∧ x ≤ 62) ?_ (k := 63) ⟨0, rfl, by omega, by omega, by simp, by simp⟩
  rintro k ⟨a, i⟩ ⟨j, hj, hj1, hk, ha, hx⟩ X hX
  simp only at hj ha hx ⊢
  subst hj
  refine ⟨fun h => ?_, fun _ => ⟨by omega, hx⟩⟩
  have hj2 : j < 63 := by
    cases hd : decide ((j : Int) < 63) with
    | true => simp at hd; omega
    | false => rw [hd] at h; cases h
  rw [Zs (by omega)]
  refine ⟨by rw [BN (by omega)]; omega, fun _ => ⟨by simp; omega, ?_⟩, fun _ => ?_⟩
  · refine hX (63 - (j + 1)) _ (by omega) ⟨j + 1, by simp, by omega, rfl, by simp; omega, ?_⟩
    intro x hx2
    rcases List.mem_append.1 hx2 with h | h
    · exact hx x h
    · simp at h; omega
  · exact hX (63 - (j + 1)) _ (by omega) ⟨j + 1, by simp, by omega, rfl, by simp only; omega, hx⟩
theorem Gb (l : List ByteArray) (hl : l.length ≤ 1000000) : ∃ r, VW l r ∧ r.length = l.length := by
  refine FR (Post := fun r => r.length = l.length) ?_
  unfold VV
  simp only [jn]
  refine Kl (I := fun k s => ∃ j : Nat, s.2 = (j : Int) ∧ j ≤ l.length ∧ k = l.length - j ∧ s.1.length = j) ?_ (k := l.length) ⟨0, rfl, by omega, by omega, rfl⟩
  rintro k ⟨a, i⟩ ⟨j, hj, hj1, hk, ha⟩ X hX
  simp only at hj ha ⊢
  subst hj
  refine ⟨fun h => ?_, fun h => by simp at h; omega⟩
  have hj2 : j < l.length := by simp at h; omega
  obtain ⟨x, hx⟩ := Yk hj2
  refine ⟨x, hx, by simp; omega, ?_⟩
  have w0 : IntKind.i64.wrap (((a ++ [x]).length : Int) - 1) = (j : Int) := by simp [ha]; rw [Zs (by omega)]
  rw [w0]
  refine Kl (I := fun k s => ∃ m : Nat, s.2 = (m : Int) ∧ m ≤ j ∧ k = m ∧ s.1.length = j + 1) ?_ (k := j) ⟨j, rfl, by omega, rfl, by simp [ha]⟩
  rintro k2 ⟨b, i2⟩ ⟨m, hm, hm1, hk2, hb⟩ X2 hX2
  simp only at hm hb ⊢
  subst hm
  have done : X (b, IntKind.i64.wrap ((j : Int) + 1)) := by
    rw [Zs (by omega)]
    exact hX (l.length - (j + 1)) _ (by omega) ⟨j + 1, by simp, by omega, rfl, hb⟩
  by_cases h0 : m = 0
  · subst h0
    exact ⟨x, fun h => by simp at h, x, fun h => by simp at h, fun h => by simp at h, fun _ => done⟩
  · obtain ⟨p, hp⟩ := Yk (l := b) (j := m) (by omega)
    obtain ⟨q, hq⟩ := Yk (l := b) (j := m - 1) (by omega)
    have wm : IntKind.i64.wrap ((m : Int) - 1) = ((m - 1 : Nat) : Int) := by rw [Zs (by omega)]; omega
    obtain ⟨z, hz⟩ := Yk (l := List.set b (Int.toNat (m : Int)) q) (j := m - 1) (by simp; omega)
    rw [wm]
    refine ⟨p, fun _ => hp, q, fun _ => hq, fun _ => ⟨q, hq, p, hp, p, hp, z, hz, ?_⟩, fun _ => done⟩
    exact hX2 (m - 1) _ (by omega) ⟨m - 1, rfl, by omega, rfl, by simpa using hb⟩
theorem tdiv8 {a : Int} (h : 0 ≤ a) : a.tdiv 8 = a / 8 := Int.tdiv_eq_ediv_of_nonneg h
theorem Lg (l : List Int) (p : Int) (hl : l.length ≤ 1000000) (h1 : p ≤ 4611686018427387904) (h2 : -4611686018427387904 ≤ p) : ∃ v, W2 l p v ∧ 0 ≤ v ∧ v ≤ 1 := by
  refine L0 (Post := fun v => 0 ≤ v ∧ v ≤ 1) ?_
  unfold W1
  simp only [bA1, Jp]
  refine ⟨fun _ => by omega, fun h => ?_⟩
  have h0 : 0 ≤ p := by
    cases hd : decide (p < 0) with
    | false => simpa using hd
    | true => rw [hd] at h; cases h
  have hw : IntKind.i64.wrap (p.tdiv 8) = p / 8 := by rw [tdiv8 h0, Zs (by omega)]
  rw [hw] at h ⊢
  have h3 : p / 8 < l.length := by
    have := (Bool.or_eq_false_iff.1 h).2
    simpa using this
  obtain ⟨x, hx, _⟩ := V1 (l := l) (n := p / 8) (by omega) h3
  refine ⟨x, hx, ?_, by omega⟩
  rw [VN h0, Zs (by omega), BN (by omega)]; omega
theorem Gc (a0 : List (List ByteArray)) (a1 a2 : Int) (a3 : List Int) (a4 : Int) (h0 : a0.length ≤ 1000) (hM : ∀ l ∈ a0, l.length ≤ 1000) (h3 : a3.length ≤ 1000000) (h4 : 0 ≤ a4 ∧ a4 ≤ 1073741824) :
    ∃ r, Y0 a0 a1 a2 a3 a4 r ∧ r.1.length ≤ 3000 ∧ ∀ l ∈ r.1, l.length ≤ 3000 := by
  refine FT (Post := fun r => r.1.length ≤ 3000 ∧ ∀ l ∈ r.1, l.length ≤ 3000) ?_
  unfold VX
  simp only [jn]
  have trim : ∀ (sl po : Int) (out : List (List ByteArray)), out.length ≤ 3000 → (∀ l ∈ out, l.length ≤ 3000) →
      lp (fun (X24 : (List (List ByteArray)) → Prop) (s24 : (List (List ByteArray))) => ∃ (v26 : (List ByteArray)), ((decide ((((s24).length : Int)) > (0))) = true → ix (s24) (IntKind.i64.wrap ((((s24).length : Int)) - (1))) v26) ∧ ((((bif decide ((((s24).length : Int)) > (0)) then ((((v26).length : Int)) == (0)) else false)) = true → ((0 : Int) ≤ (IntKind.i64.wrap ((((s24).length : Int)) - (1))) ∧ (IntKind.i64.wrap ((((s24).length : Int)) - (1)) : Int) ≤ ((s24).length : Int)) ∧ X24 ((List.take (Int.toNat (IntKind.i64.wrap ((((s24).length : Int)) - (1)))) (s24)))) ∧ (((bif decide ((((s24).length : Int)) > (0)) then ((((v26).length : Int)) == (0)) else false)) = false → s24.length ≤ 3000 ∧ ∀ l ∈ s24, l.length ≤ 3000))) out := by
    intro sl po out ho hl
    refine Kl (I := fun k s => s.length ≤ 3000 ∧ (∀ l ∈ s, l.length ≤ 3000) ∧ k = s.length) ?_ (k := out.length) ⟨ho, hl, rfl⟩
    rintro k s ⟨hs, hl, hk⟩ X hX
    by_cases hz : s.length = 0
    · refine ⟨[], fun h => by simp [hz] at h, fun h => by simp [hz] at h, fun _ => ⟨hs, hl⟩⟩
    · have w : IntKind.i64.wrap ((s.length : Int) - 1) = ((s.length - 1 : Nat) : Int) := by rw [Zs (by omega)]; omega
      rw [w]
      obtain ⟨x, hx⟩ := Yk (l := s) (j := s.length - 1) (by omega)
      refine ⟨x, fun _ => hx, fun _ => ⟨by omega, ?_⟩, fun _ => ⟨hs, hl⟩⟩
      refine hX (s.length - 1) _ (by omega) ⟨by simp; omega, fun l h => hl l (List.mem_of_mem_take h), by simp⟩
  refine Kl (I := fun k s => ∃ i : Nat, s.2.2.2.2 = (i : Int) ∧ s.2.2.2.1.length ≤ 1000 ∧ i + s.2.2.2.1.length ≤ a0.length + 1000 ∧ s.2.2.1.length = i ∧ (∀ l ∈ s.2.2.1, l.length ≤ 3000) ∧ (a4 ≤ s.2.1 ∧ s.2.1 ≤ a4 + i) ∧ k = (a0.length - i) * 1001 + s.2.2.2.1.length) ?_ (k := a0.length * 1001) ⟨0, rfl, by simp, by simp, rfl, by simp, by simp, by simp⟩
  rintro k ⟨sl, po, out, carry, i'⟩ ⟨i, hi, hc, hic, hout, hlen, hpo, hk⟩ X hX
  simp only at hi hc hic hout hlen hpo hk ⊢
  subst hi
  refine ⟨fun h => ?_, fun _ => trim sl po out (by omega) hlen⟩
  have tail : ∀ merged : List ByteArray, merged.length ≤ 2000 → (i < a0.length ∨ (merged.length = carry.length ∧ 0 < carry.length)) →
      ∃ v9, VW merged v9 ∧ ((decide ((v9.length : Int) < a1) = true → (out.length + [v9].length) * 24 ≤ 140737488355328 ∧ X (sl, po, out ++ [v9], [], IntKind.i64.wrap ((i : Int) + 1))) ∧
        (decide ((v9.length : Int) < a1) = false → ∃ v13, W2 a3 po v13 ∧
          lp (fun (X14 : (List (List ByteArray)) × (List ByteArray) × (List ByteArray) × Int → Prop) (s14 : (List (List ByteArray)) × (List ByteArray) × (List ByteArray) × Int) => (((decide ((s14.2.2.2) < (IntKind.i64.wrap ((IntKind.i64.wrap ((((v9).length : Int)).tdiv (2))) * (2))))) = true → ∃ (v17 : ByteArray), ix (s14.2.2.1) (s14.2.2.2) v17 ∧ (((s14.2.1).length + ([(v17)]).length) * 16 ≤ 140737488355328) ∧ X14 ((s14.1), ((s14.2.1) ++ ([(v17)])), (s14.2.2.1), (IntKind.i64.wrap ((s14.2.2.2) + (2))))) ∧ ((decide ((s14.2.2.2) < (IntKind.i64.wrap ((IntKind.i64.wrap ((((v9).length : Int)).tdiv (2))) * (2))))) = false →
            ((0 : Int) ≤ (IntKind.u64.wrap (i : Int))) ∧ ∃ (v20 : Int × Bool), Jh sl (Wi .i64 (1) (IntKind.u64.wrap (i : Int))) v20 ∧ ((0 : Int) ≤ (IntKind.i64.wrap ((IntKind.i64.wrap ((((v9).length : Int)).tdiv (2))) * (2))) ∧ (IntKind.i64.wrap ((IntKind.i64.wrap ((((v9).length : Int)).tdiv (2))) * (2)) : Int) ≤ (((List.map eS (s14.2.2.1)).length : Nat) : Int)) ∧ (((s14.1).length + ([(List.take ((List.map eS (s14.2.2.1)).length - Int.toNat (IntKind.i64.wrap ((IntKind.i64.wrap ((((v9).length : Int)).tdiv (2))) * (2)))) (List.drop (0 + Int.toNat (IntKind.i64.wrap ((IntKind.i64.wrap ((((v9).length : Int)).tdiv (2))) * (2)))) (s14.2.2.1)))]).length) * 24 ≤ 140737488355328) ∧ X ((v20.1), (IntKind.i64.wrap (po + (1))), ((s14.1) ++ ([(List.take ((List.map eS (s14.2.2.1)).length - Int.toNat (IntKind.i64.wrap ((IntKind.i64.wrap ((((v9).length : Int)).tdiv (2))) * (2)))) (List.drop (0 + Int.toNat (IntKind.i64.wrap ((IntKind.i64.wrap ((((v9).length : Int)).tdiv (2))) * (2)))) (s14.2.2.1)))])), (s14.2.1), IntKind.i64.wrap ((i : Int) + 1))))) (out, ([] : (List ByteArray)), v9, v13))) := by
    intro merged hm hpr
    obtain ⟨v9, e9, l9⟩ := Gb merged (by omega)
    have hw1 : IntKind.i64.wrap ((i : Int) + 1) = ((i + 1 : Nat) : Int) := by rw [Zs (by omega)]; omega
    have ht : (v9.length : Int).tdiv 2 = ((v9.length / 2 : Nat) : Int) := by rw [Int.tdiv_eq_ediv_of_nonneg (by omega)]; omega
    have hw2 : IntKind.i64.wrap (IntKind.i64.wrap ((v9.length : Int).tdiv 2) * 2) = ((v9.length / 2 * 2 : Nat) : Int) := by
      rw [ht, Zs (n := ((v9.length / 2 : Nat) : Int)) (by omega), Zs (by omega)]; omega
    have hmeas : ∀ c : Nat, c ≤ v9.length / 2 → (a0.length - (i + 1)) * 1001 + c < k ∧ i + 1 + c ≤ a0.length + 1000 ∧ c ≤ 1000 := by
      intro c hcc
      rcases hpr with h | ⟨h, h'⟩
      · refine ⟨?_, by omega, by omega⟩
        have : a0.length - i = (a0.length - (i + 1)) + 1 := by omega
        rw [hk, this, Nat.add_mul]; omega
      · have hle : a0.length - (i + 1) ≤ a0.length - i := by omega
        have hle2 := Nat.mul_le_mul_right 1001 hle
        refine ⟨by omega, by omega, by omega⟩
    refine ⟨v9, e9, ?_⟩
    rw [hw1, hw2]
    refine ⟨fun h => ⟨by simp; omega, ?_⟩, fun h => ?_⟩
    · obtain ⟨m1, m2, m3⟩ := hmeas 0 (by omega)
      refine hX _ _ m1 ⟨i + 1, rfl, by simp, by simpa using m2, by simp [hout], ?_, by simp only; omega, rfl⟩
      intro l hl
      rcases List.mem_append.1 hl with h | h
      · exact hlen l h
      · simp at h; rw [h]; omega
    · obtain ⟨v13, e13, b0, b1⟩ := Lg a3 po h3 (by omega) (by omega)
      refine ⟨v13, e13, ?_⟩
      refine Kl (I := fun k s => ∃ h : Nat, s.1 = out ∧ s.2.1.length = h ∧ s.2.2.1 = v9 ∧ s.2.2.2 = v13 + 2 * (h : Int) ∧ h ≤ v9.length / 2 ∧ k = v9.length / 2 - h) ?_ (k := v9.length / 2) ⟨0, rfl, rfl, rfl, by simp, by omega, by omega⟩
      rintro k14 ⟨o, half, v, kk⟩ ⟨nh, ho, hh, hv, hkk, hle, hk14⟩ X14 hX14
      simp only at ho hh hv hkk ⊢
      subst ho; subst hv
      refine ⟨fun hlt => ?_, fun hge => ?_⟩
      · have hlt' : kk < ((v.length / 2 * 2 : Nat) : Int) := by simpa using hlt
        obtain ⟨y, hy, _⟩ := V1 (l := v) (n := kk) (by omega) (by omega)
        refine ⟨y, hy, by simp; omega, ?_⟩
        rw [Zs (by omega)]
        exact hX14 (v.length / 2 - (nh + 1)) _ (by omega) ⟨nh + 1, rfl, by simp [hh], rfl, by simp only; omega, by omega, rfl⟩
      · obtain ⟨v20, e20⟩ := Xz sl (Wi .i64 (1) (IntKind.u64.wrap (i : Int)))
        refine ⟨(Bg _).1, v20, e20, ⟨by omega, by simp; omega⟩, by simp; omega, ?_⟩
        rw [Zs (n := po + 1) (by omega)]
        obtain ⟨m1, m2, m3⟩ := hmeas half.length (by omega)
        refine hX _ _ m1 ⟨i + 1, rfl, m3, m2, by simp [hout], ?_, by simp only; omega, rfl⟩
        intro l hl
        rcases List.mem_append.1 hl with h | h
        · exact hlen l h
        · simp only [List.mem_singleton] at h; rw [h, List.length_take, List.length_drop]; omega
  refine ⟨fun h2 => ?_, fun h2 => ?_⟩
  · have hi2 : i < a0.length := by simp at h2; omega
    obtain ⟨x, hx, hg⟩ := V1 (l := a0) (n := (i : Int)) (by omega) (by omega)
    have hxl : x.length ≤ 1000 := hM x (List.mem_of_getElem? hg)
    exact ⟨x, hx, by omega, by omega, tail (x ++ carry) (by simp; omega) (.inl hi2)⟩
  · have hi2 : ¬ i < a0.length := by simp at h2; omega
    have hcp : 0 < carry.length := by
      rw [h2] at h; simp at h
      rcases Nat.eq_zero_or_pos carry.length with h' | h'
      · simp_all
      · exact h'
    exact tail carry (by omega) (.inr ⟨rfl, hcp⟩)
theorem Cs (c : Qk) (x : Qi) (a2 : List Int) (a3 : Int) (h3 : a2.length ≤ 1000000) : ∃ v, JE c x a2 a3 v ∧ v.1.fw.length ≤ 3000 ∧ ∀ l ∈ v.1.fw, l.length ≤ 3000 := by
  refine Cj (Post := fun v => v.1.fw.length ≤ 3000 ∧ ∀ l ∈ v.1.fw, l.length ≤ 3000) ?_
  unfold KV
  simp only [jn]
  obtain ⟨v2, e2, ok⟩ := Xy c
  obtain ⟨v4, e4, ok4⟩ := K6 x
  refine ⟨v2, e2, fun _ => by simp, fun h2 => ⟨v4, e4, fun _ => by simp, fun h4 => ⟨_, rfl, fun _ => by simp, fun h5 => ?_⟩⟩⟩
  obtain ⟨hs, ht, hsl, hll, hx⟩ := ok (by simpa using h2)
  have hp : 0 ≤ a3 ∧ a3 ≤ 1073741824 := by
    rw [JK] at h5; simpa using h5
  obtain ⟨v7, e7⟩ := Xz c.fm x.fa7
  have hlev : ∀ l ∈ c.fw, l.length ≤ 100 := fun l hl => by have := (hx l hl).1; omega
  refine ⟨v7, e7, fun _ => ⟨(show c.fw.length ≤ 3000 by omega), fun l hl => by have := hlev l hl; omega⟩, fun _ => ⟨by omega, ?_⟩⟩
  obtain ⟨v10, e10, l10, r10⟩ := Ga x.fa7
  refine ⟨v10, e10, ?_⟩
  refine Kl (I := fun k s => ∃ j : Nat, s.2.2 = (j : Int) ∧ j ≤ v10.length ∧ s.2.1 = v10 ∧ k = v10.length - j ∧ s.1.length ≤ 200 ∧ ∀ l ∈ s.1, l.length ≤ 100 + j) ?_ (k := v10.length) ⟨0, rfl, by omega, rfl, by omega, by simp only; omega, by simpa using hlev⟩
  rintro k ⟨L, P, i⟩ ⟨j, hj, hj1, hP, hk, hL, hLl⟩ X hX
  simp only at hj hP hL hLl ⊢
  subst hj; subst hP
  refine ⟨fun h => ?_, fun _ => ?_⟩
  · have hj2 : j < P.length := by simp at h; omega
    obtain ⟨q, hq, hqg⟩ := V1 (l := P) (n := (j : Int)) (by omega) (by omega)
    have hqr := r10 q (List.mem_of_getElem? hqg)
    refine Kl (I := fun k s => s.2 = P ∧ s.1.length ≤ 200 ∧ (∀ l ∈ s.1, l.length ≤ 100 + j) ∧ k = 201 - s.1.length) ?_ (k := 201 - L.length) ⟨rfl, hL, hLl, rfl⟩
    rintro k2 ⟨L2, P2⟩ ⟨hP2, hL2, hL2l, hk2⟩ X2 hX2
    simp only at hP2 hL2 hL2l hk2 ⊢
    subst hP2
    refine ⟨q, hq, fun h => ⟨by simp; omega, ?_⟩, fun h => ?_⟩
    · have h' : (L2.length : Int) ≤ q := by simpa using h
      refine hX2 (201 - (L2 ++ [[]]).length) _ (by simp; omega) ⟨rfl, by simp; omega, fun l hl => ?_, rfl⟩
      rcases List.mem_append.1 hl with h | h
      · exact hL2l l h
      · simp at h; rw [h]; simp
    · have h' : q < L2.length := by simpa using h
      obtain ⟨y, hy, hyg⟩ := V1 (l := L2) (n := q) (by omega) h'
      have hyl := hL2l y (List.mem_of_getElem? hyg)
      refine ⟨q, hq, q, hq, y, hy, by omega, by simp; omega, y, hy, ?_⟩
      rw [Zs (by omega)]
      refine hX (P2.length - (j + 1)) _ (by omega) ⟨j + 1, by simp, by omega, rfl, rfl, by simpa using hL2, fun l hl => ?_⟩
      rcases List.mem_or_eq_of_mem_set hl with h | h
      · have := hL2l l h; omega
      · rw [h]; simp; omega
  · obtain ⟨v26, e26, a26, b26⟩ := Gc L c.fg c.fa9 a2 a3 (by omega) (fun l hl => by have := hLl l hl; omega) h3 hp
    exact ⟨v26, e26, a26, b26⟩
def zSk : Qd := Qd.mk (Q6.mk (0) (0) (0) (0)) (Qo.mk (0) (0) (false)) (Qb.mk (0) (0) (0) ([] : (List Int)) (false)) (Qj.mk (0) (0) ([] : (List Int))) (Qt.mk (0) (0) ([] : (List Q1)) (false)) (Qe.mk (0) (0) (0) ([] : (List Q1)) (false)) (Qk.mk (0) (0) (0) ([] : (List (List ByteArray))) (false))
theorem Hg : Ik zSk := by simp [Ik, zSk]
theorem Fz (s : Qd) (x : Qi) (a2 : List Int) (a3 : Int) (h : Ik s) (h2 : a2.length ≤ 1000000) : ∃ v, Xr s x a2 a3 v ∧ Ik v.1 := by
  refine Fe (Post := fun v => Ik v.1) ?_
  unfold Ve
  simp only [jn]
  obtain ⟨v2, e2, _⟩ := UL s h
  obtain ⟨v4, e4, _⟩ := K6 x
  obtain ⟨z1, z2, z3, z4, z5, z6⟩ := h
  refine ⟨v2, e2, fun _ => Hg, fun _ => ⟨v4, e4, fun _ => Hg, fun _ => ⟨_, rfl, fun _ => Hg, fun _ => ?_⟩⟩⟩
  obtain ⟨u1, t1⟩ := Cq s.fx x
  obtain ⟨u2, t2, q2⟩ := AB s.fc x
  obtain ⟨u3, t3, q3⟩ := Bw s.fy x
  obtain ⟨u4, t4, q4⟩ := DW s.fa4 x
  obtain ⟨u5, t5, q5⟩ := AC s.ff x
  obtain ⟨u6, t6, q6, q7⟩ := Cs s.fp x a2 a3 h2
  refine ⟨fun _ => ⟨u1, t1, z1, z2, z3, z4, z5, z6⟩, fun _ => ⟨fun _ => ⟨u2, t2, ?_, z2, z3, z4, z5, z6⟩, fun _ => ⟨fun _ => ⟨u3, t3, z1, ?_, z3, z4, z5, z6⟩, fun _ => ⟨fun _ => ⟨u4, t4, z1, z2, ?_, z4, z5, z6⟩, fun _ => ⟨fun _ => ⟨u5, t5, z1, z2, z3, ?_, z5, z6⟩, fun _ => ⟨u6, t6, z1, z2, z3, z4, ?_, ?_⟩⟩⟩⟩⟩⟩
  · simp only; omega
  · simp only; omega
  · simp only; omega
  · simp only; omega
  · simp only; omega
  · intro l hl; have := q7 l hl; omega
theorem Cu (a b d : Int) : ∃ v, JB a b d v ∧ v.1.fa8.length ≤ 1000 := by
  refine Cb (Post := fun v => v.1.fa8.length ≤ 1000) ?_
  unfold KS
  simp only [ZE, exists_eq_left, Jp]
  refine ⟨_, fun _ => rfl, fun _ => by simp, fun h => ?_⟩
  have h' : (1 ≤ a ∧ a ≤ 8) ∧ 1 ≤ b ∧ b ≤ 64 := by simpa [wI] using h
  have hm := Hb h'.1 h'.2
  rw [Zs (by omega)]
  exact ⟨⟨by omega, by omega⟩, by simp; omega⟩
theorem DX (a b : Int) : ∃ v, Vb a b v ∧ v.1.f3.length ≤ 1000 := by
  refine Dz (Post := fun v => v.1.f3.length ≤ 1000) ?_
  unfold Jv
  simp only [ZE, exists_eq_left]
  refine ⟨fun _ => by simp, fun h => ?_⟩
  have h' : 2 ≤ a ∧ a ≤ 8 := by simpa [wI] using h
  have hm := ND h'
  exact ⟨(Bg _).1, ⟨by omega, by omega⟩, by simp; omega⟩
theorem Gd (a : Int) : ∃ v, XX a v ∧ v.1.fh.length ≤ 1000 := by
  refine FL (Post := fun v => v.1.fh.length ≤ 1000) ?_
  unfold VS
  simp only [ZE, exists_eq_left]
  exact ⟨fun _ => by simp, fun _ => by simp⟩
theorem Cv (a : Int) : ∃ v, JC a v ∧ v.1.fh.length ≤ 1000 := by
  refine Cd (Post := fun v => v.1.fh.length ≤ 1000) ?_
  unfold KT
  simp only [ZE, exists_eq_left]
  exact ⟨fun _ => by simp, fun _ => by simp⟩
theorem Ev (a : Int) : ∃ v, VK a v ∧ v.1.fw = [] := by
  refine Ej (Post := fun v => v.1.fw = []) ?_
  unfold JO
  simp only [ZE, exists_eq_left]
  exact ⟨fun _ => by simp, fun _ => by simp⟩
theorem Il (p : Q6) : ∃ v, Wq p v ∧ Ik v.1 := by
  refine I5 (Post := fun v => Ik v.1) ?_
  unfold Yt
  simp only [jn]
  obtain ⟨u2, t2, q2⟩ := Cu p.fq p.fg p.fu
  obtain ⟨u3, t3, q3⟩ := DX p.fg p.fu
  obtain ⟨u4, t4, q4⟩ := Gd p.fg
  obtain ⟨u5, t5, q5⟩ := Cv p.fg
  obtain ⟨u6, t6, q6⟩ := Ev p.fg
  refine ⟨_, VF p, fun _ => Hg, fun _ => ⟨fun _ => ⟨u2, t2, ?_⟩, fun _ => ⟨fun _ => ⟨u3, t3, ?_⟩, fun _ => ⟨fun _ => ⟨u4, t4, ?_⟩, fun _ => ⟨fun _ => ⟨u5, t5, ?_⟩, fun _ => ⟨fun _ => ⟨u6, t6, ?_⟩, fun _ => ?_⟩⟩⟩⟩⟩⟩ <;> simp [Ik] <;> try omega
  rw [q6]; simp
theorem Im (p : Q6) (l : List Qi) (cs : List Int) (hl : l.length ≤ 1000000) (hc : cs.length ≤ 1000000) : ∃ s, Ws p l cs s ∧ Ik s := by
  refine Ib (Post := fun s => Ik s) ?_
  unfold Yx
  simp only [jn]
  obtain ⟨v1, e1, z⟩ := Il p
  refine ⟨v1, e1, ?_⟩
  refine Kl (I := fun k s => ∃ j : Nat, s.2.1 = (j : Int) ∧ j ≤ l.length ∧ k = l.length - j ∧ Ik (Qd.mk (Q6.mk (s.2.2.1) (s.2.2.2.1) (s.2.2.2.2.1) (s.2.2.2.2.2.1)) (Qo.mk (s.2.2.2.2.2.2.1) (s.2.2.2.2.2.2.2.1) (s.2.2.2.2.2.2.2.2.1)) (Qb.mk (s.2.2.2.2.2.2.2.2.2.1) (s.2.2.2.2.2.2.2.2.2.2.1) (s.2.2.2.2.2.2.2.2.2.2.2.1) (s.2.2.2.2.2.2.2.2.2.2.2.2.1) (s.2.2.2.2.2.2.2.2.2.2.2.2.2.1)) (Qj.mk (s.2.2.2.2.2.2.2.2.2.2.2.2.2.2.1) (s.2.2.2.2.2.2.2.2.2.2.2.2.2.2.2.1) (s.2.2.2.2.2.2.2.2.2.2.2.2.2.2.2.2.1)) (Qt.mk (s.2.2.2.2.2.2.2.2.2.2.2.2.2.2.2.2.2.1) (s.2.2.2.2.2.2.2.2.2.2.2.2.2.2.2.2.2.2.1) (s.2.2.2.2.2.2.2.2.2.2.2.2.2.2.2.2.2.2.2.1) (s.2.2.2.2.2.2.2.2.2.2.2.2.2.2.2.2.2.2.2.2.1)) (Qe.mk (s.2.2.2.2.2.2.2.2.2.2.2.2.2.2.2.2.2.2.2.2.2.1) (s.2.2.2.2.2.2.2.2.2.2.2.2.2.2.2.2.2.2.2.2.2.2.1) (s.2.2.2.2.2.2.2.2.2.2.2.2.2.2.2.2.2.2.2.2.2.2.2.1) (s.2.2.2.2.2.2.2.2.2.2.2.2.2.2.2.2.2.2.2.2.2.2.2.2.1) (s.2.2.2.2.2.2.2.2.2.2.2.2.2.2.2.2.2.2.2.2.2.2.2.2.2.1)) (Qk.mk (s.2.2.2.2.2.2.2.2.2.2.2.2.2.2.2.2.2.2.2.2.2.2.2.2.2.2.1) (s.2.2.2.2.2.2.2.2.2.2.2.2.2.2.2.2.2.2.2.2.2.2.2.2.2.2.2.1) (s.2.2.2.2.2.2.2.2.2.2.2.2.2.2.2.2.2.2.2.2.2.2.2.2.2.2.2.2.1) (s.2.2.2.2.2.2.2.2.2.2.2.2.2.2.2.2.2.2.2.2.2.2.2.2.2.2.2.2.2.1) (s.2.2.2.2.2.2.2.2.2.2.2.2.2.2.2.2.2.2.2.2.2.2.2.2.2.2.2.2.2.2)))) ?_ (k := l.length) ⟨0, rfl, by omega, by omega, z⟩
  rintro k s ⟨j, hj, hj1, hk, hz⟩ X hX
  rw [hj]
  refine ⟨fun h => ?_, fun _ => hz⟩
  have hj2 : j < l.length := by simp at h; omega
  obtain ⟨x, hx⟩ := Yk hj2
  obtain ⟨v7, e7, z7⟩ := Fz _ x cs s.1 hz hc
  refine ⟨x, hx, v7, e7, ?_⟩
  rw [Zs (by omega)]
  exact hX (l.length - (j + 1)) _ (by omega) ⟨j + 1, by simp, by omega, rfl, z7⟩
theorem Ge (l : List Int) (hl : l.length ≤ 4611686018427387904) : ∃ s, Y1 l s ∧ Ik s := by
  refine FV (Post := fun s => Ik s) ?_
  unfold VY
  simp only [bA7]
  obtain ⟨v1, e1, _⟩ := WN l 0 hl (by omega) (by omega)
  obtain ⟨v2, e2, _⟩ := BP v1
  obtain ⟨v4, e4, _⟩ := WN l 1 hl (by omega) (by omega)
  obtain ⟨v5, e5, l5, _⟩ := Dd (List.drop (Int.toNat (XW (((l).length : Int)) (2))) l) (v4 % 8) (by simp; omega) (by omega) (by omega)
  obtain ⟨v6, e6, _⟩ := WN l 9 hl (by omega) (by omega)
  obtain ⟨v7, e7, l7⟩ := De v6
  obtain ⟨v8, e8, z8⟩ := Im v2 v5 v7 (by omega) (by omega)
  exact ⟨v1, e1, v2, e2, ⟨by unfold XW; split <;> omega, by unfold XW; split <;> omega⟩, v4, e4, v5, e5, v6, e6, v7, e7, v8, e8, z8⟩
theorem Zb (a : Int) (h : a < 18446744073709551616) : ∃ r, Z1 a r ∧ r.length ≤ 9 := by
  refine I1 (Post := fun r => r.length ≤ 9) ?_
  unfold Yp
  simp only [jn, shr8]
  refine ⟨fun _ => by simp, fun _ => ?_⟩
  refine Kl (I := fun k s => s.2.length ≤ 8 ∧ k = 8 - s.2.length ∧ s.1 < 256 ^ (8 - s.2.length)) ?_ (k := 8) ⟨by simp, by simp, by simpa using h⟩
  rintro k ⟨x, l⟩ ⟨hl, hk, hx⟩ X hX
  simp only at hl hk hx ⊢
  refine ⟨fun hp => ?_, fun _ => ⟨by simp; omega, by simp; omega⟩⟩
  have hp' : 0 < x := by simpa using hp
  have hl7 : l.length < 8 := by
    rcases Nat.lt_or_ge l.length 8 with h | h
    · exact h
    · have : l.length = 8 := by omega
      rw [this] at hx; simp at hx; omega
  refine ⟨by simp; omega, hX (8 - ([IntKind.u8.wrap x] ++ l).length) _ (by simp; omega) ⟨by simp; omega, rfl, ?_⟩⟩
  have e : 8 - l.length = (8 - ([IntKind.u8.wrap x] ++ l).length) + 1 := by simp; omega
  rw [e, Int.pow_succ] at hx
  generalize (256 : Int) ^ (8 - ([IntKind.u8.wrap x] ++ l).length) = M at hx ⊢
  show x / 256 < M
  omega
theorem Ew (l : List Int) (hl : l.length ≤ 4611686018427387904) : ∃ r, VJ l r := by
  obtain ⟨v, hv, _⟩ := Eh (Post := fun _ => True) (a0 := l) (by
    unfold JN
    simp only [jn]
    refine Kl (I := fun k s => ∃ j : Nat, s.2.2 = (j : Int) ∧ j ≤ l.length ∧ k = l.length - j) ?_ (k := l.length) ⟨0, rfl, by omega, by omega⟩
    rintro k ⟨a, b, i⟩ ⟨j, hj, hj1, hk⟩ X hX
    simp only at hj ⊢
    subst hj
    refine ⟨fun h => ?_, fun _ => trivial⟩
    have hj2 : j < l.length := by simp at h; omega
    obtain ⟨x, hx⟩ := Yk hj2
    refine ⟨x, hx, ?_⟩
    rw [Zs (by omega)]
    exact hX (l.length - (j + 1)) _ (by omega) ⟨j + 1, by simp, by omega, rfl⟩)
  exact ⟨v, hv⟩
theorem Di (t : Int) (l : List Int) : ∃ r, VC t l r ∧ r.1.length ≤ l.length + 14 := by
  refine GX (Post := fun r => r.1.length ≤ l.length + 14) ?_
  unfold XE
  refine ⟨fun _ => by simp, fun h => ?_⟩
  have h' : (l.length : Int) ≤ 1048576 := by simpa using h
  obtain ⟨v2, e2, l2⟩ := Zb (l.length : Int) (by omega)
  obtain ⟨v5, e5⟩ := Ew (([t] ++ v2) ++ l) (by simp; omega)
  exact ⟨v2, e2, by simp; omega, by simp; omega, v5, e5, by simp; omega, by simp; omega⟩
theorem Wv (b : Bool) : ∃ r, JS b r ∧ r.length = 1 := by
  refine I2 (Post := fun r => r.length = 1) ?_
  exact ⟨fun _ => rfl, fun _ => rfl⟩
theorem Eb (a : Int) : ∃ r, Yr a r ∧ r.length ≤ 8 := by
  refine I3 (Post := fun r => r.length ≤ 8) ?_
  unfold Yq
  simp only [jn]
  refine Kl (I := fun k s => -1 ≤ s.2 ∧ (s.1.length : Int) = 7 - s.2 ∧ k = (s.2 + 1).toNat) ?_ (k := 8) ⟨by decide, rfl, rfl⟩
  rintro k ⟨l, i⟩ ⟨h0, h1, hk⟩ X hX
  simp only at h0 h1 hk ⊢
  refine ⟨fun h => ?_, fun h => by simp at h; omega⟩
  have hi : 0 ≤ i := by simpa using h
  refine ⟨(Bg _).1, by simp; omega, ?_⟩
  rw [Zs (n := i - 1) (by omega)]
  exact hX (i - 1 + 1).toNat _ (by omega) ⟨by simp only; omega, by simp; omega, rfl⟩
theorem Ba (s : ByteArray) (h : s.size ≤ 32) : ∃ r, Xm s r ∧ r.length ≤ 41 := by
  refine I4 (Post := fun r => r.length ≤ 41) ?_
  unfold Ys
  obtain ⟨v, e, l⟩ := Zb (s.size : Int) (by omega)
  have hs : (sI s).length = s.size := Gg s
  exact ⟨v, e, by omega, by simp; omega⟩
theorem Cw (t : Qo) : ∃ r, Jz t r ∧ r.1.length ≤ 60000 := by
  refine C6 (Post := fun r => r.1.length ≤ 60000) ?_
  unfold KQ
  obtain ⟨v2, e2, ok⟩ := Xx t
  refine ⟨v2, e2, fun _ => by simp, fun h2 => ?_⟩
  have ok := ok (by simpa using h2)
  obtain ⟨v3, e3, l3⟩ := Zb t.fm (by omega)
  obtain ⟨v4, e4, l4⟩ := Zb t.f8 (by omega)
  obtain ⟨v6, e6, l6⟩ := Wv t.fa
  exact ⟨v3, e3, v4, e4, by omega, v6, e6, by simp; omega, by simp; omega⟩
theorem AD (c : Qb) : ∃ r, KF c r ∧ r.1.length ≤ 60000 := by
  refine Am (Post := fun r => r.1.length ≤ 60000) ?_
  unfold Ka
  simp only [jn]
  obtain ⟨v2, e2, ok⟩ := Vp c
  refine ⟨v2, e2, fun _ => by simp, fun h2 => ?_⟩
  obtain ⟨hd, hs, hl, hx⟩ := ok (by simpa using h2)
  have hm := Hb hd hs
  obtain ⟨v3, e3, l3⟩ := Zb c.fq (by omega)
  obtain ⟨v4, e4, l4⟩ := Zb c.fg (by omega)
  obtain ⟨v6, e6, l6⟩ := Eb c.fu
  refine ⟨v3, e3, v4, e4, by omega, v6, e6, by simp; omega, ?_⟩
  refine Kl (I := fun k s => ∃ j : Nat, s.2 = (j : Int) ∧ j ≤ c.fa8.length ∧ k = c.fa8.length - j ∧ s.1.length ≤ 26 + 9 * j) ?_ (k := c.fa8.length) ⟨0, rfl, by omega, by omega, by simp; omega⟩
  rintro k ⟨a, i⟩ ⟨j, hj, hj1, hk, ha⟩ X hX
  simp only at hj ha ⊢
  subst hj
  refine ⟨fun h => ?_, fun _ => ?_⟩
  · have hj2 : j < c.fa8.length := by simp at h; omega
    obtain ⟨x, hx1, hg⟩ := V1 (l := c.fa8) (n := (j : Int)) (by omega) (by omega)
    have hxr := hx x (List.mem_of_getElem? hg)
    obtain ⟨v13, e13, l13⟩ := Zb x (by omega)
    refine ⟨x, hx1, v13, e13, by omega, ?_⟩
    rw [Zs (by omega)]
    exact hX (c.fa8.length - (j + 1)) _ (by omega) ⟨j + 1, by simp, by omega, rfl, by simp; omega⟩
  · obtain ⟨v15, e15, l15⟩ := Wv c.fa
    exact ⟨v15, e15, by omega, by simp; omega⟩
theorem By (c : Qj) : ∃ r, Jj c r ∧ r.1.length ≤ 60000 := by
  refine Bj (Post := fun r => r.1.length ≤ 60000) ?_
  unfold Ky
  simp only [jn]
  obtain ⟨v2, e2, ok⟩ := Xd c
  refine ⟨v2, e2, fun _ => by simp, fun h2 => ?_⟩
  obtain ⟨hp, hl, hlen, hx⟩ := ok (by simpa using h2)
  obtain ⟨v3, e3, l3⟩ := Zb c.f7 (by omega)
  obtain ⟨v4, e4, l4⟩ := Eb c.fu
  refine ⟨v3, e3, v4, e4, by omega, ?_⟩
  refine Kl (I := fun k s => ∃ j : Nat, s.2 = (j : Int) ∧ j ≤ c.f3.length ∧ k = c.f3.length - j ∧ s.1.length ≤ 17 + j) ?_ (k := c.f3.length) ⟨0, rfl, by omega, by omega, by simp; omega⟩
  rintro k ⟨a, i⟩ ⟨j, hj, hj1, hk, ha⟩ X hX
  simp only at hj ha ⊢
  subst hj
  refine ⟨fun h => ?_, fun _ => by omega⟩
  have hj2 : j < c.f3.length := by simp at h; omega
  obtain ⟨x, hx1⟩ := Yk hj2
  refine ⟨x, hx1, by simp; omega, ?_⟩
  rw [Zs (by omega)]
  exact hX (c.f3.length - (j + 1)) _ (by omega) ⟨j + 1, by simp, by omega, rfl, by simp; omega⟩
theorem DY (c : Qt) : ∃ r, V9 c r ∧ r.1.length ≤ 60000 := by
  refine Dx (Post := fun r => r.1.length ≤ 60000) ?_
  unfold Ju
  simp only [jn]
  obtain ⟨v2, e2, ok⟩ := Yj c
  refine ⟨v2, e2, fun _ => by simp, fun h2 => ?_⟩
  obtain ⟨hs, ht, hl, hx⟩ := ok (by simpa using h2)
  obtain ⟨v3, e3, l3⟩ := Zb c.fg (by omega)
  obtain ⟨v4, e4, l4⟩ := Zb c.fm (by omega)
  obtain ⟨v6, e6, l6⟩ := Wv c.fa
  obtain ⟨v8, e8, l8⟩ := Zb (c.fh.length : Int) (by omega)
  refine ⟨v3, e3, v4, e4, by omega, v6, e6, by simp; omega, v8, e8, by simp; omega, ?_⟩
  refine Kl (I := fun k s => ∃ j : Nat, s.2 = (j : Int) ∧ j ≤ c.fh.length ∧ k = c.fh.length - j ∧ s.1.length ≤ 28 + 59 * j) ?_ (k := c.fh.length) ⟨0, rfl, by omega, by omega, by simp; omega⟩
  rintro k ⟨a, i⟩ ⟨j, hj, hj1, hk, ha⟩ X hX
  simp only at hj ha ⊢
  subst hj
  refine ⟨fun h => ?_, fun _ => by omega⟩
  have hj2 : j < c.fh.length := by simp at h; omega
  obtain ⟨x, hx1, hg⟩ := V1 (l := c.fh) (n := (j : Int)) (by omega) (by omega)
  obtain ⟨k1, k2, k3⟩ := hx x (List.mem_of_getElem? hg)
  obtain ⟨v15, e15, l15⟩ := Ba x.fa1 (by omega)
  obtain ⟨v18, e18, l18⟩ := Zb x.f0 (by omega)
  obtain ⟨v21, e21, l21⟩ := Zb x.fc2 (by omega)
  refine ⟨x, hx1, v15, e15, by omega, x, hx1, v18, e18, by simp; omega, x, hx1, v21, e21, by simp; omega, ?_⟩
  rw [Zs (by omega)]
  exact hX (c.fh.length - (j + 1)) _ (by omega) ⟨j + 1, by simp, by omega, rfl, by simp; omega⟩
theorem AE (c : Qe) : ∃ r, KG c r ∧ r.1.length ≤ 60000 := by
  refine Ao (Post := fun r => r.1.length ≤ 60000) ?_
  unfold Kb
  simp only [jn]
  obtain ⟨v2, e2, ok⟩ := Vq c
  refine ⟨v2, e2, fun _ => by simp, fun h2 => ?_⟩
  obtain ⟨hs, ht, hlo, hl, hx⟩ := ok (by simpa using h2)
  obtain ⟨v3, e3, l3⟩ := Zb c.fg (by omega)
  obtain ⟨v4, e4, l4⟩ := Zb c.fm (by omega)
  obtain ⟨v5, e5, l5⟩ := Zb c.fb3 (by omega)
  obtain ⟨v6, e6, l6⟩ := Wv c.fa
  obtain ⟨v8, e8, l8⟩ := Zb (c.fh.length : Int) (by omega)
  refine ⟨v3, e3, v4, e4, by omega, v5, e5, by simp; omega, v6, e6, by simp; omega, v8, e8, by simp; omega, ?_⟩
  refine Kl (I := fun k s => ∃ j : Nat, s.2 = (j : Int) ∧ j ≤ c.fh.length ∧ k = c.fh.length - j ∧ s.1.length ≤ 37 + 50 * j) ?_ (k := c.fh.length) ⟨0, rfl, by omega, by omega, by simp; omega⟩
  rintro k ⟨a, i⟩ ⟨j, hj, hj1, hk, ha⟩ X hX
  simp only at hj ha ⊢
  subst hj
  refine ⟨fun h => ?_, fun _ => by omega⟩
  have hj2 : j < c.fh.length := by simp at h; omega
  obtain ⟨x, hx1, hg⟩ := V1 (l := c.fh) (n := (j : Int)) (by omega) (by omega)
  obtain ⟨k1, k2, k3⟩ := hx x (List.mem_of_getElem? hg)
  obtain ⟨v15, e15, l15⟩ := Ba x.fa1 (by omega)
  obtain ⟨v18, e18, l18⟩ := Zb x.f0 (by omega)
  refine ⟨x, hx1, v15, e15, by omega, x, hx1, v18, e18, by simp; omega, ?_⟩
  rw [Zs (by omega)]
  exact hX (c.fh.length - (j + 1)) _ (by omega) ⟨j + 1, by simp, by omega, rfl, by simp; omega⟩
theorem Cy (c : Qk) : ∃ r, JA c r ∧ r.1.length ≤ 60000 := by
  refine C8 (Post := fun r => r.1.length ≤ 60000) ?_
  unfold KR
  simp only [jn]
  obtain ⟨v2, e2, ok⟩ := Xy c
  refine ⟨v2, e2, fun _ => by simp, fun h2 => ?_⟩
  obtain ⟨hs, ht, hlo, hl, hx⟩ := ok (by simpa using h2)
  obtain ⟨v3, e3, l3⟩ := Zb c.fg (by omega)
  obtain ⟨v4, e4, l4⟩ := Zb c.fm (by omega)
  obtain ⟨v5, e5, l5⟩ := Zb c.fa9 (by omega)
  obtain ⟨v6, e6, l6⟩ := Wv c.fa
  obtain ⟨v8, e8, l8⟩ := Zb (c.fw.length : Int) (by omega)
  refine ⟨v3, e3, v4, e4, by omega, v5, e5, by simp; omega, v6, e6, by simp; omega, v8, e8, by simp; omega, ?_⟩
  refine Kl (I := fun k s => ∃ j : Nat, s.2 = (j : Int) ∧ j ≤ c.fw.length ∧ k = c.fw.length - j ∧ s.1.length ≤ 37 + 1280 * j) ?_ (k := c.fw.length) ⟨0, rfl, by omega, by omega, by simp; omega⟩
  rintro k ⟨a, i⟩ ⟨j, hj, hj1, hk, ha⟩ X hX
  simp only at hj ha ⊢
  subst hj
  refine ⟨fun h => ?_, fun _ => by omega⟩
  have hj2 : j < c.fw.length := by simp at h; omega
  obtain ⟨x, hx1, hg⟩ := V1 (l := c.fw) (n := (j : Int)) (by omega) (by omega)
  obtain ⟨k1, k2⟩ := hx x (List.mem_of_getElem? hg)
  obtain ⟨v17, e17, l17⟩ := Zb (x.length : Int) (by omega)
  refine ⟨x, hx1, v17, e17, by omega, ?_⟩
  refine Kl (I := fun k s => ∃ m : Nat, s.2 = (m : Int) ∧ m ≤ x.length ∧ k = x.length - m ∧ s.1.length ≤ 37 + 1280 * j + 9 + 41 * m) ?_ (k := x.length) ⟨0, rfl, by omega, by omega, by simp; omega⟩
  rintro kk ⟨b, ii⟩ ⟨m, hm, hm1, hkk, hb⟩ X2 hX2
  simp only at hm hb ⊢
  subst hm
  refine ⟨x, hx1, fun h3 => ?_, fun _ => ?_⟩
  · have hm2 : m < x.length := by simp at h3; omega
    obtain ⟨y, hy1, hg2⟩ := V1 (l := x) (n := (m : Int)) (by omega) (by omega)
    have hy := k2 y (List.mem_of_getElem? hg2)
    obtain ⟨v25, e25, l25⟩ := Ba y (by omega)
    refine ⟨x, hx1, y, hy1, v25, e25, by omega, ?_⟩
    rw [Zs (by omega)]
    exact hX2 (x.length - (m + 1)) _ (by omega) ⟨m + 1, by simp, by omega, rfl, by simp; omega⟩
  · rw [Zs (by omega)]
    exact hX (c.fw.length - (j + 1)) _ (by omega) ⟨j + 1, by simp, by omega, rfl, by simp only; omega⟩
theorem FA (s : Qd) (h : Ik s) : ∃ r, Xn s r ∧ r.1.length ≤ 60100 := by
  refine F8 (Post := fun r => r.1.length ≤ 60100) ?_
  unfold Va
  simp only [jn]
  obtain ⟨v2, e2, hk⟩ := UL s h
  refine ⟨v2, e2, fun _ => by simp, fun h2 => ?_⟩
  have hk := hk (by simpa using h2)
  obtain ⟨v10, e10, l10⟩ := Zb s.fb.fo (by omega)
  have fin : ∀ p : List Int, p.length ≤ 60000 → ∃ (v10 : (List Int)), Z1 (s.fb.fo) v10 ∧ (((v10).length + (p).length) * 1 ≤ 140737488355328) ∧ ∃ (v12 : (List Int) × Int), VC (83) ((v10) ++ (p)) v12 ∧ v12.1.length ≤ 60100 := by
    intro p hp
    obtain ⟨v12, e12, l12⟩ := Di 83 (v10 ++ p)
    exact ⟨v10, e10, by omega, v12, e12, by simp at l12; omega⟩
  obtain ⟨u1, t1, q1⟩ := Cw s.fx
  obtain ⟨u2, t2, q2⟩ := AD s.fc
  obtain ⟨u3, t3, q3⟩ := By s.fy
  obtain ⟨u4, t4, q4⟩ := DY s.fa4
  obtain ⟨u5, t5, q5⟩ := AE s.ff
  obtain ⟨u6, t6, q6⟩ := Cy s.fp
  exact ⟨fun _ => ⟨u1, t1, fin _ q1⟩, fun _ => ⟨fun _ => ⟨u2, t2, fin _ q2⟩, fun _ => ⟨fun _ => ⟨u3, t3, fin _ q3⟩, fun _ => ⟨fun _ => ⟨u4, t4, fin _ q4⟩, fun _ => ⟨fun _ => ⟨u5, t5, fin _ q5⟩, fun _ => ⟨u6, t6, fin _ q6⟩⟩⟩⟩⟩⟩
theorem Gf (s : Qd) (h : Ik s) : ∃ r, Wc s r ∧ r.length ≤ 65536 := by
  obtain ⟨v1, e1, l1⟩ := FA s h
  obtain ⟨v2, e2, l2⟩ := Di 88 v1.1
  exact ⟨_, ⟨v1, e1, v2.1, ⟨v2, e2, rfl⟩, rfl⟩, by omega⟩
theorem XA {x : Qq} (hk : Kp x.fo) (h : ∀ f, f < 14 → if ZZ x.fo f = true then Z4 x f = 0 else Cz (Ux x) f = true) : VG x = 0 := by
  have z : UN (A5 (Ux x).kind (Z4 x)) = 0 := by
    refine Ie fun i hi => ?_
    rw [Fh] at hi
    rw [LI _ _ hi]
    have := h i hi
    show (if ZZ x.fo i = true then Z4 x i else 0) = 0
    split
    · rw [if_pos (by assumption)] at this; exact this
    · rfl
  unfold VG FY
  rw [if_neg (by simpa [Ux] using hk), z, if_neg (by simp), if_pos]
  rw [List.all_eq_true]
  intro f hf
  have := h f (by simpa using hf)
  show (ZZ x.fo f || Cz (Ux x) f) = true
  cases hm : ZZ x.fo f
  · rw [hm] at this; simpa using this
  · rfl
theorem Io : (ByteArray.empty).toList = [] := Yi
theorem vk1 (n : ByteArray) (p : Q6) (hn : D6 n = true) (hp : U4 p.fo p.fg p.fq p.fu = 0) : VG (Qq.mk (1) (n) (ByteArray.empty) ([] : (List ByteArray)) p ([] : (List Qi)) ([] : (List Int)) (0) (0) (0) (0) (0) (0) (Qu.mk (0) (ByteArray.empty) (0) (0) (0)) ([] : (List Int))) = 0 := by
  refine XA (show Kp 1 from ⟨by decide, by decide⟩) fun f hf => ?_
  rcases YL hf with rfl | rfl | rfl | rfl | rfl | rfl | rfl | rfl | rfl | rfl | rfl | rfl | rfl | rfl <;> simp [ZZ, Yh, Z4, Cz, Ux, Cn, Io, hn, hp]
theorem vk2 (n : ByteArray) (hn : D6 n = true) : VG (Qq.mk (2) (n) (ByteArray.empty) ([] : (List ByteArray)) (Q6.mk (0) (0) (0) (0)) ([] : (List Qi)) ([] : (List Int)) (0) (0) (0) (0) (0) (0) (Qu.mk (0) (ByteArray.empty) (0) (0) (0)) ([] : (List Int))) = 0 := by
  refine XA (show Kp 2 from ⟨by decide, by decide⟩) fun f hf => ?_
  rcases YL hf with rfl | rfl | rfl | rfl | rfl | rfl | rfl | rfl | rfl | rfl | rfl | rfl | rfl | rfl <;> simp [ZZ, Yh, Z4, Cz, Ux, Cn, Io, hn]
theorem vk3 (n m : ByteArray) (hn : D6 n = true) (hm : D6 m = true) : VG (Qq.mk (3) (n) (m) ([] : (List ByteArray)) (Q6.mk (0) (0) (0) (0)) ([] : (List Qi)) ([] : (List Int)) (0) (0) (0) (0) (0) (0) (Qu.mk (0) (ByteArray.empty) (0) (0) (0)) ([] : (List Int))) = 0 := by
  refine XA (show Kp 3 from ⟨by decide, by decide⟩) fun f hf => ?_
  rcases YL hf with rfl | rfl | rfl | rfl | rfl | rfl | rfl | rfl | rfl | rfl | rfl | rfl | rfl | rfl <;> simp [ZZ, Yh, Z4, Cz, Ux, Cn, Io, hn, hm]
theorem vk4   : VG (Qq.mk (4) (ByteArray.empty) (ByteArray.empty) ([] : (List ByteArray)) (Q6.mk (0) (0) (0) (0)) ([] : (List Qi)) ([] : (List Int)) (0) (0) (0) (0) (0) (0) (Qu.mk (0) (ByteArray.empty) (0) (0) (0)) ([] : (List Int))) = 0 := by
  refine XA (show Kp 4 from ⟨by decide, by decide⟩) fun f hf => ?_
  rcases YL hf with rfl | rfl | rfl | rfl | rfl | rfl | rfl | rfl | rfl | rfl | rfl | rfl | rfl | rfl <;> simp [ZZ, Yh, Z4, Cz, Ux, Cn, Io]
theorem vk5 (n : ByteArray) (q : Qu) (hn : D6 n = true) (hq : Ay q.fo q.fa1 q.f0 q.fc0 q.fb9 = 0) : VG (Qq.mk (5) (n) (ByteArray.empty) ([] : (List ByteArray)) (Q6.mk (0) (0) (0) (0)) ([] : (List Qi)) ([] : (List Int)) (0) (0) (0) (0) (0) (0) q ([] : (List Int))) = 0 := by
  refine XA (show Kp 5 from ⟨by decide, by decide⟩) fun f hf => ?_
  rcases YL hf with rfl | rfl | rfl | rfl | rfl | rfl | rfl | rfl | rfl | rfl | rfl | rfl | rfl | rfl <;> simp [ZZ, Yh, Z4, Cz, Ux, Cn, Io, hn, hq]
theorem vk6 (n : ByteArray) (its : List Qi) (cs : List Int) (hn : D6 n = true) (hi : Ho its = 0) (hc : Da cs.length 64 = 0) : VG (Qq.mk (6) (n) (ByteArray.empty) ([] : (List ByteArray)) (Q6.mk (0) (0) (0) (0)) its cs (0) (0) (0) (0) (0) (0) (Qu.mk (0) (ByteArray.empty) (0) (0) (0)) ([] : (List Int))) = 0 := by
  refine XA (show Kp 6 from ⟨by decide, by decide⟩) fun f hf => ?_
  rcases YL hf with rfl | rfl | rfl | rfl | rfl | rfl | rfl | rfl | rfl | rfl | rfl | rfl | rfl | rfl <;> simp [ZZ, Yh, Z4, Cz, Ux, Cn, Io, hn, hi, hc]
theorem vk7 (n m : ByteArray) (cs : List Int) (hn : D6 n = true) (hm : D6 m = true) (hc : Da cs.length 64 = 0) : VG (Qq.mk (7) (n) (m) ([] : (List ByteArray)) (Q6.mk (0) (0) (0) (0)) ([] : (List Qi)) cs (0) (0) (0) (0) (0) (0) (Qu.mk (0) (ByteArray.empty) (0) (0) (0)) ([] : (List Int))) = 0 := by
  refine XA (show Kp 7 from ⟨by decide, by decide⟩) fun f hf => ?_
  rcases YL hf with rfl | rfl | rfl | rfl | rfl | rfl | rfl | rfl | rfl | rfl | rfl | rfl | rfl | rfl <;> simp [ZZ, Yh, Z4, Cz, Ux, Cn, Io, hn, hm, hc]
theorem vk8 (n m : ByteArray) (cs : List Int) (e s : Int) (hn : D6 n = true) (hm : D6 m = true) (hc : Da cs.length 64 = 0) (he : Wt e 1 1048576 = 0) (hs : Wt s 1 1048576 = 0) : VG (Qq.mk (8) (n) (m) ([] : (List ByteArray)) (Q6.mk (0) (0) (0) (0)) ([] : (List Qi)) cs e s (0) (0) (0) (0) (Qu.mk (0) (ByteArray.empty) (0) (0) (0)) ([] : (List Int))) = 0 := by
  refine XA (show Kp 8 from ⟨by decide, by decide⟩) fun f hf => ?_
  rcases YL hf with rfl | rfl | rfl | rfl | rfl | rfl | rfl | rfl | rfl | rfl | rfl | rfl | rfl | rfl <;> simp [ZZ, Yh, Z4, Cz, Ux, Cn, Io, hn, hm, hc, he, hs]
theorem vk9 (ns : List ByteArray) (hn : Hn ns = 0) : VG (Qq.mk (9) (ByteArray.empty) (ByteArray.empty) ns (Q6.mk (0) (0) (0) (0)) ([] : (List Qi)) ([] : (List Int)) (0) (0) (0) (0) (0) (0) (Qu.mk (0) (ByteArray.empty) (0) (0) (0)) ([] : (List Int))) = 0 := by
  refine XA (show Kp 9 from ⟨by decide, by decide⟩) fun f hf => ?_
  rcases YL hf with rfl | rfl | rfl | rfl | rfl | rfl | rfl | rfl | rfl | rfl | rfl | rfl | rfl | rfl <;> simp [ZZ, Yh, Z4, Cz, Ux, Cn, Io, hn]
theorem vk10 (h i : Int) (q : Qu) (hh : Wt h 0 3 = 0) (hi : Wt i 0 15 = 0) (hq : Ay q.fo q.fa1 q.f0 q.fc0 q.fb9 = 0) : VG (Qq.mk (10) (ByteArray.empty) (ByteArray.empty) ([] : (List ByteArray)) (Q6.mk (0) (0) (0) (0)) ([] : (List Qi)) ([] : (List Int)) (0) (0) h i (0) (0) q ([] : (List Int))) = 0 := by
  refine XA (show Kp 10 from ⟨by decide, by decide⟩) fun f hf => ?_
  rcases YL hf with rfl | rfl | rfl | rfl | rfl | rfl | rfl | rfl | rfl | rfl | rfl | rfl | rfl | rfl <;> simp [ZZ, Yh, Z4, Cz, Ux, Cn, Io, hh, hi, hq]
theorem vk11 (h : Int) (hh : Wt h 0 3 = 0) : VG (Qq.mk (11) (ByteArray.empty) (ByteArray.empty) ([] : (List ByteArray)) (Q6.mk (0) (0) (0) (0)) ([] : (List Qi)) ([] : (List Int)) (0) (0) h (0) (0) (0) (Qu.mk (0) (ByteArray.empty) (0) (0) (0)) ([] : (List Int))) = 0 := by
  refine XA (show Kp 11 from ⟨by decide, by decide⟩) fun f hf => ?_
  rcases YL hf with rfl | rfl | rfl | rfl | rfl | rfl | rfl | rfl | rfl | rfl | rfl | rfl | rfl | rfl <;> simp [ZZ, Yh, Z4, Cz, Ux, Cn, Io, hh]
theorem vk12 (h i : Int) (hh : Wt h 0 3 = 0) (hi : Wt i 0 15 = 0) : VG (Qq.mk (12) (ByteArray.empty) (ByteArray.empty) ([] : (List ByteArray)) (Q6.mk (0) (0) (0) (0)) ([] : (List Qi)) ([] : (List Int)) (0) (0) h i (0) (0) (Qu.mk (0) (ByteArray.empty) (0) (0) (0)) ([] : (List Int))) = 0 := by
  refine XA (show Kp 12 from ⟨by decide, by decide⟩) fun f hf => ?_
  rcases YL hf with rfl | rfl | rfl | rfl | rfl | rfl | rfl | rfl | rfl | rfl | rfl | rfl | rfl | rfl <;> simp [ZZ, Yh, Z4, Cz, Ux, Cn, Io, hh, hi]
theorem vk13 (c n : Int) (hc : Wt c 0 3 = 0) (hn : Wt n 0 32 = 0) : VG (Qq.mk (13) (ByteArray.empty) (ByteArray.empty) ([] : (List ByteArray)) (Q6.mk (0) (0) (0) (0)) ([] : (List Qi)) ([] : (List Int)) (0) (0) (0) (0) c n (Qu.mk (0) (ByteArray.empty) (0) (0) (0)) ([] : (List Int))) = 0 := by
  refine XA (show Kp 13 from ⟨by decide, by decide⟩) fun f hf => ?_
  rcases YL hf with rfl | rfl | rfl | rfl | rfl | rfl | rfl | rfl | rfl | rfl | rfl | rfl | rfl | rfl <;> simp [ZZ, Yh, Z4, Cz, Ux, Cn, Io, hc, hn]
theorem vk14 (c : Int) (hc : Wt c 0 3 = 0) : VG (Qq.mk (14) (ByteArray.empty) (ByteArray.empty) ([] : (List ByteArray)) (Q6.mk (0) (0) (0) (0)) ([] : (List Qi)) ([] : (List Int)) (0) (0) (0) (0) c (0) (Qu.mk (0) (ByteArray.empty) (0) (0) (0)) ([] : (List Int))) = 0 := by
  refine XA (show Kp 14 from ⟨by decide, by decide⟩) fun f hf => ?_
  rcases YL hf with rfl | rfl | rfl | rfl | rfl | rfl | rfl | rfl | rfl | rfl | rfl | rfl | rfl | rfl <;> simp [ZZ, Yh, Z4, Cz, Ux, Cn, Io, hc]
theorem vk15 (h i : Int) (hh : Wt h 0 3 = 0) (hi : Wt i 0 15 = 0) : VG (Qq.mk (15) (ByteArray.empty) (ByteArray.empty) ([] : (List ByteArray)) (Q6.mk (0) (0) (0) (0)) ([] : (List Qi)) ([] : (List Int)) (0) (0) h i (0) (0) (Qu.mk (0) (ByteArray.empty) (0) (0) (0)) ([] : (List Int))) = 0 := by
  refine XA (show Kp 15 from ⟨by decide, by decide⟩) fun f hf => ?_
  rcases YL hf with rfl | rfl | rfl | rfl | rfl | rfl | rfl | rfl | rfl | rfl | rfl | rfl | rfl | rfl <;> simp [ZZ, Yh, Z4, Cz, Ux, Cn, Io, hh, hi]
theorem vk16 (n : ByteArray) (d : List Int) (hn : D6 n = true) (hd : Da d.length 65536 = 0) : VG (Qq.mk (16) (n) (ByteArray.empty) ([] : (List ByteArray)) (Q6.mk (0) (0) (0) (0)) ([] : (List Qi)) ([] : (List Int)) (0) (0) (0) (0) (0) (0) (Qu.mk (0) (ByteArray.empty) (0) (0) (0)) d) = 0 := by
  refine XA (show Kp 16 from ⟨by decide, by decide⟩) fun f hf => ?_
  rcases YL hf with rfl | rfl | rfl | rfl | rfl | rfl | rfl | rfl | rfl | rfl | rfl | rfl | rfl | rfl <;> simp [ZZ, Yh, Z4, Cz, Ux, Cn, Io, hn, hd]
theorem vk17   : VG (Qq.mk (17) (ByteArray.empty) (ByteArray.empty) ([] : (List ByteArray)) (Q6.mk (0) (0) (0) (0)) ([] : (List Qi)) ([] : (List Int)) (0) (0) (0) (0) (0) (0) (Qu.mk (0) (ByteArray.empty) (0) (0) (0)) ([] : (List Int))) = 0 := by
  refine XA (show Kp 17 from ⟨by decide, by decide⟩) fun f hf => ?_
  rcases YL hf with rfl | rfl | rfl | rfl | rfl | rfl | rfl | rfl | rfl | rfl | rfl | rfl | rfl | rfl <;> simp [ZZ, Yh, Z4, Cz, Ux, Cn, Io]
theorem sho0 {n : Nat} {m : Int} (h : (n : Int) ≤ m) : Da n m = 0 := by unfold Da; rw [if_neg (by omega)]
theorem Ex {n a b : Int} (h : a ≤ n ∧ n ≤ b) : Wt n a b = 0 := by unfold Wt; rw [if_pos h]
theorem il0 {l : List Qi} (h : 1 ≤ l.length ∧ l.length ≤ 64) (h2 : ∀ x ∈ l, Fq x = 0) : Ho l = 0 := by
  unfold Ho; rw [if_neg (by simpa using h)]
  exact Fs fun j x hx => h2 x (List.mem_of_getElem? hx)
theorem nl0 {l : List ByteArray} (h : 1 ≤ l.length ∧ l.length ≤ 16) (h2 : ∀ x ∈ l, D6 x = true) : Hn l = 0 := by
  unfold Hn; rw [if_neg (by simpa using h)]
  exact Fs fun j x hx => by unfold Cn; rw [if_pos (h2 x (List.mem_of_getElem? hx))]
def EG (m : Nat) (x : Qq) : Prop := x.fa2.length ≤ m ∧ x.f8.length ≤ m ∧ x.fb5.length ≤ m ∧ x.fb4.length ≤ m ∧ 0 ≤ x.fb.fu ∧ x.fb.fu ≤ 18446744073709551615
theorem Mo (l : List Int) (i : Int) (hl : l.length ≤ 4611686018427387904) (h0 : 0 ≤ i) (h1 : i ≤ 900) (Q : Qq → Prop) (hQ : ∀ x, VG x = 0 → EG 65536 x → Q x) : W3 l i Q := by
  unfold W3
  obtain ⟨v1, e1, a1, b1⟩ := WN l i hl h0 (by omega)
  obtain ⟨v2, e2, a2, b2⟩ := WN l (IntKind.i64.wrap (i + 7)) hl (by rw [Zs (by omega)]; omega) (by rw [Zs (by omega)]; omega)
  refine ⟨v1, e1, v2, e2, ?_⟩
  simp only [jn, bA1, bA3, bA7]
  rw [VN a1]
  have hk0 : 0 ≤ v1 % 20 ∧ v1 % 20 ≤ 19 := by omega
  obtain ⟨s5, es5, hs5⟩ := Ui (QT .i64 v1 5)
  obtain ⟨s6, es6, hs6⟩ := Ui (QT .i64 v1 6)
  obtain ⟨s7, es7, hs7⟩ := Ui (QT .i64 v1 7)
  obtain ⟨s8, es8, hs8⟩ := Ui (QT .i64 v1 8)
  obtain ⟨p, ep, gp⟩ := BP v2
  have hp := Mn gp
  obtain ⟨q, eq, hq⟩ := Ha v2
  obtain ⟨c, ec, hc⟩ := De v2
  have hc0 : Da c.length 64 = 0 := sho0 (by omega)
  have i5 : i.tmod 5 = i % 5 := VN h0
  have i7 : i.tmod 7 = i % 7 := VN h0
  have m5 : 0 ≤ XW (l.length : Int) (i % 5) ∧ XW (l.length : Int) (i % 5) ≤ l.length := by unfold XW; split <;> omega
  have m7 : 0 ≤ XW (l.length : Int) (i % 7) ∧ XW (l.length : Int) (i % 7) ≤ l.length := by unfold XW; split <;> omega
  rw [i5, i7]
  generalize v1 % 20 = k at hk0 ⊢
  generalize QT .i64 v1 5 = t5 at *
  generalize QT .i64 v1 6 = t6 at *
  generalize QT .i64 v1 7 = t7 at *
  generalize QT .i64 v1 8 = t8 at *
  generalize QT .i64 v1 10 = t10
  generalize QT .i64 v1 11 = t11
  generalize QT .i64 v2 3 = u3
  have hks : k = 0 ∨ k = 1 ∨ k = 2 ∨ k = 3 ∨ k = 4 ∨ k = 5 ∨ k = 6 ∨ k = 7 ∨ k = 8 ∨ k = 9 ∨ k = 10 ∨ k = 11 ∨ k = 12 ∨ k = 13 ∨ k = 14 ∨ k = 15 ∨ k = 16 ∨ k = 17 ∨ k = 18 ∨ k = 19 := by omega
  have z0 : EG 65536 (Qq.mk 17 .empty .empty [] ⟨0, 0, 0, 0⟩ [] [] 0 0 0 0 0 0 ⟨0, .empty, 0, 0, 0⟩ []) := by simp [EG]
  have c1 : Q (Qq.mk 1 s5 .empty [] p [] [] 0 0 0 0 0 0 ⟨0, .empty, 0, 0, 0⟩ []) := hQ _ (vk1 _ _ hs5 hp) (by have hps : 0 ≤ p.fu ∧ p.fu ≤ 3 := (by unfold G8 at gp; omega); simp [EG]; omega)
  have c6 : ∃ v15, Vy (List.drop (Int.toNat (XW (l.length : Int) (i % 5))) l) (IntKind.i64.wrap (1 + t7 % 8)) v15 ∧ Q (Qq.mk 6 s5 .empty [] ⟨0, 0, 0, 0⟩ v15 c 0 0 0 0 0 0 ⟨0, .empty, 0, 0, 0⟩ []) := by
    rw [Zs (by omega)]
    obtain ⟨v15, e15, l15, o15⟩ := Dd (List.drop (Int.toNat (XW (l.length : Int) (i % 5))) l) (1 + t7 % 8) (by simp; omega) (by omega) (by omega)
    exact ⟨v15, e15, hQ _ (vk6 _ _ _ hs5 (il0 (by omega) o15) hc0) (by simp [EG]; omega)⟩
  obtain ⟨v15, e15, c6⟩ := c6
  have c9 : (0 ≤ IntKind.i64.wrap (IntKind.i64.wrap (1 + t10 % 2) + t11 % 2) ∧ IntKind.i64.wrap (IntKind.i64.wrap (1 + t10 % 2) + t11 % 2) ≤ 3) ∧ Q (Qq.mk 9 .empty .empty (List.take (Int.toNat (IntKind.i64.wrap (IntKind.i64.wrap (1 + t10 % 2) + t11 % 2))) [s5, s7, s8]) ⟨0, 0, 0, 0⟩ [] [] 0 0 0 0 0 0 ⟨0, .empty, 0, 0, 0⟩ []) := by
    have w : IntKind.i64.wrap (IntKind.i64.wrap (1 + t10 % 2) + t11 % 2) = 1 + t10 % 2 + t11 % 2 := by rw [Zs (n := 1 + t10 % 2) (by omega), Zs (by omega)]
    rw [w]
    refine ⟨by omega, hQ _ (vk9 _ (nl0 (by simp; omega) fun x hx => ?_)) (by simp [EG]; omega)⟩
    have := List.mem_of_mem_take hx
    simp at this
    rcases this with rfl | rfl | rfl <;> assumption
  obtain ⟨sk, esk, zsk⟩ := Ge (List.drop (Int.toNat (XW (l.length : Int) (i % 7))) l) (by simp; omega)
  obtain ⟨ex, eex, lex⟩ := Gf sk zsk
  rcases hks with rfl | rfl | rfl | rfl | rfl | rfl | rfl | rfl | rfl | rfl | rfl | rfl | rfl | rfl | rfl | rfl | rfl | rfl | rfl | rfl
  · exact ⟨fun _ => ⟨fun _ => ⟨s5, es5, p, ep, c1⟩, fun h => by simp at h⟩, fun h => by simp at h⟩
  · exact ⟨fun h => by simp at h, fun _ => ⟨fun _ => ⟨s5, es5, p, ep, c1⟩, fun h => by simp at h⟩⟩
  · exact ⟨fun h => by simp at h, fun _ => ⟨fun h => by simp at h, fun _ => ⟨fun _ => ⟨s5, es5, hQ _ (vk2 _ hs5) (by simp [EG])⟩, fun h => by simp at h⟩⟩⟩
  · exact ⟨fun h => by simp at h, fun _ => ⟨fun h => by simp at h, fun _ => ⟨fun h => by simp at h, fun _ => ⟨fun _ => ⟨s5, es5, s7, es7, hQ _ (vk3 _ _ hs5 hs7) (by simp [EG])⟩, fun h => by simp at h⟩⟩⟩⟩
  · exact ⟨fun h => by simp at h, fun _ => ⟨fun h => by simp at h, fun _ => ⟨fun h => by simp at h, fun _ => ⟨fun h => by simp at h, fun _ => ⟨fun _ => hQ _ vk4 (by simp [EG]), fun h => by simp at h⟩⟩⟩⟩⟩
  · exact ⟨fun h => by simp at h, fun _ => ⟨fun h => by simp at h, fun _ => ⟨fun h => by simp at h, fun _ => ⟨fun h => by simp at h, fun _ => ⟨fun h => by simp at h, fun _ => ⟨fun _ => ⟨s5, es5, q, eq, hQ _ (vk5 _ _ hs5 hq) (by simp [EG])⟩, fun h => by simp at h⟩⟩⟩⟩⟩⟩
  · exact ⟨fun h => by simp at h, fun _ => ⟨fun h => by simp at h, fun _ => ⟨fun h => by simp at h, fun _ => ⟨fun h => by simp at h, fun _ => ⟨fun h => by simp at h, fun _ => ⟨fun h => by simp at h, fun _ => ⟨fun _ => ⟨fun _ => ⟨s5, es5, m5, v15, e15, c, ec, c6⟩, fun h => by simp at h⟩, fun h => by simp at h⟩⟩⟩⟩⟩⟩⟩
  · exact ⟨fun h => by simp at h, fun _ => ⟨fun h => by simp at h, fun _ => ⟨fun h => by simp at h, fun _ => ⟨fun h => by simp at h, fun _ => ⟨fun h => by simp at h, fun _ => ⟨fun h => by simp at h, fun _ => ⟨fun h => by simp at h, fun _ => ⟨fun _ => ⟨fun _ => ⟨s5, es5, m5, v15, e15, c, ec, c6⟩, fun h => by simp at h⟩, fun h => by simp at h⟩⟩⟩⟩⟩⟩⟩⟩
  · exact ⟨fun h => by simp at h, fun _ => ⟨fun h => by simp at h, fun _ => ⟨fun h => by simp at h, fun _ => ⟨fun h => by simp at h, fun _ => ⟨fun h => by simp at h, fun _ => ⟨fun h => by simp at h, fun _ => ⟨fun h => by simp at h, fun _ => ⟨fun h => by simp at h, fun _ => ⟨fun _ => ⟨s5, es5, m5, v15, e15, c, ec, c6⟩, fun h => by simp at h⟩⟩⟩⟩⟩⟩⟩⟩⟩
  · exact ⟨fun h => by simp at h, fun _ => ⟨fun h => by simp at h, fun _ => ⟨fun h => by simp at h, fun _ => ⟨fun h => by simp at h, fun _ => ⟨fun h => by simp at h, fun _ => ⟨fun h => by simp at h, fun _ => ⟨fun h => by simp at h, fun _ => ⟨fun h => by simp at h, fun _ => ⟨fun h => by simp at h, fun _ => ⟨fun _ => ⟨s5, es5, s7, es7, c, ec, hQ _ (vk7 _ _ _ hs5 hs7 hc0) (by simp [EG]; omega)⟩, fun h => by simp at h⟩⟩⟩⟩⟩⟩⟩⟩⟩⟩
  · exact ⟨fun h => by simp at h, fun _ => ⟨fun h => by simp at h, fun _ => ⟨fun h => by simp at h, fun _ => ⟨fun h => by simp at h, fun _ => ⟨fun h => by simp at h, fun _ => ⟨fun h => by simp at h, fun _ => ⟨fun h => by simp at h, fun _ => ⟨fun h => by simp at h, fun _ => ⟨fun h => by simp at h, fun _ => ⟨fun h => by simp at h, fun _ => ⟨fun _ => ⟨s5, es5, s7, es7, c, ec, hQ _ (vk8 _ _ _ _ _ hs5 hs7 hc0 (Ex (by rw [Zs (by omega)]; omega)) (Ex (by rw [Zs (by omega)]; omega))) (by simp [EG]; omega)⟩, fun h => by simp at h⟩⟩⟩⟩⟩⟩⟩⟩⟩⟩⟩
  · exact ⟨fun h => by simp at h, fun _ => ⟨fun h => by simp at h, fun _ => ⟨fun h => by simp at h, fun _ => ⟨fun h => by simp at h, fun _ => ⟨fun h => by simp at h, fun _ => ⟨fun h => by simp at h, fun _ => ⟨fun h => by simp at h, fun _ => ⟨fun h => by simp at h, fun _ => ⟨fun h => by simp at h, fun _ => ⟨fun h => by simp at h, fun _ => ⟨fun h => by simp at h, fun _ => ⟨fun _ => ⟨fun _ => ⟨s5, es5, s7, es7, s8, es8, c9.1, c9.2⟩, fun h => by simp at h⟩, fun h => by simp at h⟩⟩⟩⟩⟩⟩⟩⟩⟩⟩⟩⟩
  · exact ⟨fun h => by simp at h, fun _ => ⟨fun h => by simp at h, fun _ => ⟨fun h => by simp at h, fun _ => ⟨fun h => by simp at h, fun _ => ⟨fun h => by simp at h, fun _ => ⟨fun h => by simp at h, fun _ => ⟨fun h => by simp at h, fun _ => ⟨fun h => by simp at h, fun _ => ⟨fun h => by simp at h, fun _ => ⟨fun h => by simp at h, fun _ => ⟨fun h => by simp at h, fun _ => ⟨fun h => by simp at h, fun _ => ⟨fun _ => ⟨s5, es5, s7, es7, s8, es8, c9.1, c9.2⟩, fun h => by simp at h⟩⟩⟩⟩⟩⟩⟩⟩⟩⟩⟩⟩⟩
  · exact ⟨fun h => by simp at h, fun _ => ⟨fun h => by simp at h, fun _ => ⟨fun h => by simp at h, fun _ => ⟨fun h => by simp at h, fun _ => ⟨fun h => by simp at h, fun _ => ⟨fun h => by simp at h, fun _ => ⟨fun h => by simp at h, fun _ => ⟨fun h => by simp at h, fun _ => ⟨fun h => by simp at h, fun _ => ⟨fun h => by simp at h, fun _ => ⟨fun h => by simp at h, fun _ => ⟨fun h => by simp at h, fun _ => ⟨fun h => by simp at h, fun _ => ⟨fun _ => ⟨q, eq, hQ _ (vk10 _ _ _ (Ex (by omega)) (Ex (by omega)) hq) (by simp [EG])⟩, fun h => by simp at h⟩⟩⟩⟩⟩⟩⟩⟩⟩⟩⟩⟩⟩⟩
  · exact ⟨fun h => by simp at h, fun _ => ⟨fun h => by simp at h, fun _ => ⟨fun h => by simp at h, fun _ => ⟨fun h => by simp at h, fun _ => ⟨fun h => by simp at h, fun _ => ⟨fun h => by simp at h, fun _ => ⟨fun h => by simp at h, fun _ => ⟨fun h => by simp at h, fun _ => ⟨fun h => by simp at h, fun _ => ⟨fun h => by simp at h, fun _ => ⟨fun h => by simp at h, fun _ => ⟨fun h => by simp at h, fun _ => ⟨fun h => by simp at h, fun _ => ⟨fun h => by simp at h, fun _ => ⟨fun _ => hQ _ (vk11 _ (Ex (by omega))) (by simp [EG]), fun h => by simp at h⟩⟩⟩⟩⟩⟩⟩⟩⟩⟩⟩⟩⟩⟩⟩
  · exact ⟨fun h => by simp at h, fun _ => ⟨fun h => by simp at h, fun _ => ⟨fun h => by simp at h, fun _ => ⟨fun h => by simp at h, fun _ => ⟨fun h => by simp at h, fun _ => ⟨fun h => by simp at h, fun _ => ⟨fun h => by simp at h, fun _ => ⟨fun h => by simp at h, fun _ => ⟨fun h => by simp at h, fun _ => ⟨fun h => by simp at h, fun _ => ⟨fun h => by simp at h, fun _ => ⟨fun h => by simp at h, fun _ => ⟨fun h => by simp at h, fun _ => ⟨fun h => by simp at h, fun _ => ⟨fun h => by simp at h, fun _ => ⟨fun _ => hQ _ (vk12 _ _ (Ex (by omega)) (Ex (by omega))) (by simp [EG]), fun h => by simp at h⟩⟩⟩⟩⟩⟩⟩⟩⟩⟩⟩⟩⟩⟩⟩⟩
  · exact ⟨fun h => by simp at h, fun _ => ⟨fun h => by simp at h, fun _ => ⟨fun h => by simp at h, fun _ => ⟨fun h => by simp at h, fun _ => ⟨fun h => by simp at h, fun _ => ⟨fun h => by simp at h, fun _ => ⟨fun h => by simp at h, fun _ => ⟨fun h => by simp at h, fun _ => ⟨fun h => by simp at h, fun _ => ⟨fun h => by simp at h, fun _ => ⟨fun h => by simp at h, fun _ => ⟨fun h => by simp at h, fun _ => ⟨fun h => by simp at h, fun _ => ⟨fun h => by simp at h, fun _ => ⟨fun h => by simp at h, fun _ => ⟨fun h => by simp at h, fun _ => ⟨fun _ => hQ _ (vk13 _ _ (Ex (by omega)) (Ex (by omega))) (by simp [EG]), fun h => by simp at h⟩⟩⟩⟩⟩⟩⟩⟩⟩⟩⟩⟩⟩⟩⟩⟩⟩
  · exact ⟨fun h => by simp at h, fun _ => ⟨fun h => by simp at h, fun _ => ⟨fun h => by simp at h, fun _ => ⟨fun h => by simp at h, fun _ => ⟨fun h => by simp at h, fun _ => ⟨fun h => by simp at h, fun _ => ⟨fun h => by simp at h, fun _ => ⟨fun h => by simp at h, fun _ => ⟨fun h => by simp at h, fun _ => ⟨fun h => by simp at h, fun _ => ⟨fun h => by simp at h, fun _ => ⟨fun h => by simp at h, fun _ => ⟨fun h => by simp at h, fun _ => ⟨fun h => by simp at h, fun _ => ⟨fun h => by simp at h, fun _ => ⟨fun h => by simp at h, fun _ => ⟨fun h => by simp at h, fun _ => ⟨fun _ => hQ _ (vk14 _ (Ex (by omega))) (by simp [EG]), fun h => by simp at h⟩⟩⟩⟩⟩⟩⟩⟩⟩⟩⟩⟩⟩⟩⟩⟩⟩⟩
  · exact ⟨fun h => by simp at h, fun _ => ⟨fun h => by simp at h, fun _ => ⟨fun h => by simp at h, fun _ => ⟨fun h => by simp at h, fun _ => ⟨fun h => by simp at h, fun _ => ⟨fun h => by simp at h, fun _ => ⟨fun h => by simp at h, fun _ => ⟨fun h => by simp at h, fun _ => ⟨fun h => by simp at h, fun _ => ⟨fun h => by simp at h, fun _ => ⟨fun h => by simp at h, fun _ => ⟨fun h => by simp at h, fun _ => ⟨fun h => by simp at h, fun _ => ⟨fun h => by simp at h, fun _ => ⟨fun h => by simp at h, fun _ => ⟨fun h => by simp at h, fun _ => ⟨fun h => by simp at h, fun _ => ⟨fun h => by simp at h, fun _ => ⟨fun _ => ⟨fun _ => hQ _ (vk15 _ _ (Ex (by omega)) (Ex (by omega))) (by simp [EG]), fun _ => ⟨s6, es6, m7, sk, esk, ex, eex, hQ _ (vk16 _ _ hs6 (sho0 (by omega))) (by simp [EG]; omega)⟩⟩, fun h => by simp at h⟩⟩⟩⟩⟩⟩⟩⟩⟩⟩⟩⟩⟩⟩⟩⟩⟩⟩⟩
  · exact ⟨fun h => by simp at h, fun _ => ⟨fun h => by simp at h, fun _ => ⟨fun h => by simp at h, fun _ => ⟨fun h => by simp at h, fun _ => ⟨fun h => by simp at h, fun _ => ⟨fun h => by simp at h, fun _ => ⟨fun h => by simp at h, fun _ => ⟨fun h => by simp at h, fun _ => ⟨fun h => by simp at h, fun _ => ⟨fun h => by simp at h, fun _ => ⟨fun h => by simp at h, fun _ => ⟨fun h => by simp at h, fun _ => ⟨fun h => by simp at h, fun _ => ⟨fun h => by simp at h, fun _ => ⟨fun h => by simp at h, fun _ => ⟨fun h => by simp at h, fun _ => ⟨fun h => by simp at h, fun _ => ⟨fun h => by simp at h, fun _ => ⟨fun h => by simp at h, fun _ => hQ _ vk17 z0⟩⟩⟩⟩⟩⟩⟩⟩⟩⟩⟩⟩⟩⟩⟩⟩⟩⟩⟩
theorem Mp (l : List Int) (i : Int) (hl : l.length ≤ 4611686018427387904) (h0 : 0 ≤ i) (h1 : i ≤ 900) : ∃ x, UF l i x ∧ VG x = 0 ∧ EG 65536 x :=
  Mg (Post := fun x => VG x = 0 ∧ EG 65536 x) (Mo l i hl h0 h1 _ fun x h1 h2 => ⟨h1, h2⟩)
def NE : Qy := (Dk (.bool false) (.bool false)).fk
def OK : Qq := (Dk (.bool false) (.bool false)).fOp
def OL (x : Qg) (o : Qq) (i : Int) : Qg := Qg.mk true o NE i x.f5 x.fa0
def R2 (x : Qg) : Qg := Qg.mk false OK NE 0 x.f5 x.fa0
section
variable {ts : List Qg} {k i : Int} {x : Qg} {o : Qq}
theorem R3 (h0 : 0 ≤ k) (hx : ts[k.toNat]? = some x) (hl : ts.length ≤ 64) (hv : VG o = 0) : ∃ r, KM ts k o i r ∧ ((r.1 = [] ∧ r.2 = 12) ∨ r = (ts.set k.toNat (OL x o i), 0)) := by
  have hk : k.toNat < ts.length := (List.getElem?_eq_some_iff.1 hx).1
  have c1 : (bif decide (k < 0) then true else decide (k ≥ (ts.length : Int))) = false := by
    have e1 : decide (k < 0) = false := by simp; omega
    have e2 : decide (k ≥ (ts.length : Int)) = false := by simp; omega
    rw [e1, e2]; rfl
  cases hb : x.fb1 with
  | true =>
    refine ⟨([], 12), ?_, .inl ⟨rfl, rfl⟩⟩
    unfold KM JL
    rw [c1]
    refine ⟨fun h => (by cases h), fun _ => ⟨VG o, UK o, fun h => by simp [hv] at h, fun _ => ⟨x, ⟨h0, hx⟩, fun _ => rfl, fun h => by simp [hb] at h⟩⟩⟩
  | false =>
    refine ⟨(ts.set k.toNat (OL x o i), 0), ?_, .inr rfl⟩
    unfold KM JL
    rw [c1]
    refine ⟨fun h => (by cases h), fun _ => ⟨VG o, UK o, fun h => by simp [hv] at h, fun _ => ⟨x, ⟨h0, hx⟩, fun h => by simp [hb] at h, fun _ => ⟨by omega, x, ⟨h0, hx⟩, ?_⟩⟩⟩⟩
    simp only [List.set_set]
    rfl
theorem R4 (h0 : 0 ≤ k) (hx : ts[k.toNat]? = some x) (hl : ts.length ≤ 64) (hb : x.fb1 = true) : V5 ts k (ts.set k.toNat (R2 x), 0) := by
  have hk : k.toNat < ts.length := (List.getElem?_eq_some_iff.1 hx).1
  have c1 : (bif decide (k < 0) then true else decide (k ≥ (ts.length : Int))) = false := by
    have e1 : decide (k < 0) = false := by simp; omega
    have e2 : decide (k ≥ (ts.length : Int)) = false := by simp; omega
    rw [e1, e2]; rfl
  unfold V5 XS
  rw [c1]
  refine ⟨fun h => (by cases h), fun _ => ⟨x, ⟨h0, hx⟩, fun h => by simp [hb] at h, fun _ => ⟨by omega, x, ⟨h0, hx⟩, ?_⟩⟩⟩
  simp only [List.set_set]
  rfl
def Lh (ts : List Qg) : Prop := ∀ x ∈ ts, OC x.fOp ∧ P0 x.fk
theorem LS : P0 NE := by simp [P0, SmK, NE, Dk]
theorem NF : OC OK := by simp [OC, OK, Dk]
theorem sm_of (h : EG 65536 o) : OC o := by
  obtain ⟨h1, h2, h3, h4, _⟩ := h
  exact ⟨by omega, by omega, by omega, by omega⟩
theorem Lh.set {n : Nat} {y : Qg} (h : Lh ts) (hy : OC y.fOp ∧ P0 y.fk) : Lh (ts.set n y) := by
  intro z hz
  rcases List.mem_or_eq_of_mem_set hz with h1 | rfl
  · exact h z h1
  · exact hy
def BQ (ts ts' : List Qg) : Prop := ts'.length = ts.length ∧ ∀ (k : Nat) x', ts'[k]? = some x' → ∃ x, ts[k]? = some x ∧ x'.f5 = x.f5 ∧ x'.fa0 = x.fa0
theorem BQ.refl (ts : List Qg) : BQ ts ts := ⟨rfl, fun k x h => ⟨x, h, rfl, rfl⟩⟩
theorem BQ.set {n : Nat} {y : Qg} (hx : ts[n]? = some x) (h1 : y.f5 = x.f5) (h2 : y.fa0 = x.fa0) : BQ ts (ts.set n y) := by
  refine ⟨by simp, fun k x' h => ?_⟩
  rw [List.getElem?_set] at h
  by_cases e : n = k
  · rw [if_pos e] at h
    split at h
    · cases h; subst e; exact ⟨x, hx, h1, h2⟩
    · cases h
  · rw [if_neg e] at h
    exact ⟨x', h, rfl, rfl⟩
theorem JI.same {w0 : World} {A0 : Nat → Prop} {N : Nat} {st : St} {ts' : List Qg} {gs : List (Nat × Nat)} {a : Act} {w : World} (hj : JI w0 A0 N st ts gs a w) (hs : BQ ts ts') : JI w0 A0 N st ts' gs a w := by
  obtain ⟨E, cx, hr, hi, hf⟩ := hj
  refine ⟨E, cx, hr, ⟨by rw [hi.len, hs.1], fun k x' g hx hg => ?_, hi.nd, hi.off⟩, hf⟩
  obtain ⟨x, h1, h2, h3⟩ := hs.2 k x' hx
  obtain ⟨⟨c, S, e1, l1, m1, n1, d1, r1⟩, c2, C, e2, l2, m2, n2, r2⟩ := hi.els k x g h1 hg
  exact ⟨⟨c, S, h2.trans e1, l1, m1, n1, d1, r1⟩, c2, C, h3.trans e2, l2, m2, n2, r2⟩
end
set_option maxRecDepth 100000
set_option maxHeartbeats 4000000
section
variable {E : En} {N : Nat} {P : Program} {ops : Array Oper} {Q : Exit → Act → World → Prop} {st : St} {cx : Cx} {a : Act} {w w' w0 : World} {A0 : Nat → Prop} {ts : List Qg} {gs : List (Nat × Nat)}
theorem Hh {c : Code} {Q : Exit → St → Prop} (h : ∀ E, AW E N P c (fun e s => ∃ s', QC s s' ∧ Q e s') st) (hj : JI w0 A0 N st ts gs a w) (hm : st.mu = true) : c.wp P (fun e a' w' => ∃ s', Q e s' ∧ JI w0 A0 N s' ts gs a' w') a w :=
  Ii (fun E => A9 (h E) fun e s ⟨s', h1, h2⟩ => ⟨s', h1, h2⟩) hj hm
theorem DZ {x y : Code} {Q : Exit → Act → World → Prop} {st' : St} (h : ∀ E, AW E N P x (fun e s => e = .normal ∧ QC s st') st) (hj : JI w0 A0 N st ts gs a w) (hm : st.mu = true) (k : ∀ a' w', JI w0 A0 N st' ts gs a' w' → y.wp P Q a' w') : (Code.seq x y).wp P Q a w :=
  DU (fun E => A9 (h E) fun e s ⟨h1, h2⟩ => ⟨st', h2, h1, rfl⟩) hj hm k
theorem NG {c : Operand} {y : Value} (hr : ZY E N cx st a w) (hb : st.ev c = .c (.p (.v y))) (hc : Zr c = true) : a.eval c = y := by
  have := hr.ev hc
  rw [hb] at this
  have h2 := this.2
  revert h2
  generalize a.eval c = z
  intro h2
  cases h2 with | v _ _ => rfl
theorem Ip {i d ty : Nat} {f : FuncId} {xs : Array Operand} {tys : Array TypeId} {pos : String} {af : Array Edge} {K : Act → World → Prop} {R : Ending → World → Prop} (ho : ops[i]? = some ⟨some d, .call { callee := .value (.func f), args := xs, argTypes := tys }, ty, pos, af, none⟩) (he : M6 P f = true) (hc : Calls P f (xs.map a.eval) w R)
    (k : ∀ e w', R e w' → ∃ v, e = .returned v ∧ K (a.put (some d) v) w') : wpOp P ops Q i K a w := by
  unfold wpOp
  rw [ho]
  simp only
  have hw : Region.wanted (⟨some d, .call { callee := .value (.func f), args := xs, argTypes := tys }, ty, pos, af, none⟩ : Oper) (yielded ops a.tmps) = true := rfl
  rw [if_pos hw]
  refine .inl ?_
  unfold Oper.wp
  rw [EY he, Oper.upon_enter]
  refine hc.mono ?_
  rintro e w' hR
  obtain ⟨v, rfl, hk⟩ := k e w' hR
  exact hk
def NH (fr : List (Nat × TV)) : Prop := ∀ x ∈ fr, ∃ p, x.2 = .c (.p p)
theorem OM {fr : List (Nat × TV)} {v : Value} {d : Nat} (hr : ZY E N cx ⟨fr, []⟩ a w) (hp : NH fr) (hd : d < N) (hnd : ∀ x ∈ fr, x.1 ≠ d) (hn : PX w cx.A w' v ts) (hf : Fr w0 A0 w cx ⟨fr, []⟩) :
    ∃ gs cx', ZY ⟨w', cx'.A, Own cx' ⟨(d, .tup [.c (.sl (5, 1000) 0 (Xw ts)), .c (.p (.v (.int .i64 0)))]) :: fr, [((5, 1000), some (Y7 ts))]⟩, cx'.ι⟩ N cx' ⟨(d, .tup [.c (.sl (5, 1000) 0 (Xw ts)), .c (.p (.v (.int .i64 0)))]) :: fr, [((5, 1000), some (Y7 ts))]⟩ (a.put (some d) (.tuple #[v, .int .i64 0])) w' ∧
      DT w' cx'.A (Own cx' ⟨(d, .tup [.c (.sl (5, 1000) 0 (Xw ts)), .c (.p (.v (.int .i64 0)))]) :: fr, [((5, 1000), some (Y7 ts))]⟩) (fun x => w0.heap.size ≤ x) ts gs ∧ Fr w0 A0 w' cx' ⟨(d, .tup [.c (.sl (5, 1000) 0 (Xw ts)), .c (.p (.v (.int .i64 0)))]) :: fr, [((5, 1000), some (Y7 ts))]⟩ := by
  obtain ⟨A, g, c, gs, rfl, l1, m1, r1, nA, ⟨cc, el, hcc, hcs⟩, hisl, hlo, hsz, hkept, hA1, hA2, hos, htp, hou⟩ := hn
  have hh : ∀ b', (⟨(d, .tup [.c (.sl (5, 1000) 0 (Xw ts)), .c (.p (.v (.int .i64 0)))]) :: fr, [((5, 1000), some (Y7 ts))]⟩ : St).h b' = if b' = (5, 1000) then some (Y7 ts) else none := by
    intro b'
    rw [BY]
    rfl
  have hg : ∀ s, (⟨(d, .tup [.c (.sl (5, 1000) 0 (Xw ts)), .c (.p (.v (.int .i64 0)))]) :: fr, [((5, 1000), some (Y7 ts))]⟩ : St).g s = if s = d then .tup [.c (.sl (5, 1000) 0 (Xw ts)), .c (.p (.v (.int .i64 0)))] else (⟨fr, []⟩ : St).g s := by
    intro s
    rw [IR]
    rfl
  let cx' : Cx := ⟨fun b => if b = (5, 1000) then some (g, 0) else none, A⟩
  have hown : ∀ x, Own cx' ⟨(d, .tup [.c (.sl (5, 1000) 0 (Xw ts)), .c (.p (.v (.int .i64 0)))]) :: fr, [((5, 1000), some (Y7 ts))]⟩ x → x = g := by
    rintro x ⟨b, q, hb, hi⟩
    simp only [cx'] at hi
    split at hi
    · cases hi; rfl
    · cases hi
  have hka : ∀ {p : PV} {u : Value}, RP w cx.A p u → RP w' A p u := fun h => h.mono hA1 hsz (fun x hx hl => hkept x hl)
  have hrel : ZY ⟨w', A, fun x => x = g, cx'.ι⟩ N cx' ⟨(d, .tup [.c (.sl (5, 1000) 0 (Xw ts)), .c (.p (.v (.int .i64 0)))]) :: fr, [((5, 1000), some (Y7 ts))]⟩ (a.put (some d) (.tuple #[.slice (some ⟨g, 0, none⟩) ts.length c, .int .i64 0])) w' := by
    refine ⟨hr.defers, by simp only [Act.put, Array.size_setIfInBounds]; exact hr.size, fun s => ?_, fun b bk hb => ?_, fun b b' g1 o g2 o' hb hb' hi hi' hne => ?_, fun b g1 o hb hi => ?_, fun x hx => ⟨(hA2 x hx).1, .inl hx⟩, fun _ h => h, fun _ _ _ => rfl, Nat.le_refl _, rfl, rfl, rfl, hr.hN, fun _ _ => rfl⟩
    · rw [hg]
      by_cases e : s = d
      · subst e
        have e2 : (a.put (some s) (.tuple #[.slice (some ⟨g, 0, none⟩) ts.length c, .int .i64 0])).tmps.getD s undef = .tuple #[.slice (some ⟨g, 0, none⟩) ts.length c, .int .i64 0] := CH (o := (⟨some s, .move (.tmp 0), 0, "", #[], none⟩ : Oper)) rfl (by rw [hr.size]; exact hd)
        rw [if_pos rfl, e2]
        refine ⟨_, rfl, rfl, fun i t ht => ?_⟩
        match i, ht with
        | 0, ht =>
          cases ht
          refine ⟨_, rfl, .inr rfl, fun bk hbk => ?_⟩
          rw [hh, if_pos rfl] at hbk
          cases hbk
          refine ⟨some ⟨g, 0, none⟩, c, by simp [Xw], by simpa [Xw] using l1, m1, by simp [Bk.len, Xw], .inr ⟨g, cc, el, (0, 0), by simp [cx'], by simp [Bk.e], hcc, fun _ => by simp [Bk.e, hcs]⟩⟩
        | 1, ht =>
          cases ht
          exact ⟨_, rfl, .inr rfl, .v _ rfl⟩
      · have e2 : (a.put (some d) (.tuple #[.slice (some ⟨g, 0, none⟩) ts.length c, .int .i64 0])).tmps.getD s undef = a.tmps.getD s undef := put_eq (o := (⟨some d, .move (.tmp 0), 0, "", #[], none⟩ : Oper)) (fun h => e (Option.some.inj h).symm)
        rw [if_neg e, e2]
        have h1 := hr.fr s
        have h2 : (⟨fr, []⟩ : St).g s = (ZA fr s).getD (.c .any) := rfl
        rw [h2] at h1 ⊢
        cases hl : ZA fr s with
        | none => exact ⟨.inl rfl, trivial⟩
        | some t =>
          obtain ⟨p, hp'⟩ := hp _ (Bc hl)
          simp only at hp'
          subst hp'
          rw [hl] at h1
          exact ⟨h1.1, hka h1.2⟩
    · rw [hh] at hb
      split at hb
      · cases hb
        rename_i e
        subst e
        obtain ⟨h0, h1, c', el', capR, h2, h3, h4, h5, h6⟩ := r1
        exact ⟨h0, h1, by simp only [cx', if_true]; exact ⟨trivial, c', el', (0, 0), capR, h2, fun _ => ⟨rfl, nA⟩, (fun h => by cases h), h3, h4, h5, h6⟩⟩
      · cases hb
    · simp only [cx'] at hi hi'
      split at hi
      · split at hi'
        · rename_i e1 e2; exact absurd (e1.trans e2.symm) hne
        · cases hi'
      · cases hi
    · simp only [cx'] at hi
      split at hi
      · cases hi; exact ⟨r1.lt, .inr rfl⟩
      · cases hi
  refine ⟨gs, cx', hrel.base, ⟨hisl.len, hisl.els, hisl.nd, fun x hx => ⟨(hisl.off x hx).1, fun h => (hisl.off x hx).2.1 (hown x h), Nat.le_trans hf.sz (hisl.off x hx).2.2⟩⟩, ⟨Nat.le_trans hf.sz hsz, fun x hx => (hkept x (Nat.lt_of_lt_of_le hx hf.sz)).trans (hf.kept x hx), fun x hx => hA1 x (hf.A x hx), fun x hx => ?_, fun x hx => ?_, hos.trans hf.os, htp.trans hf.tape, hou.trans hf.output⟩⟩
  · rcases (hA2 x hx).2 with h | h
    · exact hf.A' x h
    · exact .inr (Nat.le_trans hf.sz h)
  · rw [hown x hx]; exact Nat.le_trans hf.sz hlo
end
set_option maxRecDepth 100000
set_option maxHeartbeats 4000000
def Dj (id : Nat) : Code → Option Code
  | .block i c => match Nat.beq i id with
    | true => some c
    | false => Dj id c
  | .seq a b => (Dj id a).or (Dj id b)
  | .cond _ a b => (Dj id a).or (Dj id b)
  | .loop a => Dj id a
  | .scope a => Dj id a
  | _ => none
noncomputable def mBlk (id : Nat) : Option Code := Tryz.f6.body.bind (Dj id)
def sL (l : List Int) (i : Int) (ts : List Qg) : St := ⟨[(1, .c (.p (.l 1 (List.map (eI .i64) l)))), (5, .c (.sl (5, 1000) 0 (Xw ts))), (7, .c (.p (.v (.int .i64 i))))], [((5, 1000), some (Y7 ts))]⟩
def Hi (ts : List Qg) (ts' : List Qg) : Prop := ts'.length = ts.length ∧ Lh ts' ∧ BQ ts ts'
section
variable {E : En} {a : Act} {w w0 : World} {A0 : Nat → Prop} {l : List Int} {ts : List Qg} {gs : List (Nat × Nat)} {x : Qg} {i k y : Int} {o : Qq}
theorem Hi.refl (h : Lh ts) : Hi ts ts := ⟨rfl, h, BQ.refl _⟩
theorem Hi.ji {N : Nat} {st : St} {ts' : List Qg} (h : Hi ts ts') (hj : JI w0 A0 N st ts gs a w) : JI w0 A0 N st ts' gs a w := hj.same h.2.2
theorem ON (hG : Lh ts) (hx : ts[k.toNat]? = some x) (hs : EG 65536 o) : Hi ts (ts.set k.toNat (OL x o i)) := ⟨by simp, hG.set ⟨sm_of hs, LS⟩, BQ.set hx rfl rfl⟩
theorem OO (hG : Lh ts) (hx : ts[k.toNat]? = some x) : Hi ts (ts.set k.toNat (R2 x)) := ⟨by simp, hG.set ⟨NF, LS⟩, BQ.set hx rfl rfl⟩
theorem R5 {C9 : Code} (h0 : 0 ≤ k) (hx : ts[k.toNat]? = some x) (hl : ts.length ≤ 64) (hG : Lh ts) (ho : UF l i o) (hv : VG o = 0) (hs : EG 65536 o)
    (hC : (Tryz.f6.body.bind (Dj 1)).bind (fun c => match c with
      | .seq _ (.seq _ (.seq (.seq _ (.cond _ (.seq c _) _)) _)) => some c
      | _ => none) = some C9) :
    AW E nM Tryz.prog C9 (fun e s => e = .normal ∧ ∃ ts', Hi ts ts' ∧ QC s (sL l i ts')) (sR l i k ts) := by
  cases hC
  obtain ⟨r, hr, hcase⟩ := R3 (i := i) h0 hx hl hv
  refine tk fun L hL => ?_
  refine dN 4 rfl ?_
  refine ul (Zt (Mh ho)) ?_
  refine dN 1 rfl ?_
  rcases hcase with ⟨hr1, hr2⟩ | rfl
  · obtain ⟨r1, r2⟩ := r
    cases hr1
    cases hr2
    refine ul (Ze (YS hr) (YC (K8.cons (.o (fun _ h => nomatch h)) (K8.cons (.p rfl) K8.nil))) rfl rfl (.cons (.c (.fr rfl (QH rfl))) (.cons (.c (.p _)) (.cons (.agg (.cons (.p _) (.cons (.p _) (.cons (.p _) (.cons (.p _) (.cons (.p _) (.cons (.p _) (.cons (.p _) (.cons (.p _) (.cons (.fr rfl (QH rfl)) (.cons (.p _) (.cons (.p _) (.cons (.p _) (.cons (.p _) (.cons (.p _) (.cons (.p _) (.cons (.p _) (.cons (.p _) (.cons (.p _) (.cons (.p _) (.cons (.p _) (.cons (.p _) (.cons (.fr rfl (QH rfl)) .nil))))))))))))))))))))))) (.cons (.c (.p _)) .nil))))) ?_
    refine dN 5 rfl ?_
    refine rt (hL _ ?_)
    refine tD rfl ?_
    refine Y9 (b := false) rfl rfl (fun h => by cases h) fun _ => ?_
    exact Qh ⟨rfl, ts, Hi.refl hG, QC.fit⟩
  · refine ul (YB (YS hr) rfl rfl (.cons (.c (.fr rfl (QH rfl))) (.cons (.c (.p _)) (.cons (.agg (.cons (.p _) (.cons (.p _) (.cons (.p _) (.cons (.p _) (.cons (.p _) (.cons (.p _) (.cons (.p _) (.cons (.p _) (.cons (.fr rfl (QH rfl)) (.cons (.p _) (.cons (.p _) (.cons (.p _) (.cons (.p _) (.cons (.p _) (.cons (.p _) (.cons (.p _) (.cons (.p _) (.cons (.p _) (.cons (.p _) (.cons (.p _) (.cons (.p _) (.cons (.fr rfl (QH rfl)) .nil))))))))))))))))))))))) (.cons (.c (.p _)) .nil))))) ?_
    refine dN 5 rfl ?_
    refine rt (hL _ ?_)
    refine tD rfl ?_
    refine Y9 (b := true) rfl rfl (fun _ => ?_) fun h => by cases h
    exact tE rfl ⟨rfl, ts.set k.toNat (OL x o i), ON hG hx hs, QC.nm [1, 5, 7] [((51, 0), (5, 1000))] rfl (by kernel_rfl)⟩
theorem NI (z : Int) (hG : Lh ts) (hx : ts[k.toNat]? = some x) : Hi ts (ts.set k.toNat { x with fk := { x.fk with fc7 := z } }) := by
  obtain ⟨h1, h2, h3, h4, h5⟩ := hG x (List.mem_of_getElem? hx)
  exact ⟨by simp, hG.set ⟨h1, h2, h3, h4, h5⟩, BQ.set hx rfl rfl⟩
theorem R6 {n : Nat} {y : Qg} : sR l i k (ts.set n y) = ⟨(sR l i k ts).fr, [((5, 1000), some (Y7 (ts.set n y)))]⟩ := by
  have e : Xw (ts.set n y) = Xw ts := by simp [Xw]
  unfold sR
  rw [e]
theorem R7 {R : Array Oper} (hR : PY 13 = some R) (hx : ix ts k x) (hy : ix l i y) : AW E nM Tryz.prog (.region 13 R false) (fun e s => e = .normal ∧ QC s (sR l i k (ts.set k.toNat { x with fk := { x.fk with fc7 := Zg .i64 (QT .i64 y 7) 7 } }))) (sR l i k ts) := by
  cases hR
  refine tl fun L hL => ?_
  refine dN 4 rfl ?_
  refine u0 (QB hy) ?_
  refine dN 3 rfl ?_
  refine u0 (QV hx) ?_
  refine dN 2 rfl ?_
  refine un (Zf (x1 := { x with fk := { x.fk with fc7 := Zg .i64 (QT .i64 y 7) 7 } }) hx.2) ?_
  refine rt (hL _ ⟨rfl, ?_⟩)
  rw [R6]
  exact QC.fit
theorem R8 {C : Code} (h0 : 0 ≤ k) (hx : ts[k.toNat]? = some x) (hy : ix l i y) (hl : ts.length ≤ 64) (hG : Lh ts)
    (hC : (mBlk 1).bind (fun c => match c with
      | .seq _ (.seq _ (.seq _ (.seq _ (.seq _ (.seq _ c))))) => some c
      | _ => none) = some C) :
    AW E nM Tryz.prog C (fun e s => e = .normal ∧ ∃ ts', Hi ts ts' ∧ QC s (sL l i ts')) (sR l i k ts) := by
  cases hC
  refine tk fun L hL => ?_
  refine dN 2 rfl ?_
  refine u0 (QV ⟨h0, hx⟩) ?_
  refine dN 1 rfl ?_
  refine u0 (Z5 (i := k.toNat) rfl rfl (gm hx)) ?_
  refine dN 1 rfl ?_
  refine Q2 rfl rfl Q8 (fun hg => Qc rfl rfl) ?_
  refine Q2 rfl rfl Q8 (fun hg => Qc rfl rfl) ?_
  refine Q2 rfl rfl Q8 (fun hg => QB hy (Qa hg) (Qa hg) rfl rfl rfl rfl rfl rfl) ?_
  refine Q2 rfl rfl Q8 (fun hg => Zl (Qa hg) rfl rfl rfl rfl) ?_
  refine Q2 rfl rfl Q8 (fun hg => F2 (by decide) (Qa hg) rfl rfl rfl) ?_
  refine Q2 rfl rfl Q8 (fun hg => WH (z := .int .i64 (Zg .i64 (QT .i64 y 10) 1)) (Qa hg) rfl rfl rfl rfl) ?_
  refine Q2 rfl rfl Q8 (fun hg => Qz (c := (Zg .i64 (QT .i64 y 10) 1) == 1) (Qa hg) rfl rfl rfl rfl) ?_
  refine u0 (Ql (v := .bool ((Zg .i64 (QT .i64 y 10) 1) == 1)) (w := .bool false) rfl rfl Q8 rfl Qw) ?_
  refine rt (hL _ ?_)
  refine QQ (st' := ⟨[(1, .c (.p (.l 1 (List.map (eI .i64) l)))), (5, .c (.sl (5, 1000) 0 (Xw ts))), (7, .c (.p (.v (.int .i64 i)))), (8, .c (.p (.v (.int .i64 k)))), (110, .c (.p (.v (.bool (bif x.fb1 then (Zg .i64 (QT .i64 y 10) 1) == 1 else false)))))], [((5, 1000), some (Y7 ts))]⟩) QC.fit ?_
  refine Y9 (b := bif x.fb1 then (Zg .i64 (QT .i64 y 10) 1) == 1 else false) rfl rfl (fun h => ?_) fun _ => ?_
  · have hb : x.fb1 = true := N5 h
    have hv := R4 h0 hx hl hb
    refine tl fun L hL => ?_
    refine dN 2 rfl ?_
    refine ul (YB (Bt hv) rfl rfl (.cons (.c (.fr rfl (QH rfl))) (.cons (.c (.p _)) .nil))) ?_
    refine dN 4 rfl ?_
    exact rt (hL _ ⟨rfl, ts.set k.toNat (R2 x), OO hG hx, QC.nm [1, 5, 7] [((114, 0), (5, 1000))] rfl (by kernel_rfl)⟩)
  · exact Qh ⟨rfl, ts, Hi.refl hG, QC.fit⟩
theorem Hi.trans {ts1 ts2 : List Qg} (h1 : Hi ts ts1) (h2 : Hi ts1 ts2) : Hi ts ts2 := by
  refine ⟨h2.1.trans h1.1, h2.2.1, h2.1.trans h1.1, fun k x' hx => ?_⟩
  obtain ⟨x1, e1, e2, e3⟩ := h2.2.2.2 k x' hx
  obtain ⟨x0, e4, e5, e6⟩ := h1.2.2.2 k x1 e1
  exact ⟨x0, e4, e2.trans e5, e3.trans e6⟩
theorem OP {C : Code} (hC : mBlk 1 = some C) (hG : Lh ts) (hl : ts.length ≤ 64) (hll : l.length ≤ 4611686018427387904) (hi0 : 0 ≤ i) (hi1 : i ≤ 900) (hil : i < l.length) (hj : JI w0 A0 nM (sL l i ts) ts gs a w) :
    C.wp Tryz.prog (fun e a' w' => (e = .normal ∨ e = .exit 1) ∧ ∃ ts', Hi ts ts' ∧ JI w0 A0 nM (sL l i ts') ts' gs a' w') a w := by
  cases hC
  obtain ⟨y, hy⟩ : ∃ y, l[i.toNat]? = some y := ⟨_, List.getElem?_eq_getElem (by omega)⟩
  have hiy : ix l i y := ⟨hi0, hy⟩
  obtain ⟨j0, j1⟩ := b3 y
  refine DZ (st' := sR l i (Zg .i64 y 3) ts) (fun E => ?_) hj rfl fun a1 w1 hj1 => ?_
  · refine tl fun L hL => ?_
    refine dN 2 rfl ?_
    refine u0 (QB hiy) ?_
    refine dN 3 rfl ?_
    exact rt (hL _ ⟨rfl, QC.fit⟩)
  generalize Zg .i64 y 3 = k at hj1 j0 j1
  refine wp_seq (wp_mono (Hh (Q := fun e s => (e = .normal ∧ s = sR l i k ts ∧ k < ts.length) ∨ (e = .exit 1 ∧ s = sL l i ts)) (fun E => ?_) hj1 rfl) ?_)
  · refine tk fun L hL => ?_
    refine dN 2 rfl ?_
    refine u0 ZN ?_
    refine dN 1 rfl ?_
    refine rt (hL _ ?_)
    refine Y9 (b := decide (k ≥ (ts.length : Int))) rfl rfl (fun h => ?_) fun h => ?_
    · exact QP ⟨_, QC.fit, .inr ⟨rfl, rfl⟩⟩
    · exact Qh ⟨_, QC.fit, .inl ⟨rfl, rfl, by simp at h; omega⟩⟩
  rintro e a2 w2 ⟨s2, hcase, hj2⟩
  rcases hcase with ⟨rfl, rfl, hkl⟩ | ⟨rfl, rfl⟩
  · obtain ⟨x, hx⟩ : ∃ x, ts[k.toNat]? = some x := ⟨_, List.getElem?_eq_getElem (by omega)⟩
    have hxk : ix ts k x := ⟨j0, hx⟩
    refine wp_seq (wp_mono (Hh (Q := fun e s => (e = .normal ∧ s = sR l i k ts) ∨ (e = .exit 1 ∧ ∃ ts', Hi ts ts' ∧ s = sL l i ts')) (fun E => ?_) hj2 rfl) ?_)
    · refine tk fun L hL => ?_
      refine dN 2 rfl ?_
      refine u0 (QB hiy) ?_
      refine dN 4 rfl ?_
      refine rt (hL _ ?_)
      refine QQ (st' := ⟨(sR l i k ts).fr ++ [(43, .c (.p (.v (.bool ((Zg .i64 (QT .i64 y 2) 1) == 1)))))], (sR l i k ts).H⟩) QC.fit ?_
      refine Y9 (b := (Zg .i64 (QT .i64 y 2) 1) == 1) rfl rfl (fun h => ?_) fun h => ?_
      · obtain ⟨o, ho, hv, hs⟩ := Mp l i hll hi0 hi1
        refine QQ (st' := sR l i k ts) QC.fit ?_
        refine GJ (Lq (R5 (ts := ts) j0 hx hl hG ho hv hs rfl) ?_)
        rintro e s ⟨rfl, ts', h1, h2⟩
        exact QQ h2 (QP ⟨_, QC.fit, .inr ⟨rfl, ts', h1, rfl⟩⟩)
      · exact Qh ⟨_, QC.fit, .inl ⟨rfl, rfl⟩⟩
    rintro e a3 w3 ⟨s3, hcase, hj3⟩
    rcases hcase with ⟨rfl, rfl⟩ | ⟨rfl, ts', hr, rfl⟩
    · refine wp_seq (wp_mono (OH hj3 rfl rfl rfl hx fun E g cp S hv h4 hS hGd hp => PZ rfl hxk hiy hv hS hGd hp) ?_)
      rintro e a4 w4 ⟨rfl, hj4⟩
      refine wp_seq (wp_mono (OI hj4 rfl rfl rfl hx fun E g cp S hv h4 hS hp => R0 rfl hxk hiy hv hS hp) ?_)
      rintro e a5 w5 ⟨rfl, hj5⟩
      refine DZ (fun E => R7 rfl hxk hiy) hj5 rfl fun a6 w6 hj6 => ?_
      have hr := NI (Zg .i64 (QT .i64 y 7) 7) hG hx
      have hj7 := hr.ji hj6
      refine wp_mono (Hh (Q := fun e s => e = .normal ∧ ∃ ts', Hi (ts.set k.toNat { x with fk := { x.fk with fc7 := Zg .i64 (QT .i64 y 7) 7 } }) ts' ∧ s = sL l i ts') (fun E => Lq (R8 (x := { x with fk := { x.fk with fc7 := Zg .i64 (QT .i64 y 7) 7 } }) j0 (by simp [List.getElem?_set]; omega) hiy (by simp; omega) hr.2.1 rfl) ?_) hj7 rfl) ?_
      · rintro e s ⟨rfl, ts', h1, h2⟩
        exact ⟨_, h2, rfl, ts', h1, rfl⟩
      rintro e a8 w8 ⟨s8, ⟨rfl, ts', h1, rfl⟩, hj8⟩
      exact ⟨.inl rfl, ts', hr.trans h1, h1.ji hj8⟩
    · exact ⟨.inr rfl, ts', hr, hr.ji hj3⟩
  · exact ⟨.inr rfl, ts, Hi.refl hG, hj2⟩
end
set_option maxRecDepth 100000
set_option maxHeartbeats 4000000
section
variable {a : Act} {w w0 : World} {A0 : Nat → Prop} {n : Int} {l : List Int} {ts : List Qg} {gs : List (Nat × Nat)}
theorem R9 {v1 v2 : Value} : OC (Dk v1 v2).fOp ∧ P0 (Dk v1 v2).fk := ⟨NF, LS⟩
theorem NJ {lv : Value} {Q : Exit → Act → World → Prop} (hA : ∀ x, A0 x → x < w0.heap.size) (hn : KE (.int .i64 n) = true) (hlv : RP w0 A0 (.l 1 (List.map (eI .i64) l)) lv) (hll : l.length ≤ 4611686018427387904)
    (hfin : ∀ a w ts gs, 1 ≤ ts.length → ts.length ≤ 4 → Lh ts → JI w0 A0 nM ⟨[(4, .c (.sl (5, 1000) 0 (Xw ts)))], [((5, 1000), some (Y7 ts))]⟩ ts gs a w → Q .ret a w) :
    ∀ body, Tryz.f6.body = some body → body.wp Tryz.prog Q { tmps := #[Value.int .i64 n, lv] ++ Array.replicate (nM - (#[Value.int .i64 n, lv] : Array Value).size) undef, defers := [] } w0 := by
  intro body hbody
  cases hbody
  have hr0 : ZY ⟨w0, A0, fun _ => False, fun _ => none⟩ nM ⟨fun _ => none, A0⟩ ⟨[(0, .c (.p (.v (.int .i64 n)))), (1, .c (.p (.l 1 (List.map (eI .i64) l))))], []⟩ { tmps := #[Value.int .i64 n, lv] ++ Array.replicate (nM - (#[Value.int .i64 n, lv] : Array Value).size) undef, defers := [] } w0 :=
    NC (fn := Tryz.f6) (avs := [.c (.v (.int .i64 n)), .c (.l 1 (List.map (eI .i64) l))]) (g := 0) (q := 0) rfl (by kernel_rfl) (Nat.le_of_ble_eq_true (by kernel_rfl)) rfl hA ⟨.v _ hn, hlv, trivial⟩
  have hj0 : JI w0 A0 nM ⟨[(0, .c (.p (.v (.int .i64 n)))), (1, .c (.p (.l 1 (List.map (eI .i64) l))))], []⟩ [] [] { tmps := #[Value.int .i64 n, lv] ++ Array.replicate (nM - (#[Value.int .i64 n, lv] : Array Value).size) undef, defers := [] } w0 :=
    ⟨_, _, hr0, ⟨rfl, fun k x g hx => by simp at hx, ⟨fun g hg => by simp at hg, fun k k2 g g2 hg => by simp at hg⟩, fun x hx => by simp [Ih] at hx⟩, ⟨Nat.le_refl _, fun _ _ => rfl, fun _ h => h, fun _ h => .inl h, fun g ⟨b, q, hb, _⟩ => absurd rfl hb, rfl, rfl, rfl⟩⟩
  -- the result's variable
  refine DZ (st' := ⟨[(0, .c (.p (.v (.int .i64 n)))), (1, .c (.p (.l 1 (List.map (eI .i64) l))))], []⟩) (fun E => tE rfl ⟨rfl, QC.fit⟩) hj0 rfl fun a1 w1 hj1 => ?_
  -- the table
  obtain ⟨E1, cx1, hr1, hi1, hf1⟩ := hj1
  refine wp_seq (wp_region ?_)
  obtain ⟨j0, j1⟩ := b3 n
  have hwn : IntKind.i64.wrap (1 + Zg .i64 n 3) = 1 + Zg .i64 n 3 := by rw [IntKind.wrap_i64]; omega
  show wpOps _ _ _ [0, 1, 2, 3, 4, 5, 6, 7, 8] _ _
  rw [wpOps_cons]
  refine Kj hr1.base rfl rfl (Qc rfl rfl) rfl rfl fun cx2 a2 w2 hr2 => ?_
  rw [wpOps_cons]
  refine Kj hr2 rfl rfl WH rfl rfl fun cx3 a3 w3 hr3 => ?_
  rw [wpOps_cons]
  refine Kj hr3 rfl rfl WH rfl rfl fun cx4 a4 w4 hr4 => ?_
  rw [wpOps_cons]
  have hc4 := hr4.cut (fr' := [(1, .c (.p (.l 1 (List.map (eI .i64) l)))), (14, .c (.p (.v (.int .i64 (IntKind.i64.wrap (1 + Zg .i64 n 3))))))]) (H' := []) ⟨rfl, rfl, trivial⟩ trivial
  have l4 := Dc hr1 rfl hc4
  have hf4 := hf1.lv l4 (fun _ h => h.elim)
  have e14 := NG (c := .tmp 14) hc4 rfl rfl
  refine Ip rfl (by kernel_rfl) (R := fun e w => ∃ v ts, e = .returned (.tuple #[v, .int .i64 0]) ∧ (ts.length : Int) = 1 + Zg .i64 n 3 ∧ (∀ x ∈ ts, ∃ v1 v2, x = Dk v1 v2) ∧ PX w4 cx4.A w v ts) ?_ ?_
  · have exs : (#[Operand.tmp 14] : Array Operand).map a4.eval = #[Value.int .i64 (1 + Zg .i64 n 3)] := by simp only [List.map_toArray, List.map_cons, List.map_nil, e14, hwn]
    refine exs ▸ ?_
    exact OJ (fun x hx => (hc4.A x hx).1) (by omega) (by omega)
  rintro e w5 ⟨v, ts, rfl, hlen, hz, hnew⟩
  refine ⟨_, rfl, ?_⟩
  obtain ⟨gs, cx5, hr5, hi5, hf5⟩ := OM (d := 15) hc4 (by intro x hx; simp at hx; rcases hx with rfl | rfl <;> exact ⟨_, rfl⟩) (Nat.le_of_ble_eq_true (by kernel_rfl)) (by intro x hx; simp at hx; rcases hx with rfl | rfl <;> simp) hnew hf4
  rw [wpOps_cons]
  refine Kj hr5 rfl rfl (IN rfl rfl) rfl rfl fun cx6 a6 w6 hr6 => ?_
  rw [wpOps_cons]
  refine Kj hr6 rfl rfl (Uk rfl rfl rfl) rfl rfl fun cx7 a7 w7 hr7 => ?_
  rw [wpOps_cons]
  refine Kj hr7 rfl rfl (Uk rfl rfl rfl) rfl rfl fun cx8 a8 w8 hr8 => ?_
  rw [wpOps_cons]
  refine Kj hr8 rfl rfl (WJ rfl rfl) rfl rfl fun cx9 a9 w9 hr9 => ?_
  rw [wpOps_cons]
  refine Kj hr9 rfl rfl (WJ rfl rfl) rfl rfl fun cx10 a10 w10 hr10 => ?_
  have hc10 := hr10.cut (fr' := [(1, .c (.p (.l 1 (List.map (eI .i64) l)))), (5, .c (.sl (5, 1000) 0 (Xw ts)))]) (H' := [((5, 1000), some (Y7 ts))]) ⟨rfl, rfl, trivial⟩ ⟨rfl, trivial⟩
  have l10 := Dc hr5 rfl hc10
  have hj10 : JI w0 A0 nM ⟨[(1, .c (.p (.l 1 (List.map (eI .i64) l)))), (5, .c (.sl (5, 1000) 0 (Xw ts)))], [((5, 1000), some (Y7 ts))]⟩ ts gs a10 w10 := ⟨_, cx10, hc10, hi5.lv l10 (fun _ _ h => h), hf5.lv l10 (fun _ h => h.elim)⟩
  have hG0 : Lh ts := fun x hx => by
    obtain ⟨v1, v2, rfl⟩ := hz x hx
    exact R9
  refine wp_seq ?_
  refine DZ (st' := sL l 0 ts) (fun E => tE rfl ⟨rfl, QC.fit⟩) hj10 rfl fun a11 w11 hj11 => ?_
  refine wp_block ?_
  refine Gp (fun k a w => ∃ (j : Nat) (ts : List Qg) (gs : List (Nat × Nat)), j ≤ 8 ∧ 1 ≤ ts.length ∧ ts.length ≤ 4 ∧ Lh ts ∧ k = 8 - j ∧ JI w0 A0 nM (sL l (j : Int) ts) ts gs a w) ?_ 8 _ _ ⟨0, ts, gs, by omega, by omega, by omega, hG0, rfl, hj11⟩
  rintro k a w ⟨j, ts, gs, hj8, hn1, hn4, hG, rfl, hj⟩
  refine wp_seq ?_
  refine wp_mono (Hh (Q := fun e s => s = sL l (j : Int) ts ∧ ((e = .normal ∧ j < 8 ∧ j < l.length) ∨ e = .exit 0)) (fun E => ?_) hj rfl) ?_
  · refine tk fun L hL => ?_
    refine dN 2 rfl ?_
    refine u0 QA ?_
    refine dN 2 rfl ?_
    refine Q2 rfl rfl Q8 (fun hg => Qc rfl rfl) ?_
    refine Q2 rfl rfl Q8 (fun hg => Qz (c := decide ((j : Int) < (8))) (Qa hg) rfl rfl rfl rfl) ?_
    refine u0 (Ql (v := .bool (decide ((j : Int) < (8)))) (w := .bool (false)) rfl rfl Q8 rfl Qw) ?_
    refine rt (hL _ ?_)
    refine Y9 (b := (bif decide ((j : Int) < (l.length : Int)) then decide ((j : Int) < 8) else false)) rfl rfl (fun h => ?_) fun h => ?_
    · refine Qh ⟨_, QC.fit, rfl, .inl ⟨rfl, ?_⟩⟩
      have h1 := N5 h
      rw [h1] at h
      simp at h1 h
      omega
    · exact QP ⟨_, QC.fit, rfl, .inr rfl⟩
  rintro e a1 w1 ⟨s1, ⟨rfl, hcase⟩, hj1⟩
  rcases hcase with ⟨rfl, hlt8, hltl⟩ | rfl
  · -- a round
    refine wp_seq (wp_block (wp_mono (OP rfl hG (by omega) hll (by omega) (by omega) (by omega) hj1) ?_))
    rintro e a2 w2 ⟨he, ts', ⟨hl', hG', -⟩, hj2⟩
    have hw1 : IntKind.i64.wrap ((j : Int) + 1) = ((j + 1 : Nat) : Int) := by rw [IntKind.wrap_i64]; omega
    rcases he with rfl | rfl
    all_goals
      refine wp_mono (Ii (Q := fun e s => e = .normal ∧ s = sL l ((j + 1 : Nat) : Int) ts') (fun E => ?_) hj2 rfl) ?_
      · refine A9 (Q := fun e s => e = .normal ∧ s = _) (tE rfl ⟨rfl, rfl⟩) ?_
        rintro e s ⟨rfl, rfl⟩
        refine ⟨⟨[(1, .c (.p (.l 1 (List.map (eI .i64) l)))), (5, .c (.sl (5, 1000) 0 (Xw ts'))), (7, .c (.p (.v (.int .i64 (IntKind.i64.wrap ((j : Int) + 1))))))], [((5, 1000), some (Y7 ts'))]⟩, QC.fit, rfl, ?_⟩
        rw [hw1]; rfl
      rintro e a7 w7 ⟨st7, ⟨rfl, rfl⟩, hj7⟩
      exact ⟨8 - (j + 1), by omega, j + 1, ts', gs, by omega, by omega, by omega, hG', rfl, hj7⟩
  · -- the end
    simp only [Exit.then, Exit.inBlock, if_true]
    refine DZ (st' := ⟨[(5, .c (.sl (5, 1000) 0 (Xw ts)))], [((5, 1000), some (Y7 ts))]⟩) (fun E => ?_) hj1 rfl fun a2 w2 hj2 => ?_
    · refine tk fun L hL => ?_
      refine dN 1 rfl ?_
      refine u0 ZN ?_
      refine dN 1 rfl ?_
      refine rt (hL _ ?_)
      refine Y9 (b := ((ts.length : Int) == 0)) rfl rfl (fun h => ?_) fun h => ?_
      · exfalso
        simp at h
        subst h
        simp at hn1
      · exact Qh ⟨rfl, QC.fit⟩
    refine DZ (st' := ⟨[(4, .c (.sl (5, 1000) 0 (Xw ts)))], [((5, 1000), some (Y7 ts))]⟩) (fun E => tE rfl ⟨rfl, QC.fit⟩) hj2 rfl fun a3 w3 hj3 => ?_
    exact wp_ret (hfin a3 w3 ts gs hn1 hn4 hG hj3)
end
set_option maxRecDepth 100000
set_option maxHeartbeats 4000000
section
variable {w w0 : World} {A A' : Nat → Prop}
theorem Gx {g e cap : Nat} {rows rows' : List (List PV)} (h : U6 w A g e rows) (hg : A' g) (hl : rows'.length = rows.length) (he : ∀ r ∈ rows', r.length = e) (hc1 : rows'.length ≤ cap) (hc2 : cap ≤ maxLen)
    (hp : ∀ (i : Nat) r (k : Nat) p, rows'[i]? = some r → r[k]? = some p → ∃ r0 p0, rows[i]? = some r0 ∧ r0[k]? = some p0 ∧ ∀ v, RP w A p0 v → RP w A' p v) : RP w A' (.l e rows') (.slice (some ⟨g, 0, none⟩) rows'.length cap) := by
  obtain ⟨h0, h1, c, el, capR, h2, h3, h4, h5, h6⟩ := h
  have hlt : g < w.heap.size := by
    rcases Nat.lt_or_ge g w.heap.size with h | h
    · exact h
    · rw [Array.getElem?_eq_none h] at h2; cases h2
  refine .l e rows' _ cap (fun i k => c.getD (i * e + k) undef) hc1 hc2 he (.inr ⟨g, 0, rfl, hg, hlt, fun i r k p hi hk => ?_⟩) fun i r k p hi hk => ?_
  · obtain ⟨r0, p0, e1, e2, e3⟩ := hp i r k p hi hk
    obtain ⟨cv, e4, e5⟩ := h6 i r0 k p0 e1 e2
    rw [Nat.zero_add]
    simp only [World.cell?, h2, Array.getD_eq_getD_getElem?, e4, Option.getD_some]
    rfl
  · obtain ⟨r0, p0, e1, e2, e3⟩ := hp i r k p hi hk
    obtain ⟨cv, e4, e5⟩ := h6 i r0 k p0 e1 e2
    simp only [Array.getD_eq_getD_getElem?, e4, Option.getD_some]
    exact e3 _ e5
theorem LU {g e cap : Nat} {rows : List (List PV)} (h : U6 w A g e rows) (hA : ∀ x, A x → A' x) (hg : A' g) (hc1 : rows.length ≤ cap) (hc2 : cap ≤ maxLen) : RP w A' (.l e rows) (.slice (some ⟨g, 0, none⟩) rows.length cap) :=
  Gx h hg rfl h.2.1 hc1 hc2 fun i r k p hi hk => ⟨r, p, hi, hk, fun v hv => hv.mono hA (Nat.le_refl _) fun _ _ _ => rfl⟩
def SesR (w : World) (A' : Nat → Prop) (x : Qg) (s : Q5) : Prop :=
  Mm s ∧ ∃ S C, s = Q5.mk x.fb1 x.fOp x.fk x.f9 S C ∧ RP w A' (.l 3 (List.map QE S)) x.f5 ∧ RP w A' (.l 4 (List.map QW C)) x.fa0
def Ra (x : Qg) : List PV := (Z8 x).take 95
theorem pre_o (x : Qg) : Z8 x = Ra x ++ [.o x.f5, .o x.fa0] := rfl
theorem pre_s (x : Qg) (S : List Qx) (C : List QG) : Qv (Q5.mk x.fb1 x.fOp x.fk x.f9 S C) = Ra x ++ [.l 3 (List.map QE S), .l 4 (List.map QW C)] := rfl
theorem Hj (x : Qg) : (Ra x).length = 95 := rfl
theorem rp_o {x v : Value} (h : RP w A (.o x) v) : v = x := by cases h; rfl
theorem NK {x : Qg} {s : Q5} (h : SesR w A' x s) (hA : ∀ g, A g → A' g) {k : Nat} {p : PV} (hk : (Qv s)[k]? = some p) : ∃ p0, (Z8 x)[k]? = some p0 ∧ ∀ v, RP w A p0 v → RP w A' p v := by
  obtain ⟨-, S, C, rfl, h1, h2⟩ := h
  rw [pre_s] at hk
  rw [pre_o]
  by_cases hl : k < 95
  · rw [List.getElem?_append_left (by rw [Hj]; exact hl)] at hk ⊢
    exact ⟨p, hk, fun v hv => hv.mono hA (Nat.le_refl _) fun _ _ _ => rfl⟩
  · rw [List.getElem?_append_right (by rw [Hj]; omega), Hj] at hk ⊢
    match hd : k - 95, hk with
    | 0, hk =>
      cases hk
      refine ⟨_, rfl, fun v hv => ?_⟩
      rw [rp_o hv]; exact h1
    | 1, hk =>
      cases hk
      refine ⟨_, rfl, fun v hv => ?_⟩
      rw [rp_o hv]; exact h2
    | n + 2, hk => simp at hk
theorem Iq {α β : Type} {R : α → β → Prop} : ∀ {l : List α}, (∀ x ∈ l, ∃ y, R x y) → ∃ r : List β, r.length = l.length ∧ ∀ (i : Nat) y, r[i]? = some y → ∃ x, l[i]? = some x ∧ R x y
  | [], _ => ⟨[], rfl, fun i y h => by simp at h⟩
  | x :: l, h => by
    obtain ⟨y, hy⟩ := h x (by simp)
    obtain ⟨r, h1, h2⟩ := Iq (l := l) fun z hz => h z (by simp [hz])
    refine ⟨y :: r, by simp [h1], fun i z hz => ?_⟩
    cases i with
    | zero => simp at hz; subst hz; exact ⟨x, rfl, hy⟩
    | succ i => simp at hz; simpa using h2 i z hz
def NL (r : List Q5) : Prop := 1 ≤ r.length ∧ r.length ≤ 4 ∧ ∀ s ∈ r, Mm s
def LV (w0 : World) (A0 : Nat → Prop) (w : World) (v : Value) (r : List Q5) : Prop :=
  NL r ∧ ∃ A : Nat → Prop, RP w A (.l 97 (List.map Qv r)) v ∧ w0.heap.size ≤ w.heap.size ∧ (∀ g, g < w0.heap.size → w.heap[g]? = w0.heap[g]?) ∧ (∀ g, A0 g → A g) ∧ (∀ g, A g → g < w.heap.size ∧ (A0 g ∨ w0.heap.size ≤ g)) ∧ w.os = w0.os ∧ w.tape = w0.tape ∧ w.output = w0.output
theorem OQ (s : Q5) : (Qv s).length = 97 := rfl
theorem NM {ts : List Qg} {gs : List (Nat × Nat)} {a : Act} {A0 : Nat → Prop} (h1 : 1 ≤ ts.length) (h4 : ts.length ≤ 4) (hG : Lh ts) (hj : JI w0 A0 nM ⟨[(4, .c (.sl (5, 1000) 0 (Xw ts)))], [((5, 1000), some (Y7 ts))]⟩ ts gs a w) : ∃ r, LV w0 A0 w (a.tmps.getD 4 undef) r := by
  obtain ⟨E, cx, hr, hi, hf⟩ := hj
  obtain ⟨g, c, e1, l1, m1, i1, r1, n1⟩ := LR hr (s := 4) (b := (5, 1000)) (e := 97) (rows := List.map Z8 ts) (m := Xw ts) rfl rfl (by simp; omega) (Nat.le_refl _)
  let A' : Nat → Prop := fun x => cx.A x ∨ x = g ∨ x ∈ Ih gs
  have hA : ∀ x, cx.A x → A' x := fun x hx => .inl hx
  have hex : ∀ x ∈ ts, ∃ s, SesR w A' x s := by
    intro x hx
    obtain ⟨k, hk, rfl⟩ := List.getElem_of_mem hx
    have hkg : k < gs.length := by rw [hi.len]; exact hk
    have hm : gs[k] ∈ gs := List.getElem_mem hkg
    obtain ⟨⟨c1, S, e2, l2, m2, n2, d2, r2⟩, c2, C, e3, l3, m3, n3, r3⟩ := hi.els k _ _ (List.getElem?_eq_getElem hk) (List.getElem?_eq_getElem hkg)
    obtain ⟨g1, g2⟩ := hG _ hx
    refine ⟨Q5.mk ts[k].fb1 ts[k].fOp ts[k].fk ts[k].f9 S C, ⟨g1, g2, by rw [n2]; decide, by rw [n3]; decide, fun s hs => Nat.le_trans (d2 s hs) (by decide)⟩, S, C, rfl, ?_, ?_⟩
    · have := LU (cap := c1) r2 hA (.inr (.inr (JX.2 ⟨_, hm, .inl rfl⟩))) (by simpa [n2] using l2) m2
      rw [e2]
      simpa [n2] using this
    · have := LU (cap := c2) r3 hA (.inr (.inr (JX.2 ⟨_, hm, .inr rfl⟩))) (by simpa [n3] using l3) m3
      rw [e3]
      simpa [n3] using this
  obtain ⟨r, hl, hpr⟩ := Iq hex
  refine ⟨r, ⟨by omega, by omega, fun s hs => ?_⟩, A', ?_, hf.sz, hf.kept, fun x hx => .inl (hf.A x hx), ?_, hf.os, hf.tape, hf.output⟩
  · obtain ⟨k, hk, rfl⟩ := List.getElem_of_mem hs
    obtain ⟨x, _, h2⟩ := hpr k _ (List.getElem?_eq_getElem hk)
    exact h2.1
  · have hlen : (List.map Qv r).length = Xw ts := by simp [Xw, hl]
    have := Gx (A' := A') (rows' := List.map Qv r) (cap := c) r1 (.inr (.inl rfl)) (by simpa using hl) (fun y hy => by
      obtain ⟨s, _, rfl⟩ := List.mem_map.1 hy
      exact OQ s) (by rw [hlen]; exact l1) m1 (fun i y k p hi2 hk => by
      rw [List.getElem?_map, Option.map_eq_some_iff] at hi2
      obtain ⟨s, hs, rfl⟩ := hi2
      obtain ⟨x, hx, hR⟩ := hpr i s hs
      obtain ⟨p0, h5, h6⟩ := NK hR hA hk
      exact ⟨_, p0, by rw [List.getElem?_map, hx]; rfl, h5, h6⟩)
    rw [e1, ← hlen]
    exact this
  · rintro x (hx | rfl | hx)
    · exact ⟨(hr.A x hx).1, hf.A' x hx⟩
    · exact ⟨r1.lt, .inr (hf.own x ⟨(5, 1000), 0, (fun h => by cases h), i1⟩)⟩
    · exact ⟨hi.lt hx, .inr (hi.off x hx).2.2⟩
theorem Li {n : Int} {l : List Int} {lv : Value} {A0 : Nat → Prop} (hA : ∀ x, A0 x → x < w0.heap.size) (hn : KE (.int .i64 n) = true) (hlv : RP w0 A0 (.l 1 (List.map (eI .i64) l)) lv) (hll : l.length ≤ 4611686018427387904) :
    Calls Tryz.prog 6 #[.int .i64 n, lv] w0 fun e w => ∃ v r, e = .returned v ∧ LV w0 A0 w v r := by
  refine calls_of_wp Tryz.func6 rfl ?_
  refine NJ hA hn hlv hll (fun a w ts gs h1 h4 hG hj => ?_) _ rfl
  obtain ⟨r, hr⟩ := NM h1 h4 hG hj
  obtain ⟨E, cx, hrel, _, _⟩ := hj
  exact bodyPost_ret (results_tmp rfl _ _ _) hrel.defers ⟨_, r, rfl, hr⟩
end
set_option maxRecDepth 100000
section
variable {ts : List Q5} {k i : Int} {o : Qq}
def Rb (x : Q5) : Q5 := Q5.mk false OK NE 0 x.f5 x.fa0
def Hk (ts : List Q5) : Prop := ts.length ≤ 4 ∧ ∀ s ∈ ts, Mm s
theorem Hk.set {n : Nat} {y : Q5} (h : Hk ts) (hy : Mm y) : Hk (ts.set n y) := by
  refine ⟨by simpa using h.1, fun z hz => ?_⟩
  rcases List.mem_or_eq_of_mem_set hz with h1 | rfl
  · exact h.2 z h1
  · exact hy
theorem Hk.nil : Hk [] := ⟨by decide, fun s h => by cases h⟩
theorem OR {x : Q5} (hx : Mm x) : Mm (Rb x) := ⟨NF, LS, hx.2.2⟩
theorem c_in (h0 : 0 ≤ k) (h1 : k < ts.length) : (bif decide (k < 0) then true else decide (k ≥ (ts.length : Int))) = false := by
  have e1 : decide (k < 0) = false := by simp; omega
  have e2 : decide (k ≥ (ts.length : Int)) = false := by simp; omega
  rw [e1, e2]; rfl
theorem c_out (h : ¬ (0 ≤ k ∧ k < ts.length)) : (bif decide (k < 0) then true else decide (k ≥ (ts.length : Int))) = true := by
  by_cases h0 : k < 0
  · have e1 : decide (k < 0) = true := by simpa using h0
    rw [e1]; rfl
  · have e1 : decide (k < 0) = false := by simpa using h0
    have e2 : decide (k ≥ (ts.length : Int)) = true := by simp; omega
    rw [e1, e2]; rfl
def EndP (ts : List Q5) (k : Int) (r : List Q5 × Int) : Prop :=
  (¬ (0 ≤ k ∧ k < ts.length) ∧ r = ([], 5)) ∨ ∃ x, ix ts k x ∧ ((x.fb1 = false ∧ r = ([], 13)) ∨ (x.fb1 = true ∧ r = (ts.set k.toNat (Rb x), 0)))
theorem Ir (h : Hk ts) : ∃ r, ZU ts k r ∧ ZT ts k r ∧ Hk r.1 ∧ EndP ts k r := by
  by_cases hk : 0 ≤ k ∧ k < ts.length
  · obtain ⟨h0, h1⟩ := hk
    have c1 := c_in h0 h1
    obtain ⟨x, hx⟩ : ∃ x, ts[k.toNat]? = some x := ⟨_, List.getElem?_eq_getElem (by omega)⟩
    have hxk : ix ts k x := ⟨h0, hx⟩
    have hsx := h.2 x (List.mem_of_getElem? hx)
    have hl := h.1
    cases hb : x.fb1 with
    | false =>
      refine ⟨([], 13), ?_, ?_, Hk.nil, .inr ⟨x, hxk, .inl ⟨hb, rfl⟩⟩⟩
      · unfold ZU Vm
        rw [c1]
        exact ⟨fun h => (by cases h), fun _ => ⟨x, hxk, fun _ => rfl, fun h => by simp [hb] at h⟩⟩
      · unfold ZT JG
        rw [c1]
        exact ⟨fun h => (by cases h), fun _ => ⟨x, hxk, fun _ => rfl, fun h => by simp [hb] at h⟩⟩
    | true =>
      refine ⟨(ts.set k.toNat (Rb x), 0), ?_, ?_, h.set (OR hsx), .inr ⟨x, hxk, .inr ⟨hb, rfl⟩⟩⟩
      · unfold ZU Vm
        rw [c1]
        refine ⟨fun h => (by cases h), fun _ => ⟨x, hxk, fun h => by simp [hb] at h, fun _ => ⟨ts, Fv ts (by omega) h.2, x, hxk, ?_⟩⟩⟩
        simp only [List.set_set]
        rfl
      · unfold ZT JG
        rw [c1]
        refine ⟨fun h => (by cases h), fun _ => ⟨x, hxk, fun h => by simp [hb] at h, fun _ => ⟨by omega, x, hxk, ?_⟩⟩⟩
        simp only [List.set_set]
        rfl
  · have c1 := c_out hk
    refine ⟨([], 5), ?_, ?_, Hk.nil, .inl ⟨hk, rfl⟩⟩
    · unfold ZU Vm
      rw [c1]
      exact ⟨fun _ => rfl, fun h => (by cases h)⟩
    · unfold ZT JG
      rw [c1]
      exact ⟨fun _ => rfl, fun h => (by cases h)⟩
end
set_option maxRecDepth 100000
set_option maxHeartbeats 4000000
section
variable {E : En} {N : Nat} {st : St} {cx : Cx} {a : Act} {w w' : World} {fr : List (Nat × TV)} {d : Nat} {v : Value} {r : List Q5}
theorem ev_p {c : Operand} {p : PV} (hr : ZY E N cx st a w) (hb : st.ev c = .c (.p p)) (hc : Zr c = true) : RP w cx.A p (a.eval c) := by
  have := hr.ev hc
  rw [hb] at this
  exact this.2
theorem NN (hr : ZY E N cx ⟨fr, []⟩ a w) (hp : NH fr) (hd : d < N) (hm : LV w cx.A w' v r) : ∃ cx', ZY E N cx' ⟨(d, .c (.p (.l 97 (List.map Qv r)))) :: fr, []⟩ (a.put (some d) v) w' := by
  obtain ⟨-, A, hv, hsz, hkept, hA1, hA2, hos, htp, hou⟩ := hm
  have hg : ∀ s, (⟨(d, .c (.p (.l 97 (List.map Qv r)))) :: fr, []⟩ : St).g s = if s = d then .c (.p (.l 97 (List.map Qv r))) else (⟨fr, []⟩ : St).g s := by
    intro s
    rw [IR]
  refine ⟨⟨cx.ι, A⟩, hr.defers, by simp only [Act.put, Array.size_setIfInBounds]; exact hr.size, fun s => ?_, fun b bk hb => (by cases hb), fun b b' g1 o g2 o' hb => absurd rfl hb, fun b g1 o hb => absurd rfl hb, fun x hx => ⟨(hA2 x hx).1, ?_⟩, fun g hg => hA1 g (hr.A0 g hg), fun g h1 h2 => (hkept g (Nat.lt_of_lt_of_le h1 hr.sz)).trans (hr.kept g h1 h2), Nat.le_trans hr.sz hsz, hos.trans hr.os, htp.trans hr.tape, hou.trans hr.output, hr.hN, hr.pin⟩
  · rw [hg]
    by_cases e : s = d
    · subst e
      have e2 : (a.put (some s) v).tmps.getD s undef = v := CH (o := (⟨some s, .move (.tmp 0), 0, "", #[], none⟩ : Oper)) rfl (by rw [hr.size]; exact hd)
      rw [if_pos rfl, e2]
      refine ⟨.inr (by cases hv; rfl), hv⟩
    · have e2 : (a.put (some d) v).tmps.getD s undef = a.tmps.getD s undef := put_eq (o := (⟨some d, .move (.tmp 0), 0, "", #[], none⟩ : Oper)) (fun h => e (Option.some.inj h).symm)
      rw [if_neg e, e2]
      have h1 := hr.fr s
      have h2 : (⟨fr, []⟩ : St).g s = (ZA fr s).getD (.c .any) := rfl
      rw [h2] at h1 ⊢
      cases hl : ZA fr s with
      | none => exact ⟨.inl rfl, trivial⟩
      | some t =>
        obtain ⟨p, hp'⟩ := hp _ (Bc hl)
        simp only at hp'
        subst hp'
        rw [hl] at h1
        exact ⟨h1.1, h1.2.mono hA1 hsz (fun x hx hl => hkept x hl)⟩
  · rcases (hA2 x hx).2 with h | h
    · exact (hr.A x h).2
    · exact .inr (.inl (Nat.le_trans hr.sz h))
end
set_option maxRecDepth 100000
set_option maxHeartbeats 4000000
theorem NO {E : En} {Q : Exit → St → Prop} {y : Code} {a0 : Int} {a1 : List Int} {a2 : Int} {R : Array Oper} (hll : a1.length ≤ 4611686018427387904) (hR : Tryz.f4.body.bind (BO 1) = some R) (k : ∀ r, NL r → AW E 91 Tryz.prog y Q ⟨[(7, .c (.p (.l 97 (List.map Qv r)))), (0, .c (.p (.v (.int .i64 a0)))), (1, .c (.p (.l 1 (List.map (eI .i64) a1)))), (2, .c (.p (.v (.int .i64 a2)))), (6, .c (.p (.v (.bool false))))], []⟩) :
    AW E 91 Tryz.prog (.seq (.region 1 R false) y) Q ⟨[(0, .c (.p (.v (.int .i64 a0)))), (1, .c (.p (.l 1 (List.map (eI .i64) a1)))), (2, .c (.p (.v (.int .i64 a2)))), (6, .c (.p (.v (.bool false))))], []⟩ := by
  cases hR
  intro cx a w hr
  refine wp_seq (wp_region ?_)
  show wpOps _ _ _ [0, 1, 2, 3] _ _
  rw [wpOps_cons]
  refine Kj hr rfl rfl (Qc rfl rfl) rfl rfl fun cx2 ac2 w2 hr2 => ?_
  rw [wpOps_cons]
  refine Kj hr2 rfl rfl (Qc rfl rfl) rfl rfl fun cx3 ac3 w3 hr3 => ?_
  rw [wpOps_cons]
  have e0 := NG (c := .tmp 20) (y := .int .i64 a0) hr3 rfl rfl
  have e1 := ev_p (c := .tmp 21) (p := .l 1 (List.map (eI .i64) a1)) hr3 rfl rfl
  have h0 : RP w3 cx3.A (.v (.int .i64 a0)) (ac3.eval (.tmp 20)) := ev_p (c := .tmp 20) hr3 rfl rfl
  have hn : KE (.int .i64 a0) = true := by
    revert h0
    generalize ac3.eval (.tmp 20) = z
    intro h0
    cases h0 with | v _ h => exact h
  have hc3 := hr3.cut (fr' := [(0, .c (.p (.v (.int .i64 a0)))), (1, .c (.p (.l 1 (List.map (eI .i64) a1)))), (2, .c (.p (.v (.int .i64 a2)))), (6, .c (.p (.v (.bool false))))]) (H' := []) ⟨rfl, rfl, rfl, rfl, trivial⟩ trivial
  refine Ip rfl (by kernel_rfl) (R := fun e w => ∃ v r, e = .returned v ∧ LV w3 cx3.A w v r) ?_ ?_
  · have exs : (#[Operand.tmp 20, Operand.tmp 21] : Array Operand).map ac3.eval = #[Value.int .i64 a0, ac3.eval (.tmp 21)] := by simp only [List.map_toArray, List.map_cons, List.map_nil, e0]
    refine exs ▸ ?_
    exact Li (fun x hx => (hr3.A x hx).1) hn e1 hll
  rintro e w4 ⟨v, r, rfl, hm⟩
  refine ⟨v, rfl, ?_⟩
  obtain ⟨cx4, hr4⟩ := NN (d := 22) hc3 (by intro x hx; simp at hx; rcases hx with rfl | rfl | rfl | rfl <;> exact ⟨_, rfl⟩) (by decide) hm
  rw [wpOps_cons]
  refine Kj hr4 rfl rfl (WJ rfl rfl) rfl rfl fun cx5 ac5 w5 hr5 => ?_
  have hc5 := hr5.cut (fr' := [(7, .c (.p (.l 97 (List.map Qv r)))), (0, .c (.p (.v (.int .i64 a0)))), (1, .c (.p (.l 1 (List.map (eI .i64) a1)))), (2, .c (.p (.v (.int .i64 a2)))), (6, .c (.p (.v (.bool false))))]) (H' := []) ⟨rfl, rfl, rfl, rfl, rfl, trivial⟩ trivial
  exact k r hm.1 _ _ _ hc5
def XT (a0 : Int) (a1 : (List Int)) (a2 : Int) (Q : Bool → Prop) : Prop :=
 ∀ (v1 : (List Q5)), NL v1 → ∃ (v2 : (List Q5) × Int), ZU (v1) (IntKind.i64.wrap ((Zg .i64 (a2) (7)) - (1))) v2 ∧ ∃ (v3 : (List Q5) × Int), ZT (v1) (IntKind.i64.wrap ((Zg .i64 (a2) (7)) - (1))) v3 ∧ ∃ (v4 : (List Q5) × Int), ZU (v1) (a2) v4 ∧ ∃ (v5 : (List Q5) × Int), ZT (v1) (a2) v5 ∧ ∃ (v6 : (List Int)), ZW (v1) v6 ∧ ∃ (v7 : (List Int)), Ya (v1) v7 ∧ ∃ (v9 : Bool), ((!(((v2.2) != (v3.2)))) = true → Jc (v2.1) (v3.1) v9) ∧ ((((bif (bif (bif ((v2.2) != (v3.2)) then true else !(v9)) then true else ((v4.2) != (v5.2))) then true else ((((v6).length : Int)) != (((v7).length : Int))))) = true → Q ((false))) ∧ (((bif (bif (bif ((v2.2) != (v3.2)) then true else !(v9)) then true else ((v4.2) != (v5.2))) then true else ((((v6).length : Int)) != (((v7).length : Int))))) = false → jn (fun (p10 : Unit) => ∃ (v16 : Bool), Y5  v16 ∧ Q ((v16))) (fun (J10 : Unit → Prop) => lp (fun (X11 : (List Int) × (List Int) × Int → Prop) (s11 : (List Int) × (List Int) × Int) => (((decide ((s11.2.2) < (((s11.1).length : Int)))) = true → ∃ (v14 : Int), ix (s11.1) (s11.2.2) v14 ∧ ∃ (v15 : Int), ix (s11.2.1) (s11.2.2) v15 ∧ (((((v14) != (v15))) = true → Q ((false))) ∧ ((((v14) != (v15))) = false → X11 ((s11.1), (s11.2.1), (IntKind.i64.wrap ((s11.2.2) + (1))))))) ∧ ((decide ((s11.2.2) < (((s11.1).length : Int)))) = false → J10 (())))) ((v6), (v7), (0)))))
def V6 (a0 : Int) (a1 : (List Int)) (a2 : Int) (r : Bool) : Prop := XT a0 a1 a2 fun x => r = x
theorem Bz {a0 : Int} {a1 : (List Int)} {a2 : Int} {r : Bool} (hll : a1.length ≤ 4611686018427387904) (h : V6 a0 a1 a2 r) : Qp Tryz.prog 4 [.c (.v (.int .i64 (a0))), .c (.l 1 (List.map (eI .i64) (a1))), .c (.v (.int .i64 (a2)))] [.c (.p (.v (.bool (r))))] [] := by
  refine Qn tb Tryz.func4 rfl (by kernel_rfl) rfl rfl (Nat.le_of_ble_eq_true rfl) rfl ?_
  intro E
  unfold V6 XT at h
  refine Z3 (fun Q hQ => ?_)
  refine tD rfl ?_
  refine QQ (st' := ⟨[(0, .c (.p (.v (.int .i64 a0)))), (1, .c (.p (.l 1 (List.map (eI .i64) a1)))), (2, .c (.p (.v (.int .i64 a2)))), (6, .c (.p (.v (.bool false))))], []⟩) QC.fit ?_
  refine NO hll rfl fun v1 hv1 => ?_
  replace h := h v1 hv1
  refine tD rfl ?_
  refine tk fun L hL => ?_
  refine dN 2 rfl ?_
  obtain ⟨v2, hv2, h⟩ := h
  refine ul (Zt (U0 hv2)) ?_
  refine dN 5 rfl ?_
  refine rt (hL _ ?_)
  refine tk fun L hL => ?_
  refine dN 2 rfl ?_
  obtain ⟨v3, hv3, h⟩ := h
  refine ul (Zt (WX hv3)) ?_
  refine dN 5 rfl ?_
  refine rt (hL _ ?_)
  refine tk fun L hL => ?_
  refine dN 2 rfl ?_
  obtain ⟨v4, hv4, h⟩ := h
  refine ul (Zt (U0 hv4)) ?_
  refine dN 5 rfl ?_
  refine rt (hL _ ?_)
  refine tk fun L hL => ?_
  refine dN 2 rfl ?_
  obtain ⟨v5, hv5, h⟩ := h
  refine ul (Zt (WX hv5)) ?_
  refine dN 5 rfl ?_
  refine rt (hL _ ?_)
  refine tk fun L hL => ?_
  refine dN 1 rfl ?_
  obtain ⟨v6, hv6, h⟩ := h
  refine ul (Zt (U1 hv6)) ?_
  refine dN 1 rfl ?_
  obtain ⟨v7, hv7, h⟩ := h
  refine ul (Zt (Er hv7)) ?_
  refine dN 2 rfl ?_
  refine rt (hL _ ?_)
  refine QQ (st' := ⟨[(9, .c (.sl (29, 0) 0 (List.map Qv (v2.1)).length)), (10, .c (.p (.v (.int .i64 (v2.2))))), (11, .c (.sl (35, 0) 0 (List.map Qv (v3.1)).length)), (12, .c (.p (.v (.int .i64 (v3.2))))), (14, .c (.p (.v (.int .i64 (v4.2))))), (16, .c (.p (.v (.int .i64 (v5.2))))), (17, .c (.sl (51, 0) 0 (List.map (eI .i64) (v6)).length)), (18, .c (.sl (53, 0) 0 (List.map (eI .i64) (v7)).length))], [((29, 0), some (.row 97 (List.map Qv (v2.1)) true)), ((35, 0), some (.row 97 (List.map Qv (v3.1)) true)), ((51, 0), some (.row 1 (List.map (eI .i64) (v6)) true)), ((53, 0), some (.row 1 (List.map (eI .i64) (v7)) true))]⟩) QC.fit ?_
  refine sk fun L8 hL8 => ?_
  refine tk fun L hL => ?_
  refine dN 4 rfl ?_
  refine Q2 rfl rfl Q4 (fun hg => Qc rfl rfl) ?_
  refine Q2 rfl rfl Q4 (fun hg => Qc rfl rfl) ?_
  obtain ⟨v9, hv9, h⟩ := h
  refine Q2 rfl rfl Q4 (fun hg => Ze (AY (hv9 hg)) (YC (K8.cons (.p rfl) K8.nil)) rfl rfl (.cons (Zd hg (.c (.fr rfl (QH rfl)))) (.cons (Zd hg (.c (.fr rfl (QH rfl)))) .nil)) rfl rfl rfl) ?_
  refine Q2 rfl rfl Q4 (fun hg => QY (Qa hg) rfl rfl) ?_
  refine u0 (Qm (v := .bool (true)) (w := .bool (!(v9))) rfl rfl Q4 rfl Qw) ?_
  refine dN 1 rfl ?_
  refine Q2 rfl rfl Q4 (fun hg => Qc rfl rfl) ?_
  refine Q2 rfl rfl Q4 (fun hg => Qc rfl rfl) ?_
  refine Q2 rfl rfl Q4 (fun hg => Qz (c := ((v4.2) != (v5.2))) (Qa hg) (Qa hg) rfl rfl rfl) ?_
  refine u0 (Qm (v := .bool (true)) (w := .bool (((v4.2) != (v5.2)))) rfl rfl Q4 rfl Qw) ?_
  refine dN 1 rfl ?_
  refine Q2 rfl rfl Q4 (fun hg => Qc rfl rfl) ?_
  refine Q2 rfl rfl Q4 (fun hg => ZN (Qa hg) rfl rfl rfl rfl rfl) ?_
  refine Q2 rfl rfl Q4 (fun hg => Qc rfl rfl) ?_
  refine Q2 rfl rfl Q4 (fun hg => ZN (Qa hg) rfl rfl rfl rfl rfl) ?_
  refine Q2 rfl rfl Q4 (fun hg => Qz (c := ((((v6).length : Int)) != (((v7).length : Int)))) (Qa hg) (Qa hg) rfl rfl rfl) ?_
  refine u0 (Qm (v := .bool (true)) (w := .bool (((((v6).length : Int)) != (((v7).length : Int))))) rfl rfl Q4 rfl Qw) ?_
  refine rt (hL _ ?_)
  refine cn h (fun h => ?_) fun h => ?_
  · refine tD rfl ?_
    obtain rfl := h
    exact Qf (hQ _ _ ⟨.inr rfl, _, _, _, (.cons (.p rfl) .nil), (.cons (.c (.p _)) .nil), rfl, rfl⟩)
  · refine Qh (hL8 _ ?_)
    refine QQ (st' := ⟨[(17, .c (.sl (51, 0) 0 (List.map (eI .i64) (v6)).length)), (18, .c (.sl (53, 0) 0 (List.map (eI .i64) (v7)).length))], [((51, 0), some (.row 1 (List.map (eI .i64) (v6)) true)), ((53, 0), some (.row 1 (List.map (eI .i64) (v7)) true))]⟩) QC.fit ?_
    refine Z2 (fun (p10 : Unit) => (⟨[], []⟩ : St)) h (fun p10 h => ?_) (fun J10 L10 hL10 h => ?_)
    · refine tk fun L hL => ?_
      obtain ⟨v16, hv16, h⟩ := h
      refine u0 (QR (FZ hv16)) ?_
      refine dN 1 rfl ?_
      refine rt (hL _ ?_)
      obtain rfl := h
      exact Qf (hQ _ _ ⟨.inr rfl, _, _, _, (.cons (.p rfl) .nil), (.cons (.c (.p _)) .nil), rfl, rfl⟩)
    · refine tD rfl ?_
      refine Qr ?_
      refine Zn (fun (s11 : (List Int) × (List Int) × Int) => (⟨[(17, .c (.sl (17, 1000) 0 (List.map (eI .i64) (s11.1)).length)), (18, .c (.sl (18, 1000) 0 (List.map (eI .i64) (s11.2.1)).length)), (19, .c (.p (.v (.int .i64 (s11.2.2)))))], [((17, 1000), some (.row 1 (List.map (eI .i64) (s11.1)) true)), ((18, 1000), some (.row 1 (List.map (eI .i64) (s11.2.1)) true))]⟩ : St)) h (QC.nm [17, 18, 19] [((51, 0), (17, 1000)), ((53, 0), (18, 1000))] rfl (by kernel_rfl)) (fun X11 L11 hL11 s11 h => ?_)
      refine sk fun L12 hL12 => ?_
      refine tk fun L hL => ?_
      refine dN 2 rfl ?_
      refine u0 ZN ?_
      refine dN 1 rfl ?_
      refine rt (hL _ ?_)
      refine cn h (fun h => ?_) fun h => ?_
      · refine Qh (hL12 _ ?_)
        refine sk fun L13 hL13 => ?_
        refine Qr ?_
        refine dk mixed (fun L hL => ?_)
        refine dN 2 rfl ?_
        obtain ⟨v14, hv14, h⟩ := h
        refine u0 (QV hv14) ?_
        refine u0 (Z5 rfl rfl (gm hv14.2)) ?_
        refine dN 2 rfl ?_
        obtain ⟨v15, hv15, h⟩ := h
        refine u0 (QV hv15) ?_
        refine u0 (Z5 rfl rfl (gm hv15.2)) ?_
        refine dN 1 rfl ?_
        refine rd (hL _ ?_)
        refine cn h (fun h => ?_) fun h => ?_
        · refine tD rfl ?_
          obtain rfl := h
          exact Qf (hQ _ _ ⟨.inr rfl, _, _, _, (.cons (.p rfl) .nil), (.cons (.c (.p _)) .nil), rfl, rfl⟩)
        · refine Qh (hL13 _ ?_)
          refine tE rfl (hL11 _ _ h QC.fit)
      · refine QP (hL10 _ _ h QC.fit)
theorem Mq (ts : List Q5) (hl : ts.length ≤ 4) (Q : List Int → Prop) (hQ : ∀ p, p.length ≤ 4 → Q p) : ZV ts Q := by
  unfold ZV
  simp only [jn]
  refine Kl (I := fun k s => ∃ j : Nat, j ≤ ts.length ∧ k = ts.length - j ∧ s.2 = (j : Int) ∧ s.1.length ≤ j) ?_ (k := ts.length) ⟨0, by omega, rfl, rfl, by simp⟩
  rintro k ⟨p, i⟩ ⟨j, hj, rfl, rfl, hp⟩ X hX
  simp only at hp
  refine ⟨fun c => ?_, fun c => hQ p (by omega)⟩
  have hj2 : j < ts.length := by simpa using c
  have hw : IntKind.i64.wrap ((j : Int) + 1) = ((j + 1 : Nat) : Int) := by rw [IntKind.wrap_i64]; omega
  refine ⟨ts[j], ⟨by omega, by simp [List.getElem?_eq_getElem hj2]⟩, fun _ => ⟨by simp only [List.length_cons, List.length_nil]; omega, ?_⟩, fun _ => ?_⟩
  · rw [hw]; exact hX (ts.length - (j + 1)) _ (by omega) ⟨j + 1, by omega, rfl, rfl, by show (p ++ [(j : Int)]).length ≤ j + 1; simp only [List.length_append, List.length_cons, List.length_nil]; omega⟩
  · rw [hw]; exact hX (ts.length - (j + 1)) _ (by omega) ⟨j + 1, by omega, rfl, rfl, by show (p).length ≤ j + 1; omega⟩
theorem Hl (ts : List Q5) (hl : ts.length ≤ 4) : ∃ p, ZW ts p ∧ Ya ts p ∧ p.length ≤ 4 := by
  obtain ⟨p, h1, h2⟩ := Cm (Post := fun p => p.length ≤ 4) (Mq ts hl _ fun p h => h)
  exact ⟨p, h1, h1, h2⟩
theorem BA (n : Int) (l : List Int) (s : Int) : V6 n l s true := by
  unfold V6 XT
  rintro v1 ⟨-, g4, gs⟩
  obtain ⟨r, r1, r2, r3, -⟩ := Ir (k := IntKind.i64.wrap ((Zg .i64 s 7) - 1)) ⟨g4, gs⟩
  obtain ⟨q, q1, q2, q3, -⟩ := Ir (k := s) ⟨g4, gs⟩
  obtain ⟨p, p1, p2, p3⟩ := Hl v1 g4
  refine ⟨r, r1, r, r2, q, q1, q, q2, p, p1, p, p2, true, fun _ => B6 _ (Nat.le_trans r3.1 (by decide)) r3.2, fun c => by simp at c, fun _ => ?_⟩
  simp only [jn]
  refine Kl (I := fun k s => ∃ j : Nat, j ≤ p.length ∧ k = p.length - j ∧ s = (p, p, (j : Int))) ?_ (k := p.length) ⟨0, by omega, rfl, rfl⟩
  rintro k s ⟨j, hj, rfl, rfl⟩ X hX
  refine ⟨fun c => ?_, fun c => ⟨true, G7, rfl⟩⟩
  have hj2 : j < p.length := by simpa using c
  have hw : IntKind.i64.wrap ((j : Int) + 1) = ((j + 1 : Nat) : Int) := by rw [IntKind.wrap_i64]; omega
  have hx : ix p (j : Int) p[j] := ⟨by omega, by simp [List.getElem?_eq_getElem hj2]⟩
  refine ⟨p[j], hx, p[j], hx, fun c => by simp at c, fun _ => ?_⟩
  rw [hw]
  exact hX (p.length - (j + 1)) _ (by omega) ⟨j + 1, by omega, rfl, rfl⟩
theorem SessionsEnd_walk (a0 : Int) (v1 : Value) (l1 : List Int) (a2 : Int) (w : World) (h0 : (Lit.int .i64 a0).wf = true) (h1 : Ints .i64 w v1 l1) (s1 : l1.length * Tryz.prog.bytesOf 3 ≤ 140737488351232) (h2 : (Lit.int .i64 a2).wf = true) :
    Calls Tryz.prog 4 #[.int .i64 a0, v1, .int .i64 a2] w fun e w' => e = .returned (.bool true) ∧ Below w.heap.size w w' := by
  have hl : l1.length ≤ 4611686018427387904 := by
    have e : Tryz.prog.bytesOf 3 = 8 := by kernel_rfl
    rw [e] at s1; omega
  refine (Uc (A := fun x => x < w.heap.size) (vs := #[.int .i64 a0, v1, .int .i64 a2]) (g := 0) (q := 0) (Bz (r := true) hl (BA a0 l1 a2)) rfl (fun x h => h) ⟨.v _ h0, IF h1 (fun _ _ _ g _ _ hg => hg), .v _ h2, trivial⟩).mono ?_
  rintro e w' ⟨rfl, hg⟩
  exact ⟨rfl, EH hg⟩
end Go.Proofs.YtpnpodbihdiegaaGreat
