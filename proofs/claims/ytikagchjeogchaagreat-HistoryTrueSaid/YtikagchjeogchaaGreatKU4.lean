/- Parts of the proof, laid together. No condition. -/
import Derived.Test.YtikagchjeogchaaGreatKB6
set_option linter.unusedVariables false
set_option linter.unusedSimpArgs false
set_option maxRecDepth 100000
set_option maxHeartbeats 4000000
namespace Go.Proofs.YtikagchjeogchaaGreat
open Go.RowKit
theorem Tu : A6 := Zu (V5.eq_1 _ _ _)
theorem H0 [U7] [XQ] : Jr := Zu (Zm.eq_1 _)
theorem IC : Uo := Zu (Kk.eq_1 _ _)
theorem Q5w : I7 := Zu (WA.eq_1 _)
theorem Tv : Cs := Zu (VW.eq_1 _ _)
theorem Q5x [Yq] [Br] [FE] : I8 := Zu (WL.eq_1 _ _)
theorem Q5y : KU := Zu (Zt.eq_1 _)
theorem LM [ZH] : KG := Zu (Zd.eq_1 _)
theorem ID [ZH] : ZS := Zu (Z3.eq_1 _)
theorem Qaq : YJ := Zu (ZP.eq_1 _ _)
theorem PN : Dg := Zu (Vl.eq_1 _ _)
theorem Q5z : Ib := Zu (Wv.eq_1 _)
theorem Qar : A7 := Zu (VN.eq_1 _)
theorem NE [KG] [X0] [A7] : Bs := Zu (Jx.eq_1 _)
theorem Qf5 : FK := Zu (Wx.eq_1 _)
theorem OO : CG := Zu (JZ.eq_1 _)
theorem IE [K1] [WW] [KI] [ZD] : Uu := Zu (Kh.eq_1 _)
theorem PO [K1] [KI] [KH] [Yi] : Dk := Zu (Vs.eq_1 _)
theorem NF [K1] [KI] [ZM] [Yi] : BA := Zu (JE.eq_1 _)
theorem LN [ZD] [Bq] : A8 := Zu (KA.eq_1 _ _)
theorem Tw [CE] [Xe] [Bz] [Uu] [AI] [Dk] [Uv] [BA] : Aa := Zu (V1.eq_1 _)
theorem Tx : V9 := Zu (QX.eq_1 _ _)
theorem Q1n [E3] [Xr] [Cy] [Aa] : DT := Zu (XI.eq_1 _ _)
theorem Qas [Wi] [Wj] [Gg] : LJ := Zu (UY.eq_1 _ _ _ _ _)
theorem PP [Wj] [U2] [UD] : Dl := Zu (Vu.eq_1 _ _ _ _)
theorem Q60 [Dm] [DN] [Ej] [CB] : Ig := Zu (WJ.eq_1 _ _ _)
theorem Qkm : Dn := fun {a0} {a1} => Zu (Xc.eq_1 _ _) (fun h => by
 refine Wk (fun _ => trivial) (fun c => ?_)
 have hp : (0 : Int) < a0.length := by simp at c; have := List.length_pos_iff.2 c; omega
 obtain ⟨v, hv, _⟩ := Cj (l := a0) (n := a1.tmod a0.length) (tm0 h) (tm1 h hp)
 exact ⟨by omega, v, hv, by omega, trivial⟩)
theorem Q61 [FR] : ER := nxb (Xv.eq_1 _)
theorem Q1o [Dn] [AS] [ES] [ET] [LL] : GZ := nxb (YR.eq_1 _)
theorem Q62 [FR] [Es] : Ii := fun {a0} {a1} => Zu (YB.eq_1 _ _) (fun h => by
 obtain ⟨h1, h2, h3, h4, h5, h6, h7, h8, h9⟩ := h
 simp only [bA3, Qq3, Np]
 generalize hk : Qu .i64 a1 5 % 16777216 = k
 have k0 : 0 ≤ k := by omega
 have m0 := fun n (hn : (0 : Int) < n) => tm0 (n := n) k0
 have m1 := fun n (hn : (0 : Int) < n) => tm1 (n := n) k0 hn
 refine jmp (fun p1 => zOg a0 (Qj.mk p1.1 p1.2.1 p1.2.2.1 p1.2.2.2.1 (Q6.mk p1.2.2.2.2.1 p1.2.2.2.2.2.1 p1.2.2.2.2.2.2.1 p1.2.2.2.2.2.2.2.1) p1.2.2.2.2.2.2.2.2.1 p1.2.2.2.2.2.2.2.2.2.1 p1.2.2.2.2.2.2.2.2.2.2.1 p1.2.2.2.2.2.2.2.2.2.2.2.1 p1.2.2.2.2.2.2.2.2.2.2.2.2.1 p1.2.2.2.2.2.2.2.2.2.2.2.2.2.1 p1.2.2.2.2.2.2.2.2.2.2.2.2.2.2.1 p1.2.2.2.2.2.2.2.2.2.2.2.2.2.2.2.1 (Qi.mk p1.2.2.2.2.2.2.2.2.2.2.2.2.2.2.2.2.1 p1.2.2.2.2.2.2.2.2.2.2.2.2.2.2.2.2.2.1 p1.2.2.2.2.2.2.2.2.2.2.2.2.2.2.2.2.2.2.1 p1.2.2.2.2.2.2.2.2.2.2.2.2.2.2.2.2.2.2.2.1 p1.2.2.2.2.2.2.2.2.2.2.2.2.2.2.2.2.2.2.2.2.1) p1.2.2.2.2.2.2.2.2.2.2.2.2.2.2.2.2.2.2.2.2.2)) (fun p h => h) fun J hJ => ?_
 have z0 : ∀ n : Nat, n ≤ 1100000 → bB (List.replicate n (0 : Int)) := fun n _ => Q5o ⟨by decide, by decide⟩
 refine Wk (fun _ => hJ _ ⟨by (try dsimp only); omega, by (try dsimp only); omega, by (try dsimp only); omega, by (try dsimp only); omega, h5, h6, h7, h8, h9⟩) fun _ => ?_
 refine Wk (fun _ => ixq (P := fun v => v.size ≤ 2000000) (by decide) ⟨by omega, by simp <;> omega⟩ fun v _ _ _ hv => hJ _ ⟨by (try dsimp only); omega, by (try dsimp only); omega, by (try dsimp only); omega, by (try dsimp only); omega, h5, hv, h7, h8, h9⟩) fun _ => ?_
 refine Wk (fun _ => ixq (P := fun v => v.size ≤ 2000000) (by decide) ⟨by omega, by simp <;> omega⟩ fun v _ _ _ hv => hJ _ ⟨by (try dsimp only); omega, by (try dsimp only); omega, by (try dsimp only); omega, by (try dsimp only); omega, h5, h6, hv, h8, h9⟩) fun _ => ?_
 refine Wk (fun _ => ⟨by omega, ixq (P := fun v => v.size ≤ 2000000) (by decide) ⟨m0 3 (by decide), m1 3 (by decide)⟩ fun v _ _ _ hv => ⟨by simp <;> omega, hJ _ ⟨by simp <;> omega, by (try dsimp only); omega, by (try dsimp only); omega, by (try dsimp only); omega, h5, h6, h7, h8, Cl h9 (Df hv)⟩⟩⟩) fun _ => ?_
 refine Wk (fun _ => ⟨⟨m0 20 (by decide), by have := m1 20 (by decide); omega⟩, LF (hJ _ ⟨by have := m1 20 (by decide); simp; omega, by (try dsimp only); omega, by (try dsimp only); omega, by (try dsimp only); omega, h5, h6, h7, h8, Q5o (by simp)⟩)⟩) fun _ => ?_
 refine Wk (fun _ => hJ _ ⟨by (try dsimp only); omega, by (try dsimp only); omega, by (try dsimp only); omega, by (try dsimp only); omega, h5, h6, h7, h8, h9⟩) fun _ => ?_
 refine Wk (fun _ => ⟨by omega, nx_ trivial fun v _ hv => ⟨by simp <;> omega, hJ _ ⟨by (try dsimp only); omega, by simp <;> omega, by (try dsimp only); omega, by (try dsimp only); omega, h5, h6, h7, Cl h8 (Df (by show v.size ≤ 2000000; omega)), h9⟩⟩⟩) fun _ => ?_
 have w2 : ∀ a : Int, 0 ≤ a → a ≤ 100000 → IntKind.i64.wrap (a + k.tmod 2) = a + k.tmod 2 ∧ 0 ≤ k.tmod 2 ∧ k.tmod 2 < 2 := fun a q1 q2 => by have e0 := m0 2 (by decide); have e1 := m1 2 (by decide); exact ⟨Vk (by omega), e0, e1⟩
 have w9 : IntKind.i64.wrap (60 + k.tmod 9) = 60 + k.tmod 9 ∧ 0 ≤ k.tmod 9 ∧ k.tmod 9 < 9 := by have e0 := m0 9 (by decide); have e1 := m1 9 (by decide); exact ⟨Vk (by omega), e0, e1⟩
 obtain ⟨w64, w64a, w64b⟩ := w2 64 (by decide) (by decide)
 have w65 := (w2 65536 (by decide) (by decide)).1
 obtain ⟨w9, w9a, w9b⟩ := w9
 simp only [w64, w65, w9]
 refine Wk (fun _ => ⟨⟨by omega, by omega⟩, LF (hJ _ ⟨by (try dsimp only); omega, by simp <;> omega, by (try dsimp only); omega, by (try dsimp only); omega, h5, h6, h7, Q5o (by show (ByteArray.empty).size ≤ 2000000; simp), h9⟩)⟩) fun _ => ?_
 refine Wk (fun _ => ⟨⟨by omega, by omega⟩, LF (hJ _ ⟨by (try dsimp only); omega, by (try dsimp only); omega, by simp <;> omega, by (try dsimp only); omega, h5, h6, h7, h8, h9⟩)⟩) fun _ => ?_
 have hh : zOg a0 a0 := ⟨by omega, by omega, by omega, by omega, h5, h6, h7, h8, h9⟩
 refine Wk (fun _ => ixi ⟨by omega, by simp <;> omega⟩ fun v _ _ _ => hJ _ hh) fun _ => ?_
 refine Wk (fun _ => ixi ⟨by omega, by simp <;> omega⟩ fun v _ _ _ => hJ _ hh) fun _ => ?_
 refine Wk (fun _ => hJ _ hh) fun _ => Wk (fun _ => hJ _ hh) fun _ => Wk (fun _ => hJ _ hh) fun _ => Wk (fun _ => hJ _ hh) fun _ => ?_
 refine Wk (fun _ => nx_ k0 fun v _ hv => hJ _ hh) fun _ => ?_
 refine Wk (fun _ => ⟨⟨by omega, by omega⟩, LF (hJ _ ⟨by (try dsimp only); omega, by (try dsimp only); omega, by (try dsimp only); omega, by simp <;> omega, z0 _ (by (try dsimp only); omega), h6, h7, h8, h9⟩)⟩) fun _ => ?_
 refine Wk (fun _ => hJ _ ⟨by (try dsimp only); omega, by (try dsimp only); omega, by (try dsimp only); omega, by simp, Df ⟨by decide, by decide⟩, h6, h7, h8, h9⟩) fun _ => hJ _ hh)
end Go.Proofs.YtikagchjeogchaaGreat
