/- The walk of CountminBounds. Conditions: Go's ints. -/
import Derived.Test.YtigpbfmnbdbpcaaCmN
namespace Go.Proofs.Ytigpbfmnbdbpcaa
open Go.RowKit Go.ChangeShapes Go.WideShapes
set_option linter.unusedVariables false
set_option linter.unusedSimpArgs false
/-- The weight of a key, and of all. -/
def ownS (key : ByteArray) (L : List (ByteArray × Int)) : Int := L.foldl (fun s x => if x.1 = key then s + x.2 else s) 0
def allS (L : List (ByteArray × Int)) : Int := L.foldl (fun s x => s + x.2) 0
theorem ownS_snoc (key : ByteArray) (L : List (ByteArray × Int)) (x : ByteArray × Int) : ownS key (L ++ [x]) = if x.1 = key then ownS key L + x.2 else ownS key L := by
  unfold ownS; rw [List.foldl_append]; rfl
theorem allS_snoc (L : List (ByteArray × Int)) (x : ByteArray × Int) : allS (L ++ [x]) = allS L + x.2 := by
  unfold allS; rw [List.foldl_append]; rfl
theorem snoc_ind {P : List (ByteArray × Int) → Prop} (L : List (ByteArray × Int)) (h0 : P []) (h : ∀ (M : List (ByteArray × Int)) x, x ∈ L → P M → P (M ++ [x])) : P L := by
  have : ∀ k, k ≤ L.length → P (L.take k) := by
    intro k
    induction k with
    | zero => intro _; simpa using h0
    | succ k ih =>
      intro hk
      rw [List.take_succ_eq_append_getElem (by omega)]
      exact h _ _ (List.getElem_mem _) (ih (by omega))
  have := this L.length (Nat.le_refl _)
  rwa [List.take_length] at this
theorem own_bd (key : ByteArray) {L : List (ByteArray × Int)} (h : ∀ x ∈ L, 0 ≤ x.2 ∧ x.2 ≤ 4294967295) : (0 ≤ ownS key L ∧ ownS key L ≤ allS L) ∧ allS L ≤ 4294967295 * L.length := by
  refine snoc_ind (P := fun M => (0 ≤ ownS key M ∧ ownS key M ≤ allS M) ∧ allS M ≤ 4294967295 * M.length) L ⟨⟨Int.le_refl _, Int.le_refl _⟩, by simp [allS]⟩ ?_
  intro M x hx hM
  have := h x hx
  rw [ownS_snoc, allS_snoc, List.length_append, List.length_singleton]
  split <;> omega
theorem own_le {d s z : Int} (key : ByteArray) {L : List (ByteArray × Int)} (h : ∀ x ∈ L, 0 ≤ x.2) (r : Nat) (hr : r < d.toNat) : ownS key L ≤ sumT d s z L (cmI z s key r) := by
  refine snoc_ind (P := fun M => ownS key M ≤ sumT d s z M (cmI z s key r)) L (Int.le_refl _) ?_
  intro M x hx hM
  have hw := h x hx
  rw [ownS_snoc, sumT_snoc]
  split
  · rename_i e
    have := addF_at (idx := cmI z s x.1) (wt := x.2) (T := sumT d s z M) hw (k := d.toNat) hr
    rw [e] at this ⊢
    omega
  · have := addF_ge (idx := cmI z s x.1) (wt := x.2) (T := sumT d s z M) hw d.toNat (cmI z s key r)
    omega
theorem cmI_inj {d s z : Int} (key : ByteArray) (hs : sizB d s) {a b : Nat} (ha : a < d.toNat) (hb : b < d.toNat) (h : cmI z s key a = cmI z s key b) : a = b := by
  obtain ⟨h1, h2, h3, h4⟩ := hs
  have ca := col_in (z := z) (key := key) (r := (a : Int)) (s := s) (by omega) (by omega) h3 h4
  have cb := col_in (z := z) (key := key) (r := (b : Int)) (s := s) (by omega) (by omega) h3 h4
  have pa : 0 ≤ (a : Int) * s := Int.mul_nonneg (by omega) (by omega)
  have pb : 0 ≤ (b : Int) * s := Int.mul_nonneg (by omega) (by omega)
  have e : (a : Int) * s + colF z a s key = b * s + colF z b s key := by unfold cmI at h; omega
  rcases Nat.lt_trichotomy a b with hab | hab | hab
  · exfalso
    have := Int.mul_le_mul_of_nonneg_right (show (a : Int) + 1 ≤ b by omega) (show 0 ≤ s by omega)
    rw [Int.add_mul] at this
    omega
  · exact hab
  · exfalso
    have := Int.mul_le_mul_of_nonneg_right (show (b : Int) + 1 ≤ a by omega) (show 0 ≤ s by omega)
    rw [Int.add_mul] at this
    omega
theorem le_all {d s z : Int} {L : List (ByteArray × Int)} (hs : sizB d s) (h : ∀ x ∈ L, 0 ≤ x.2) (i : Nat) : sumT d s z L i ≤ allS L := by
  refine snoc_ind (P := fun M => sumT d s z M i ≤ allS M) L (Int.le_refl _) ?_
  intro M x hx hM
  rw [sumT_snoc, allS_snoc]
  have := (addF_le (idx := cmI z s x.1) (wt := x.2) (T := sumT d s z M) (h x hx) (k := d.toNat) (fun a b ha hb e => cmI_inj x.1 hs ha hb e) i).1
  omega
theorem est_bd {d s z : Int} {key : ByteArray} {L : List (ByteArray × Int)} (hs : sizB d s) (h : ∀ x ∈ L, 0 ≤ x.2) (hB : canB (d * s).toNat (sumT d s z L) = false) :
    ownS key L ≤ estK (cmI z s key) (canL (d * s).toNat (sumT d s z L)) d.toNat ∧ estK (cmI z s key) (canL (d * s).toNat (sumT d s z L)) d.toNat ≤ allS L := by
  have hm := mul_in hs
  have hd : 1 ≤ d := hs.1
  have hlt : ∀ r, r < d.toNat → cmI z s key r < (d * s).toNat := fun r hr => by
    have := (cmI_lt (z := z) (l := canL (d * s).toNat (sumT d s z L)) key hs (by rw [length_canL]; omega) (k := r) (by omega)).1
    rwa [length_canL] at this
  have hg : ∀ r, r < d.toNat → gI (canL (d * s).toNat (sumT d s z L)) (cmI z s key r) = sumT d s z L (cmI z s key r) := fun r hr => by
    rw [gI_canL (hlt r hr)]
    have := canB_false hB (hlt r hr)
    omega
  constructor
  · refine le_estK ?_ fun r hr => ?_
    · have h1 := own_le (z := z) (s := s) key h 0 (show 0 < d.toNat by omega)
      have h2 := canB_false hB (hlt 0 (by omega))
      omega
    · rw [hg r hr]; exact own_le key h r hr
  · have h1 := estK_le (idx := cmI z s key) (l := canL (d * s).toNat (sumT d s z L)) (k := d.toNat) (j := 0) (by omega)
    rw [hg 0 (by omega)] at h1
    have := le_all (z := z) hs h (cmI z s key 0)
    omega
theorem itms_in (l : List Int) (k : Nat) : ∀ x ∈ (l.map itmOf).take k, 0 ≤ x.2 ∧ x.2 ≤ 4294967295 := fun x hx => by
  obtain ⟨y, _, rfl⟩ := List.mem_map.1 (List.mem_of_mem_take hx)
  have := (itmOf_ok y).2
  omega
end Go.Proofs.Ytigpbfmnbdbpcaa
