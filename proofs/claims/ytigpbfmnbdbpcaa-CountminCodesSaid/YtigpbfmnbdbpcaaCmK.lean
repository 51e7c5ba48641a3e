/- The walks of known and made. Conditions: Go's ints. -/
import Derived.Test.YtigpbfmnbdbpcaaCmJ
import Derived.Test.YtigpbfmnbdbpcaaItm
import Derived.Test.YtigpbfmnbdbpcaaSeqL
namespace Go.Proofs.Ytigpbfmnbdbpcaa
open Go.RowKit Go.ChangeShapes Go.WideShapes
set_option linter.unusedVariables false
set_option linter.unusedSimpArgs false
theorem cmI_one (z : Int) (key : ByteArray) : cmI z 1 key 0 = 0 := by
  have := col_in (z := z) (key := key) (r := ((0 : Nat) : Int)) (s := 1) (by omega) (by omega) (by omega) (by omega)
  unfold cmI
  omega
set_option maxRecDepth 100000 in
set_option maxHeartbeats 1600000 in
theorem knowncm_any (w : World) :
    Calls Try.prog 10 #[] w fun e w' => e = .returned (.bool true) ∧ w.grownBy w' none := by
  have hE : insE 1 1 [0] ⟨#[97]⟩ 3 = 0 := by decide
  have hV : insV 1 1 5 [0] false ⟨#[97]⟩ 3 = ([3], false) := by
    unfold insV
    rw [if_pos hE]
    show stepC (cmI 5 1 ⟨#[97]⟩ 0) 3 ([0], false) = _
    rw [cmI_one]
    decide
  have hF : estE 1 1 [3] ⟨#[98]⟩ = 0 := by decide
  have hW : estV 1 1 5 [3] ⟨#[98]⟩ = 3 := by
    unfold estV
    rw [if_pos hF]
    show min 4294967295 (gI [3] (cmI 5 1 ⟨#[98]⟩ 0)) = _
    rw [cmI_one]
    decide
  have hI : ∀ x, insI 1 1 [0] ⟨#[97]⟩ 3 x = x := fun x => by unfold insI; rw [if_pos hE]
  have C1 := Lib.hid (fun w => cmnew_any 1 1 5 w)
  rw [show nwI 1 1 1 = 1 from by decide, show nwI 1 1 5 = 5 from by decide, show nwE 1 1 = 0 from by decide, show nwL 1 1 = [0] from by decide] at C1
  have C2 := Lib.hid (fun v w (h : Ints .i64 w v [0]) => cminsert_any 1 1 5 v [0] false ⟨#[97]⟩ 3 w h (by decide) (by omega))
  simp only [hE, hV, hI] at C2
  have C3 := Lib.hid (fun v w (h : Ints .i64 w v [3]) => cmest_any 1 1 5 v [3] false ⟨#[98]⟩ w h (by decide))
  simp only [hF, hW] at C3
  clear hE hV hF hW hI
  go_enter Try.func10, Try.ntmps10
  go_wp2_with fail
  refine (C1.out _).mono ?_
  rintro e w1 ⟨u1, rfl, I1, -, g1⟩
  have hI1 := I1
  obtain ⟨a, cap, rfl, -, -, -, -⟩ := id I1
  go_wp2_with fail
  refine (C2.out _ _ (I1.grown (grown_alloc _ _))).mono ?_
  rintro e w2 ⟨u2, rfl, I2, -, g2⟩
  obtain ⟨a2, cap2, rfl, -, -, -, -⟩ := id I2
  go_wp2_with fail
  refine (C3.out _ _ (I2.grown (grown_alloc _ _))).mono ?_
  rintro e w3 ⟨rfl, g3⟩
  go_wp2
  go_ret
  exact ⟨rfl, ((g1.trans' (grown_alloc _ _)).trans' g2).trans' ((grown_alloc _ _).trans' g3)⟩
def i2u (x : Int) : Int := IntKind.u64.wrap x
def sumT (d s z : Int) (L : List (ByteArray × Int)) : Nat → Int := L.foldl (fun T x => addF (cmI z s x.1) x.2 T d.toNat) (fun _ => 0)
def itmOf (x : Int) : ByteArray × Int := (itmK (bits BinOp.and IntKind.i64 x 65535), itmW (bits BinOp.and IntKind.i64 x 65535))
def mdD (x : Int) : Int := 1 + bits BinOp.and IntKind.i64 x 3
def mdS (x : Int) : Int := 1 + bits BinOp.and IntKind.i64 x 7
def mdT (a b c : Int) (l : List Int) : Nat → Int := sumT (mdD a) (mdS b) (i2u c) ((l.map itmOf).take 7)
def mdN (a b : Int) : Nat := (mdD a * mdS b).toNat
theorem sumT_snoc (d s z : Int) (L : List (ByteArray × Int)) (x : ByteArray × Int) : sumT d s z (L ++ [x]) = addF (cmI z s x.1) x.2 (sumT d s z L) d.toNat := by
  unfold sumT; rw [List.foldl_append]; rfl
theorem sumT_nonneg (d s z : Int) {L : List (ByteArray × Int)} (h : ∀ x ∈ L, 0 ≤ x.2) : ∀ i, 0 ≤ sumT d s z L i := by
  suffices H : ∀ (L : List (ByteArray × Int)) (T : Nat → Int), (∀ x ∈ L, 0 ≤ x.2) → (∀ i, 0 ≤ T i) → ∀ i, 0 ≤ L.foldl (fun T x => addF (cmI z s x.1) x.2 T d.toNat) T i from H L _ h (fun _ => Int.le_refl _)
  intro L
  induction L with
  | nil => intro T _ hT; exact hT
  | cons x L ih =>
    intro T hL hT
    rw [List.foldl_cons]
    exact ih _ (fun y hy => hL y (by simp [hy])) (fun i => addF_nonneg (hL x (by simp)) hT _ i)
theorem cmE_can {d s : Int} {T : Nat → Int} (hs : sizB d s) (hT : ∀ i, 0 ≤ T i) : cmE d s (canL (d * s).toNat T) = 0 := by
  have := mul_in hs
  unfold cmE
  rw [if_neg (by simpa using hs), if_neg (by rw [length_canL]; omega), if_neg (fun h => h (okL_canL hT))]
theorem keyB_of {key : ByteArray} (h : 1 ≤ key.size ∧ key.size ≤ 3) : keyB key = true := decide_eq_true ⟨h.1, by omega⟩
theorem itemE_of {key : ByteArray} {wt : Int} (h : 1 ≤ key.size ∧ key.size ≤ 3) (hw : 1 ≤ wt ∧ wt ≤ 4294967295) : itemE key wt = 0 := by
  unfold itemE
  rw [if_neg (by rw [keyB_of h]; simp), if_neg (by omega)]
theorem ins_can {d s z : Int} {T : Nat → Int} {key : ByteArray} {wt : Int} (hs : sizB d s) (hT : ∀ i, 0 ≤ T i) (hk : 1 ≤ key.size ∧ key.size ≤ 3) (hw : 1 ≤ wt ∧ wt ≤ 4294967295) :
    insE d s (canL (d * s).toNat T) key wt = 0 ∧ insV d s z (canL (d * s).toNat T) (canB (d * s).toNat T) key wt = (canL (d * s).toNat (addF (cmI z s key) wt T d.toNat), canB (d * s).toNat (addF (cmI z s key) wt T d.toNat)) := by
  have hm := mul_in hs
  have h1 : insE d s (canL (d * s).toNat T) key wt = 0 := by
    unfold insE
    rw [if_neg (by rw [cmE_can hs hT]; simp)]
    exact itemE_of hk hw
  refine ⟨h1, ?_⟩
  unfold insV
  rw [if_pos h1]
  refine insK_can (fun j hj => ?_) hT (by omega)
  have := (cmI_lt (z := z) (l := canL (d * s).toNat T) key hs (by rw [length_canL]; omega) (k := j) (by omega)).1
  rwa [length_canL] at this
theorem cmins_can {d s z : Int} {T : Nat → Int} {key : ByteArray} {wt : Int} {n : Nat} (u : Value) (w : World) (hs : sizB d s) (hn : n = (d * s).toNat) (hT : ∀ i, 0 ≤ T i) (hk : 1 ≤ key.size ∧ key.size ≤ 3) (hw : 1 ≤ wt ∧ wt ≤ 4294967295) (hu : Ints .i64 w u (canL n T)) :
    Calls Try.prog 19 #[.agg #[.int .i64 d, .int .i64 s, .int .u64 z, u, .bool (canB n T)], .agg #[.string key, .int .i64 wt]] w fun e w' => ∃ u, e = .returned (.tuple #[.agg #[.int .i64 d, .int .i64 s, .int .u64 z, u, .bool (canB n (addF (cmI z s key) wt T d.toNat))], .int .i64 0]) ∧ Ints .i64 w' u (canL n (addF (cmI z s key) wt T d.toNat)) ∧ Fresh w.heap.size u ∧ w.grownBy w' none := by
  subst hn
  obtain ⟨h1, h2⟩ := ins_can (z := z) hs hT hk hw
  have h := cminsert_any d s z u _ (canB (d * s).toNat T) key wt w hu (by omega) (by omega)
  have hI : ∀ y, insI d s (canL (d * s).toNat T) key wt y = y := fun y => by unfold insI; rw [if_pos h1]
  rw [hI, hI, hI, h1, h2] at h
  exact h
theorem cminsr_can {d s z : Int} {T : Nat → Int} {key : ByteArray} {wt : Int} {n : Nat} (u : Value) (w : World) (hs : sizB d s) (hn : n = (d * s).toNat) (hT : ∀ i, 0 ≤ T i) (hk : 1 ≤ key.size ∧ key.size ≤ 3) (hw : 1 ≤ wt ∧ wt ≤ 4294967295) (hu : Ints .i64 w u (canL n T)) :
    Calls Try.prog 20 #[.agg #[.int .i64 d, .int .i64 s, .int .u64 z, u, .bool (canB n T)], .agg #[.string key, .int .i64 wt]] w fun e w' => ∃ u, e = .returned (.tuple #[.agg #[.int .i64 d, .int .i64 s, .int .u64 z, u, .bool (canB n (addF (cmI z s key) wt T d.toNat))], .int .i64 0]) ∧ Ints .i64 w' u (canL n (addF (cmI z s key) wt T d.toNat)) ∧ Fresh w.heap.size u ∧ w.grownBy w' none := by
  subst hn
  obtain ⟨h1, h2⟩ := ins_can (z := z) hs hT hk hw
  have h := cminsertr_any d s z u _ (canB (d * s).toNat T) key wt w hu (by omega) (by omega)
  have hI : ∀ y, insI d s (canL (d * s).toNat T) key wt y = y := fun y => by unfold insI; rw [if_pos h1]
  rw [hI, hI, hI, h1, h2] at h
  exact h
theorem canL_zero (n : Nat) : canL n (fun _ => 0) = List.replicate n 0 := by
  refine ext_of_gI (by simp [length_canL]) ?_
  intro i hi
  rw [length_canL] at hi
  rw [gI_canL hi]
  simp [gI, List.getD_eq_getElem?_getD, List.getElem?_replicate, hi]
  omega
theorem canB_zero (n : Nat) : canB n (fun _ => 0) = false := by
  cases h : canB n (fun _ => 0)
  · rfl
  · obtain ⟨i, _, h⟩ := canB_iff.1 h
    omega
theorem mdD_in (x : Int) : 1 ≤ mdD x ∧ mdD x ≤ 4 := by
  unfold mdD
  rw [and_mask x 2 (by omega) 3 (by decide)]
  omega
theorem mdS_in (x : Int) : 1 ≤ mdS x ∧ mdS x ≤ 8 := by
  unfold mdS
  rw [and_mask x 3 (by omega) 7 (by decide)]
  omega
theorem md_siz (a b : Int) : sizB (mdD a) (mdS b) := by
  have := mdD_in a
  have := mdS_in b
  exact ⟨by omega, by omega, by omega, by omega⟩
theorem itmOf_ok (x : Int) : (1 ≤ (itmOf x).1.size ∧ (itmOf x).1.size ≤ 3) ∧ 1 ≤ (itmOf x).2 ∧ (itmOf x).2 ≤ 4294967295 := ⟨itmK_size _, itmW_in _⟩
theorem itms_nonneg (l : List Int) : ∀ x ∈ l.map itmOf, 0 ≤ x.2 := by
  intro x hx
  obtain ⟨y, _, rfl⟩ := List.mem_map.1 hx
  have := (itmOf_ok y).2
  omega
theorem Fresh.mono {B B' : Nat} {v : Value} (h : Fresh B v) (hb : B' ≤ B) : Fresh B' v := fun a n c e => Nat.le_trans hb (h a n c e)
def mdB (a b c : Int) (L : List (ByteArray × Int)) : Bool := canB (mdN a b) (sumT (mdD a) (mdS b) (i2u c) L)
def mdL (a b c : Int) (L : List (ByteArray × Int)) : List Int := canL (mdN a b) (sumT (mdD a) (mdS b) (i2u c) L)
theorem mdins (a b c : Int) (L : List (ByteArray × Int)) (hL : ∀ x ∈ L, 0 ≤ x.2) (x : Int) (u : Value) (w : World) (h : Ints .i64 w u (mdL a b c L)) :
    Calls Try.prog 20 #[.agg #[.int .i64 (mdD a), .int .i64 (mdS b), .int .u64 (i2u c), u, .bool (mdB a b c L)], .agg #[.string (itmOf x).1, .int .i64 (itmOf x).2]] w fun e w' => ∃ u, e = .returned (.tuple #[.agg #[.int .i64 (mdD a), .int .i64 (mdS b), .int .u64 (i2u c), u, .bool (mdB a b c (L ++ [itmOf x]))], .int .i64 0]) ∧ Ints .i64 w' u (mdL a b c (L ++ [itmOf x])) ∧ Fresh w.heap.size u ∧ w.grownBy w' none := by
  have h := cminsr_can (z := i2u c) (n := mdN a b) (key := (itmOf x).1) (wt := (itmOf x).2) u w (md_siz a b) rfl (sumT_nonneg (mdD a) (mdS b) (i2u c) hL) (itmOf_ok x).1 (itmOf_ok x).2 h
  rw [← sumT_snoc] at h
  exact h
theorem mdL_nil (a b c : Int) : mdL a b c [] = List.replicate (mdN a b) 0 := canL_zero _
theorem mdB_nil (a b c : Int) : mdB a b c [] = false := canB_zero _
theorem itms_nonneg' (l : List Int) (k : Nat) : ∀ x ∈ (l.map itmOf).take k, 0 ≤ x.2 := fun x hx => itms_nonneg l x (List.mem_of_mem_take hx)
theorem itms_snoc {l : List Int} {k : Nat} (h : k < l.length) : (l.map itmOf).take (k + 1) = (l.map itmOf).take k ++ [itmOf (gI l k)] := by
  rw [← List.map_take, ← List.map_take, take_succ_gI h, List.map_append]; rfl
theorem itms_end {l : List Int} {k : Nat} (h : l.length ≤ k) (h7 : k ≤ 7) : (l.map itmOf).take 7 = (l.map itmOf).take k := by rw [List.take_of_length_le (by simp; omega), List.take_of_length_le (by simp; omega)]
set_option maxRecDepth 100000 in
set_option maxHeartbeats 3200000 in
theorem madecm_any (a b c : Int) (v : Value) (l : List Int) (w : World) (ha : i64I a) (hb : i64I b) (hc : i64I c) (hv : Ints .i64 w v l) :
    Calls Try.prog 17 #[.int .i64 a, .int .i64 b, .int .i64 c, v] w fun e w' => ∃ u, e = .returned (.agg #[.int .i64 (mdD a), .int .i64 (mdS b), .int .u64 (i2u c), u, .bool (mdB a b c ((l.map itmOf).take 7))]) ∧ Ints .i64 w' u (mdL a b c ((l.map itmOf).take 7)) ∧ w.grownBy w' none := by
  have hsz := md_siz a b
  have hD := mdD_in a
  have hS := mdS_in b
  have C1 := Lib.hid (fun w => cmnewr_any (mdD a) (mdS b) (i2u c) w)
  rw [show nwI (mdD a) (mdS b) (mdD a) = mdD a from if_pos hsz, show nwI (mdD a) (mdS b) (mdS b) = mdS b from if_pos hsz, show nwI (mdD a) (mdS b) (i2u c) = i2u c from if_pos hsz, show nwE (mdD a) (mdS b) = 0 from if_pos hsz, show nwL (mdD a) (mdS b) = List.replicate (mdN a b) 0 from if_pos hsz, ← mdL_nil a b c] at C1
  have C2 := Lib.hid (fun L hL => mdins a b c L hL)
  have CI := Lib.hid (fun (x : Int) w => itm_any (bits BinOp.and IntKind.i64 x 65535) w (by unfold i64I; rw [and_mask x 16 (by omega) 65535 (by decide)]; omega))
  have hN := mdB_nil a b c
  have eD : 1 + bits BinOp.and IntKind.i64 a 3 = mdD a := rfl
  have eS : 1 + bits BinOp.and IntKind.i64 b 7 = mdS b := rfl
  have eZ : IntKind.u64.wrap c = i2u c := rfl
  have bD : 0 ≤ bits BinOp.and IntKind.i64 a 3 ∧ bits BinOp.and IntKind.i64 a 3 ≤ 3 := by omega
  have bS : 0 ≤ bits BinOp.and IntKind.i64 b 7 ∧ bits BinOp.and IntKind.i64 b 7 ≤ 7 := by omega
  generalize mdL a b c = q at *
  generalize mdB a b c = p at *
  generalize mdD a = D at *
  generalize mdS b = S at *
  generalize i2u c = Z at *
  obtain ⟨am, ea⟩ : ∃ m, bits BinOp.and IntKind.i64 a 3 = m := ⟨_, rfl⟩
  obtain ⟨bm, eb⟩ : ∃ m, bits BinOp.and IntKind.i64 b 7 = m := ⟨_, rfl⟩
  rw [ea] at eD bD
  rw [eb] at eS bS
  unfold i64I at ha hb hc
  obtain ⟨av, cap, rfl, h1, h2, h3, h4⟩ := hv
  unfold maxLen at h2
  have HN := Lib.hid hN
  have H4 := Lib.hid h4
  clear h3 hsz hN h4
  go_enter Try.func17, Try.ntmps17
  go_wp2_with fail
  refine (C1.out _).mono ?_
  rintro e w1 ⟨u1, rfl, I1, f1, g1⟩
  have r1 := (Blk.new w _ _).keep g1
  have hz1 : w.heap.size + 1 ≤ w1.heap.size := by simpa using g1.size
  have G1 := (grown_alloc _ _).trans' g1
  obtain ⟨a1, k1, rfl, -, -, -, -⟩ := id I1
  have b1 := Blk.new w1 #[Value.int IntKind.i64 D, Value.int IntKind.i64 S, Value.int IntKind.u64 Z, Value.slice a1 (q []).length k1, Value.bool false] 26
  go_wp2
  go_loopw [11] (fun i wr => ∃ (k : Nat) (u : Value), k ≤ l.length ∧ k ≤ 7 ∧ i = .int .i64 k ∧ Blk w1.heap.size #[Value.int IntKind.i64 D, Value.int IntKind.i64 S, Value.int IntKind.u64 Z, u, Value.bool (p ((l.map itmOf).take k))] 26 wr ∧ Ints .i64 wr u (q ((l.map itmOf).take k)) ∧ Fresh (w.heap.size + 1) u ∧ Two w1.heap.size w1.heap.size w1 wr) (fun i _ => 7 - (intOf i).toNat)
  case atStart =>
    refine ⟨0, _, by omega, by omega, rfl, ?_, I1.grown (grown_alloc _ _), f1.mono (by simp), (Two.refl _ _ _).grown (grown_alloc _ _)⟩
    show Blk _ #[_, _, _, _, .bool (p [])] _ _
    rw [HN.out]
    exact b1
  case round =>
    obtain ⟨k, u, hk, hk7, rfl, b2, I2, f2, T2⟩ := hrel
    have G2 := T2.up G1 (by omega) (by omega)
    by_cases hlt : k < l.length
    · by_cases h7 : k < 7
      · obtain ⟨bl, off, rfl, hbl, hcl⟩ : ∃ bl off, av = some ⟨bl, off, none⟩ ∧ bl < w.heap.size ∧ ∀ i, i < l.length → w.cell? ⟨bl, off + i, none⟩ = some (.int .i64 (gI l i)) := by
          rcases H4.out with h4 | h4
          · subst h4; simp at hlt
          · exact h4
        have hck := kcell G2 (hcl k hlt) hbl
        have C3 := CI.out (gI l k)
        have C4 := C2.out ((l.map itmOf).take k) (itms_nonneg' l k) (gI l k)
        rw [← itms_snoc hlt] at C4
        simp only [itmOf] at C4
        have CC := Lib.hid C3
        have CD := Lib.hid C4
        have hlt' : decide ((k : Int) < l.length) = true := decide_eq_true (by omega)
        have h7' : decide ((k : Int) < 7) = true := decide_eq_true (by omega)
        obtain ⟨au, ku, rfl, -, -, -, -⟩ := id I2
        have hzr := T2.size
        have hb2 := b2.lt
        generalize p ((l.map itmOf).take k) = pk at *
        generalize q ((l.map itmOf).take k) = qk at *
        clear C3 C4 H4 C2 CI
        have f0 : ∀ w' : World, wr.grownBy w' none → w'.cell? ⟨w1.heap.size, 0, none⟩ = some (.int .i64 D) := fun w' g => (b2.keep g).at5.1
        have f1 : ∀ w' : World, wr.grownBy w' none → w'.cell? ⟨w1.heap.size, 1, none⟩ = some (.int .i64 S) := fun w' g => (b2.keep g).at5.2.1
        have f2 : ∀ w' : World, wr.grownBy w' none → w'.cell? ⟨w1.heap.size, 2, none⟩ = some (.int .u64 Z) := fun w' g => (b2.keep g).at5.2.2.1
        have f3 : ∀ w' : World, wr.grownBy w' none → w'.cell? ⟨w1.heap.size, 3, none⟩ = some (.slice au qk.length ku) := fun w' g => (b2.keep g).at5.2.2.2.1
        have f4 : ∀ w' : World, wr.grownBy w' none → w'.cell? ⟨w1.heap.size, 4, none⟩ = some (.bool pk) := fun w' g => (b2.keep g).at5.2.2.2.2.1
        have fx : ∀ w' : World, wr.grownBy w' none → w'.cell? ⟨bl, off + k, none⟩ = some (.int .i64 (gI l k)) := fun w' g => kcell (G2.trans' g) (hcl k hlt) hbl
        clear hck
        have e1 : (k : Int) < l.length := by omega
        have e2 : (0 : Int) ≤ k := by omega
        go_wp2_with fail
        refine wp_region_sqL 11 [0, 1, 2, 3, 4, 5, 6, 7, 8, 9, 10, 11] [0, 0, 0, 0, 0, 0, 1, 1, 0, 0, 2, 3] (fun w' => wr.grownBy w' none) (by kernel_rfl) (by kernel_rfl) (by kernel_rfl) (by kernel_rfl) (grown_drew1 _) ?_
        simp only [pick, List.map_cons, List.map_nil, List.getD_cons_zero, List.getD_cons_succ]
        repeat (first
          | ((refine sqL_skip (by rfl) ?_); (try simp only [Act.put, List.setIfInBounds_toArray, List.set_cons_zero, List.set_cons_succ]))
          | (((first | refine sqL_take ?_ (by rfl) ?_ ?_ | refine sqL_pure ?_ (by rfl) ?_ ?_)); rotate_left; (focus (intro w' hS; go_simp; first | done | with_reducible rfl)); (try simp only [Act.put, List.setIfInBounds_toArray, List.set_cons_zero, List.set_cons_succ])))
        refine sqL_run (by rfl) ?_
        intro K hK
        go_simp
        refine (CC.out _).mono ?_
        rintro e w5 ⟨rfl, g5⟩
        have G5 := (grown_drew1 wr).trans' g5
        refine hK _ _ G5 ?_
        clear hK K
        try simp only [Act.put, List.setIfInBounds_toArray, List.set_cons_zero, List.set_cons_succ]
        refine sqL_run (by rfl) ?_
        intro K hK
        go_simp
        refine (CD.out _ _ (I2.grown G5)).mono ?_
        rintro e w6 ⟨u6, rfl, I6, f6, g6⟩
        have G6 := G5.trans' g6
        have hz6 := G6.size
        have hz5 := G5.size
        obtain ⟨a6, k6, rfl, -, -, -, -⟩ := id I6
        have b6 := b2.keep G6
        refine hK _ _ G6 ?_
        clear hK K
        try simp only [Act.put, List.setIfInBounds_toArray, List.set_cons_zero, List.set_cons_succ]
        repeat (first
          | ((refine sqL_skip (by rfl) ?_); (try simp only [Act.put, List.setIfInBounds_toArray, List.set_cons_zero, List.set_cons_succ]))
          | (((first | refine sqL_take ?_ (by rfl) ?_ ?_ | refine sqL_pure ?_ (by rfl) ?_ ?_)); rotate_left; (focus (intro w' hS; go_simp; first | done | with_reducible rfl)); (try simp only [Act.put, List.setIfInBounds_toArray, List.set_cons_zero, List.set_cons_succ])))
        clear f0 f1 f2 f3 f4 fx
        obtain ⟨y10, y11, y12, y13, y14, y15⟩ := b6.at5
        refine sqL_last (by rfl) ?_
        intro K hK
        go_simp
        refine hK _ _ ?_
        clear hK K
        try simp only [Act.put, List.setIfInBounds_toArray, List.set_cons_zero, List.set_cons_succ]
        go_wp2
        go_roundw
        case rel =>
          refine ⟨k + 1, _, by omega, by omega, by go_num, ((((b6.set 0 _).set 1 _).set 2 _).set 3 _).set 4 _, ((((I6.setF f6 _ ?_).setF f6 _ ?_).setF f6 _ ?_).setF f6 _ ?_).setF f6 _ ?_, f6.mono ?_, (((((T2.grown G6).setp 0 _).setp 1 _).setp 2 _).setp 3 _).setp 4 _⟩ <;> omega
        case measure => simp [intOf]; omega
      · obtain rfl : k = 7 := by omega
        have hlt' : decide (((7 : Nat) : Int) < l.length) = true := decide_eq_true (by omega)
        have h7' : decide (((7 : Nat) : Int) < 7) = false := by decide
        obtain ⟨au, ku, rfl, -, -, -, -⟩ := id I2
        have hb2 := b2.lt
        obtain ⟨c10, c11, c12, c13, c14, c15⟩ := b2.at5
        have r3 := r1.keep (grown_alloc _ (Obj.cells #[Value.int IntKind.i64 D, Value.int IntKind.i64 S, Value.int IntKind.u64 Z, Value.slice a1 (q []).length k1, Value.bool false] 26))
        have hr1 := r1.lt
        have r4 := r1.two T2 (by omega) (by omega)
        obtain ⟨r10, r11, r12, r13, r14, r15⟩ := r4.at5
        go_wp2
        refine bodyPost_ret (v := .agg #[.int .i64 D, .int .i64 S, .int .u64 Z, .slice au (q ((l.map itmOf).take 7)).length ku, .bool (p ((l.map itmOf).take 7))]) ?_ rfl ⟨_, rfl, ?_, ?_⟩
        · simp [results, Try.results17, go_sem, r10, r11, r12, r13, r14]
        · exact ((((I2.setF f2 _ (by omega)).setF f2 _ (by omega)).setF f2 _ (by omega)).setF f2 _ (by omega)).setF f2 _ (by omega)
        · refine grown_set (grown_set (grown_set (grown_set (grown_set G2 _ ?_) _ ?_) _ ?_) _ ?_) _ ?_ <;> omega
    · have HE := Lib.hid (itms_end (show l.length ≤ k by omega) hk7)
      have hlt' : decide ((k : Int) < l.length) = false := decide_eq_false (by omega)
      obtain ⟨au, ku, rfl, -, -, -, -⟩ := id I2
      have hb2 := b2.lt
      obtain ⟨c10, c11, c12, c13, c14, c15⟩ := b2.at5
      have r3 := r1.keep (grown_alloc _ (Obj.cells #[Value.int IntKind.i64 D, Value.int IntKind.i64 S, Value.int IntKind.u64 Z, Value.slice a1 (q []).length k1, Value.bool false] 26))
      have hr1 := r1.lt
      have r4 := r1.two T2 (by omega) (by omega)
      obtain ⟨r10, r11, r12, r13, r14, r15⟩ := r4.at5
      go_wp2
      refine bodyPost_ret (v := .agg #[.int .i64 D, .int .i64 S, .int .u64 Z, .slice au (q ((l.map itmOf).take k)).length ku, .bool (p ((l.map itmOf).take k))]) ?_ rfl ⟨_, by rw [HE.out], ?_, ?_⟩
      · simp [results, Try.results17, go_sem, r10, r11, r12, r13, r14]
      · rw [HE.out]
        exact ((((I2.setF f2 _ (by omega)).setF f2 _ (by omega)).setF f2 _ (by omega)).setF f2 _ (by omega)).setF f2 _ (by omega)
      · refine grown_set (grown_set (grown_set (grown_set (grown_set G2 _ ?_) _ ?_) _ ?_) _ ?_) _ ?_ <;> omega
end Go.Proofs.Ytigpbfmnbdbpcaa
