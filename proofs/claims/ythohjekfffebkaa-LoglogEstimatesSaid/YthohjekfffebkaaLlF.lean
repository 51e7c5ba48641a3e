/- Registers as greatest ranks, and the walk of made. Conditions: Go's ints. -/
import Derived.Test.YthohjekfffebkaaLlE
import Derived.Test.YthohjekfffebkaaSeqT
namespace Go.Proofs.Ythohjekfffebkaa
open Go.RowKit Go.ChangeShapes Go.WideShapes
set_option linter.unusedVariables false
set_option linter.unusedSimpArgs false
def i2u (x : Int) : Int := IntKind.u64.wrap x
def lgL (n : Nat) (T : Nat → Int) : List Int := (List.range n).map T
def maxF (i : Nat) (r : Int) (T : Nat → Int) : Nat → Int := fun j => if j = i then max (T j) r else T j
theorem length_lgL (n : Nat) (T : Nat → Int) : (lgL n T).length = n := by simp [lgL]
theorem gI_lgL {n : Nat} {T : Nat → Int} {i : Nat} (h : i < n) : gI (lgL n T) i = T i := by
  rw [gI_eq (by rw [length_lgL]; exact h)]; simp [lgL]
theorem lgL_zero (n : Nat) : lgL n (fun _ => 0) = List.replicate n 0 := by
  refine ext_of_gI (by simp [length_lgL]) ?_
  intro i hi
  rw [length_lgL] at hi
  rw [gI_lgL hi]
  simp [gI, List.getD_eq_getElem?_getD, List.getElem?_replicate, hi]
theorem lgL_set {n i : Nat} {T : Nat → Int} (hi : i < n) (r : Int) : (lgL n T).set i (max (gI (lgL n T) i) r) = lgL n (maxF i r T) := by
  refine ext_of_gI (by simp [length_lgL]) ?_
  intro j hj
  simp only [List.length_set, length_lgL] at hj
  rw [gI_set _ _ _ _ (by rw [length_lgL]; exact hi), gI_lgL hi, gI_lgL hj, gI_lgL hj]
  unfold maxF
  by_cases h : j = i
  · subst h; simp
  · rw [if_neg h, if_neg h]
/-- The ranks of items. -/
def rkT (p z : Int) (L : List (ByteArray × Int)) : Nat → Int := L.foldl (fun T x => maxF (llI p z x.1) (posK p z x.1) T) (fun _ => 0)
theorem rkT_snoc (p z : Int) (L : List (ByteArray × Int)) (x : ByteArray × Int) : rkT p z (L ++ [x]) = maxF (llI p z x.1) (posK p z x.1) (rkT p z L) := by
  unfold rkT; rw [List.foldl_append]; rfl
def okT (p : Int) (T : Nat → Int) : Prop := ∀ i, 0 ≤ T i ∧ T i ≤ 65 - p
theorem okT_max {p : Int} {T : Nat → Int} {i : Nat} {r : Int} (h : okT p T) (hr : 0 ≤ r ∧ r ≤ 65 - p) : okT p (maxF i r T) := by
  intro j
  have := h j
  unfold maxF
  split <;> omega
theorem keyB_of {key : ByteArray} (h : 1 ≤ key.size ∧ key.size ≤ 3) : keyB key = true := decide_eq_true ⟨h.1, by omega⟩
theorem itemE_of {key : ByteArray} {wt : Int} (h : 1 ≤ key.size ∧ key.size ≤ 3) (hw : 1 ≤ wt ∧ wt ≤ 4294967295) : itemE key wt = 0 := by
  unfold itemE
  rw [if_neg (by rw [keyB_of h]; simp), if_neg (by omega)]
def itmOf (x : Int) : ByteArray × Int := (itmK (bits BinOp.and IntKind.i64 x 65535), itmW (bits BinOp.and IntKind.i64 x 65535))
theorem itmOf_ok (x : Int) : (1 ≤ (itmOf x).1.size ∧ (itmOf x).1.size ≤ 3) ∧ 1 ≤ (itmOf x).2 ∧ (itmOf x).2 ≤ 4294967295 := ⟨itmK_size _, itmW_in _⟩
theorem rkT_ok {p z : Int} (hp : pOK p) {L : List (ByteArray × Int)} (hL : ∀ x ∈ L, keyB x.1 = true) : okT p (rkT p z L) := by
  suffices H : ∀ (L : List (ByteArray × Int)) (T : Nat → Int), (∀ x ∈ L, keyB x.1 = true) → okT p T → okT p (L.foldl (fun T x => maxF (llI p z x.1) (posK p z x.1) T) T) from
    H L _ hL (fun i => ⟨Int.le_refl _, by have := hp.2; show (0 : Int) ≤ 65 - p; omega⟩)
  intro L
  induction L with
  | nil => intro T _ hT; exact hT
  | cons x L ih =>
    intro T hL hT
    rw [List.foldl_cons]
    have := (pos_in (z := z) hp (hL x (by simp))).2
    exact ih _ (fun y hy => hL y (by simp [hy])) (okT_max hT ⟨by omega, this.2⟩)
theorem llE_can {p : Int} {T : Nat → Int} (hp : pOK p) (hT : okT p T) : llE p (lgL (p2 p) T) = 0 := by
  unfold llE
  rw [if_neg (by simpa using hp), if_neg (by rw [length_lgL]; omega), if_neg]
  intro h
  refine h fun x hx => ?_
  simp only [lgL, List.mem_map] at hx
  obtain ⟨i, _, rfl⟩ := hx
  exact hT i
theorem lli_lt {p z : Int} {key : ByteArray} (hp : pOK p) (hk : keyB key = true) : llI p z key < p2 p := by
  have := (pos_in (z := z) hp hk).1
  unfold llI
  omega
theorem lins_can {p z : Int} {T : Nat → Int} {key : ByteArray} {wt : Int} (hp : pOK p) (hT : okT p T) (hk : 1 ≤ key.size ∧ key.size ≤ 3) (hw : 1 ≤ wt ∧ wt ≤ 4294967295) :
    liE p (lgL (p2 p) T) key wt = 0 ∧ liV p z (lgL (p2 p) T) key wt = lgL (p2 p) (maxF (llI p z key) (posK p z key) T) := by
  have h1 : liE p (lgL (p2 p) T) key wt = 0 := by
    unfold liE
    rw [if_neg (by rw [llE_can hp hT]; simp)]
    exact itemE_of hk hw
  refine ⟨h1, ?_⟩
  unfold liV
  rw [if_pos h1, lgL_set (lli_lt hp (keyB_of hk))]
theorem llins_can {p z : Int} {T : Nat → Int} {key : ByteArray} {wt : Int} (u : Value) (w : World) (hp : pOK p) (hT : okT p T) (hk : 1 ≤ key.size ∧ key.size ≤ 3) (hw : 1 ≤ wt ∧ wt ≤ 4294967295) (hu : Ints .i64 w u (lgL (p2 p) T)) :
    Calls Try.prog 19 #[.agg #[.int .i64 p, .int .u64 z, u], .agg #[.string key, .int .i64 wt]] w fun e w' => ∃ u, e = .returned (.tuple #[.agg #[.int .i64 p, .int .u64 z, u], .int .i64 0]) ∧ Ints .i64 w' u (lgL (p2 p) (maxF (llI p z key) (posK p z key) T)) ∧ Fresh w.heap.size u ∧ w.grownBy w' none := by
  obtain ⟨h1, h2⟩ := lins_can (z := z) hp hT hk hw
  have h := llins_any p z u _ key wt w hu (by omega)
  have hI : ∀ y, liI p (lgL (p2 p) T) key wt y = y := fun y => by unfold liI; rw [if_pos h1]
  rw [hI, hI, h1, h2] at h
  exact h
theorem llinsr_can {p z : Int} {T : Nat → Int} {key : ByteArray} {wt : Int} (u : Value) (w : World) (hp : pOK p) (hT : okT p T) (hk : 1 ≤ key.size ∧ key.size ≤ 3) (hw : 1 ≤ wt ∧ wt ≤ 4294967295) (hu : Ints .i64 w u (lgL (p2 p) T)) :
    Calls Try.prog 20 #[.agg #[.int .i64 p, .int .u64 z, u], .agg #[.string key, .int .i64 wt]] w fun e w' => ∃ u, e = .returned (.tuple #[.agg #[.int .i64 p, .int .u64 z, u], .int .i64 0]) ∧ Ints .i64 w' u (lgL (p2 p) (maxF (llI p z key) (posK p z key) T)) ∧ Fresh w.heap.size u ∧ w.grownBy w' none := by
  obtain ⟨h1, h2⟩ := lins_can (z := z) hp hT hk hw
  have h := llinsr_any p z u _ key wt w hu (by omega)
  have hI : ∀ y, liI p (lgL (p2 p) T) key wt y = y := fun y => by unfold liI; rw [if_pos h1]
  rw [hI, hI, h1, h2] at h
  exact h
def mdP (x : Int) : Int := 2 + bits BinOp.and IntKind.i64 x 3
theorem mdP_ok (x : Int) : pOK (mdP x) ∧ mdP x ≤ 5 := by
  unfold mdP pOK
  rw [and_mask x 2 (by omega) 3 (by decide)]
  omega
theorem itms_key (l : List Int) (k : Nat) : ∀ x ∈ (l.map itmOf).take k, keyB x.1 = true := fun x hx => by
  obtain ⟨y, _, rfl⟩ := List.mem_map.1 (List.mem_of_mem_take hx)
  exact keyB_of (itmOf_ok y).1
theorem itms_snoc {l : List Int} {k : Nat} (h : k < l.length) : (l.map itmOf).take (k + 1) = (l.map itmOf).take k ++ [itmOf (gI l k)] := by
  rw [← List.map_take, ← List.map_take, take_succ_gI h, List.map_append]; rfl
theorem itms_end {l : List Int} {k N : Nat} (h : l.length ≤ k) (hN : k ≤ N) : (l.map itmOf).take N = (l.map itmOf).take k := by rw [List.take_of_length_le (by simp; omega), List.take_of_length_le (by simp; omega)]
def mlL (a c : Int) (L : List (ByteArray × Int)) : List Int := lgL (p2 (mdP a)) (rkT (mdP a) (i2u c) L)
theorem mlL_nil (a c : Int) : mlL a c [] = List.replicate (p2 (mdP a)) 0 := lgL_zero _
theorem mlL_len (a c : Int) (L : List (ByteArray × Int)) : 1 ≤ (mlL a c L).length ∧ (mlL a c L).length ≤ 600 := by
  have := p2_in (mdP_ok a).1
  unfold mlL
  rw [length_lgL]
  omega
theorem mlins (a c : Int) (L : List (ByteArray × Int)) (hL : ∀ x ∈ L, keyB x.1 = true) (x : Int) (u : Value) (w : World) (h : Ints .i64 w u (mlL a c L)) :
    Calls Try.prog 20 #[.agg #[.int .i64 (mdP a), .int .u64 (i2u c), u], .agg #[.string (itmOf x).1, .int .i64 (itmOf x).2]] w fun e w' => ∃ u, e = .returned (.tuple #[.agg #[.int .i64 (mdP a), .int .u64 (i2u c), u], .int .i64 0]) ∧ Ints .i64 w' u (mlL a c (L ++ [itmOf x])) ∧ Fresh w.heap.size u ∧ w.grownBy w' none := by
  have h := llinsr_can (z := i2u c) (key := (itmOf x).1) (wt := (itmOf x).2) u w (mdP_ok a).1 (rkT_ok (mdP_ok a).1 hL) (itmOf_ok x).1 (itmOf_ok x).2 h
  rw [← rkT_snoc] at h
  exact h
theorem mlinsC (a c : Int) (L : List (ByteArray × Int)) (hL : ∀ x ∈ L, keyB x.1 = true) (x : Int) (u : Value) (w : World) (h : Ints .i64 w u (mlL a c L)) :
    Calls Try.prog 19 #[.agg #[.int .i64 (mdP a), .int .u64 (i2u c), u], .agg #[.string (itmOf x).1, .int .i64 (itmOf x).2]] w fun e w' => ∃ u, e = .returned (.tuple #[.agg #[.int .i64 (mdP a), .int .u64 (i2u c), u], .int .i64 0]) ∧ Ints .i64 w' u (mlL a c (L ++ [itmOf x])) ∧ Fresh w.heap.size u ∧ w.grownBy w' none := by
  have h := llins_can (z := i2u c) (key := (itmOf x).1) (wt := (itmOf x).2) u w (mdP_ok a).1 (rkT_ok (mdP_ok a).1 hL) (itmOf_ok x).1 (itmOf_ok x).2 h
  rw [← rkT_snoc] at h
  exact h
set_option maxRecDepth 100000 in
set_option maxHeartbeats 3200000 in
theorem madell_any (a c : Int) (v : Value) (l : List Int) (w : World) (ha : i64I a) (hc : i64I c) (hv : Ints .i64 w v l) :
    Calls Try.prog 17 #[.int .i64 a, .int .i64 c, v] w fun e w' => ∃ u, e = .returned (.agg #[.int .i64 (mdP a), .int .u64 (i2u c), u]) ∧ Ints .i64 w' u (mlL a c ((l.map itmOf).take 9)) ∧ w.grownBy w' none := by
  have hsz := (mdP_ok a).1
  have hD := (mdP_ok a).2
  have C1 := Lib.hid (fun w => llnewr_any (mdP a) (i2u c) w)
  rw [show lnI (mdP a) (mdP a) = mdP a from if_pos hsz, show lnI (mdP a) (i2u c) = i2u c from if_pos hsz, show lnE (mdP a) = 0 from if_pos hsz, show lnL (mdP a) = List.replicate (p2 (mdP a)) 0 from if_pos hsz, ← mlL_nil a c] at C1
  have C2 := Lib.hid (fun L hL => mlins a c L hL)
  have CI := Lib.hid (fun (x : Int) w => itm_any (bits BinOp.and IntKind.i64 x 65535) w (by unfold i64I; rw [and_mask x 16 (by omega) 65535 (by decide)]; omega))
  have eD : 2 + bits BinOp.and IntKind.i64 a 3 = mdP a := rfl
  have eZ : IntKind.u64.wrap c = i2u c := rfl
  have hD2 : 2 ≤ mdP a := hsz.1
  have bD : 0 ≤ bits BinOp.and IntKind.i64 a 3 ∧ bits BinOp.and IntKind.i64 a 3 ≤ 3 := by omega
  generalize mlL a c = q at *
  generalize mdP a = D at *
  generalize i2u c = Z at *
  obtain ⟨am, ea⟩ : ∃ m, bits BinOp.and IntKind.i64 a 3 = m := ⟨_, rfl⟩
  rw [ea] at eD bD
  unfold i64I at ha hc
  obtain ⟨av, cap, rfl, h1, h2, h3, h4⟩ := hv
  unfold maxLen at h2
  have H4 := Lib.hid h4
  clear h3 hsz h4
  go_enter Try.func17, Try.ntmps17
  go_wp2_with fail
  refine (C1.out _).mono ?_
  rintro e w1 ⟨u1, rfl, I1, f1, g1⟩
  have r1 := (Blk.new w _ _).keep g1
  have hz1 : w.heap.size + 1 ≤ w1.heap.size := by simpa using g1.size
  have G1 := (grown_alloc _ _).trans' g1
  obtain ⟨a1, k1, rfl, -, -, -, -⟩ := id I1
  go_wp2_with fail
  refine wAbs (P := fun w' => w1.grownBy w' none ∧ Blk w1.heap.size #[Value.int IntKind.i64 D, Value.int IntKind.u64 Z, Value.slice a1 (q []).length k1] 26 w') ⟨grown_alloc _ _, Blk.new _ _ _⟩ ?_
  rintro w2 ⟨g2, b1⟩
  have hb1 := b1.lt
  go_loopw [9] (fun i wr => ∃ (k : Nat) (u : Value), k ≤ l.length ∧ k ≤ 9 ∧ i = .int .i64 k ∧ Blk w1.heap.size #[Value.int IntKind.i64 D, Value.int IntKind.u64 Z, u] 26 wr ∧ Ints .i64 wr u (q ((l.map itmOf).take k)) ∧ Fresh (w.heap.size + 1) u ∧ Two w1.heap.size w1.heap.size w2 wr) (fun i _ => 9 - (intOf i).toNat)
  case atStart => exact ⟨0, .slice a1 (q []).length k1, by omega, by omega, rfl, b1, I1.grown g2, f1.mono (by simp), Two.refl _ _ _⟩
  case round =>
    obtain ⟨k, u, hk, hk7, rfl, b2, I2, f2, T2⟩ := hrel
    have G2 := T2.up (G1.trans' g2) (by omega) (by omega)
    obtain ⟨au, ku, rfl, -, -, -, -⟩ := id I2
    by_cases hcont : k < l.length ∧ k < 9
    · obtain ⟨hlt, h7⟩ := hcont
      obtain ⟨bl, off, rfl, hbl, hcl⟩ : ∃ bl off, av = some ⟨bl, off, none⟩ ∧ bl < w.heap.size ∧ ∀ i, i < l.length → w.cell? ⟨bl, off + i, none⟩ = some (.int .i64 (gI l i)) := by
        rcases H4.out with h4 | h4
        · subst h4; simp at hlt
        · exact h4
      have C3 := CI.out (gI l k)
      have C4 := C2.out ((l.map itmOf).take k) (itms_key l k) (gI l k)
      rw [← itms_snoc hlt] at C4
      simp only [itmOf] at C4
      have CC := Lib.hid C3
      have CD := Lib.hid C4
      have hlt' : decide ((k : Int) < l.length) = true := decide_eq_true (by omega)
      have h7' : decide ((k : Int) < 9) = true := decide_eq_true (by omega)
      have hzr := T2.size
      have hb2 := b2.lt
      generalize q ((l.map itmOf).take k) = qk at *
      clear C3 C4 H4 C2 CI
      have f0 : ∀ w' : World, wr.grownBy w' none → w'.cell? ⟨w1.heap.size, 0, none⟩ = some (.int .i64 D) := fun w' g => (b2.keep g).at3.1
      have f1' : ∀ w' : World, wr.grownBy w' none → w'.cell? ⟨w1.heap.size, 1, none⟩ = some (.int .u64 Z) := fun w' g => (b2.keep g).at3.2.1
      have f2' : ∀ w' : World, wr.grownBy w' none → w'.cell? ⟨w1.heap.size, 2, none⟩ = some (.slice au qk.length ku) := fun w' g => (b2.keep g).at3.2.2.1
      have fx : ∀ w' : World, wr.grownBy w' none → w'.cell? ⟨bl, off + k, none⟩ = some (.int .i64 (gI l k)) := fun w' g => kcell (G2.trans' g) (hcl k hlt) hbl
      have e1 : (k : Int) < l.length := by omega
      have e2 : (0 : Int) ≤ k := by omega
      go_wp2_with fail
      refine wp_region_sqL 11 [0, 1, 2, 3, 4, 5, 6, 7, 8, 9, 10, 11] [0, 0, 0, 0, 0, 0, 1, 1, 0, 0, 2, 3] (fun w' => wr.grownBy w' none) (by kernel_rfl) (by kernel_rfl) (by kernel_rfl) (by kernel_rfl) (grown_drew1 _) ?_
      simp only [pick, List.map_cons, List.map_nil, List.getD_cons_zero, List.getD_cons_succ]
      repeat (first
        | ((refine sqL_skip (by rfl) ?_); (try simp only [Act.put, List.setIfInBounds_toArray, List.set_cons_zero, List.set_cons_succ]))
        | (((first | refine sqL_take ?_ (by rfl) ?_ ?_ | refine sqL_pure ?_ (by rfl) ?_ ?_)); rotate_left; (focus (intro w' hS; go_simp; first | done | with_reducible rfl)); (try simp only [Act.put, List.setIfInBounds_toArray, List.set_cons_zero, List.set_cons_succ])))
      refine sqL_run (by rfl) ?_
      intro K hK
      go_simp
      refine (CC.out _).mono ?_
      rintro e w5 ⟨rfl, g5⟩
      have G5 := (grown_drew1 wr).trans' g5
      refine hK _ _ G5 ?_
      clear hK K
      try simp only [Act.put, List.setIfInBounds_toArray, List.set_cons_zero, List.set_cons_succ]
      refine sqL_run (by rfl) ?_
      intro K hK
      go_simp
      refine (CD.out _ _ (I2.grown G5)).mono ?_
      rintro e w6 ⟨u6, rfl, I6, f6, g6⟩
      have G6 := G5.trans' g6
      have hz6 := G6.size
      have hz5 := G5.size
      obtain ⟨a6, k6, rfl, -, -, -, -⟩ := id I6
      have b6 := b2.keep G6
      refine hK _ _ G6 ?_
      clear hK K
      try simp only [Act.put, List.setIfInBounds_toArray, List.set_cons_zero, List.set_cons_succ]
      repeat (first
        | ((refine sqL_skip (by rfl) ?_); (try simp only [Act.put, List.setIfInBounds_toArray, List.set_cons_zero, List.set_cons_succ]))
        | (((first | refine sqL_take ?_ (by rfl) ?_ ?_ | refine sqL_pure ?_ (by rfl) ?_ ?_)); rotate_left; (focus (intro w' hS; go_simp; first | done | with_reducible rfl)); (try simp only [Act.put, List.setIfInBounds_toArray, List.set_cons_zero, List.set_cons_succ])))
      clear f0 f1' f2' fx
      obtain ⟨y10, y11, y12, y15⟩ := b6.at3
      refine sqL_last (by rfl) ?_
      intro K hK
      go_simp
      refine hK _ _ ?_
      clear hK K
      try simp only [Act.put, List.setIfInBounds_toArray, List.set_cons_zero, List.set_cons_succ]
      go_wp2
      go_roundw
      case rel =>
        refine ⟨k + 1, _, by omega, by omega, by go_num, ((b6.set 0 _).set 1 _).set 2 _, ((I6.setF f6 _ ?_).setF f6 _ ?_).setF f6 _ ?_, f6.mono ?_, (((T2.grown G6).setp 0 _).setp 1 _).setp 2 _⟩ <;> omega
      case measure => simp [intOf]; omega
    · have htest : (¬ k < l.length ∧ decide (k < l.length) = false ∧ decide ((k : Int) < l.length) = false) ∨ ((k < l.length ∧ ¬ k < 9) ∧ (decide (k < l.length) = true ∧ decide ((k : Int) < l.length) = true) ∧ decide ((k : Int) < 9) = false) := by
        by_cases h : k < l.length
        · exact .inr ⟨⟨h, by omega⟩, ⟨decide_eq_true h, decide_eq_true (by omega)⟩, decide_eq_false (by omega)⟩
        · exact .inl ⟨h, decide_eq_false h, decide_eq_false (by omega)⟩
      have HEND : Hid ((l.map itmOf).take 9 = (l.map itmOf).take k) := by
        show _ = _
        by_cases h : k < l.length
        · rw [show k = 9 by omega]
        · exact itms_end (by omega) hk7
      obtain ⟨c10, c11, c12, c13⟩ := b2.at3
      have hr1 := r1.lt
      have r4 := (r1.keep g2).two T2 (by omega) (by omega)
      obtain ⟨r10, r11, r12, r13⟩ := r4.at3
      clear hcont
      rcases htest with ⟨h0, h1, h2⟩ | ⟨⟨h0, h00⟩, ⟨h1, h3⟩, h2⟩
      all_goals
        go_wp2
        refine bodyPost_ret (v := .agg #[.int .i64 D, .int .u64 Z, .slice au (q ((l.map itmOf).take k)).length ku]) ?_ rfl ⟨_, rfl, ?_, ?_⟩
        · simp [results, Try.results17, go_sem, r10, r11, r12]
        · rw [HEND.out]
          repeat (with_reducible refine Ints.setF ?_ f2 _ (by omega))
          exact I2
        · repeat (with_reducible refine grown_set ?_ _ (by omega))
          exact G2
end Go.Proofs.Ythohjekfffebkaa
