/- Parts of the proof, laid together. No condition. -/
import Derived.Test.YthlaenafkihjiaaGreatR6
import Derived.Below
set_option linter.unusedVariables false
set_option linter.unusedSimpArgs false
namespace Go.Proofs.YthlaenafkihjiaaGreat
open Go.RowKit
theorem Ep (l : List Int) (B : Wa l) : Vh l (Y5 l) := by
  obtain ⟨hl, hw⟩ := B
  unfold Vh W5
  simp only [jn, Jw]
  refine ⟨fun h => ?_, fun h => ?_⟩
  · have : l = [] := by simpa using h
    subst this; rfl
  have h0 : l ≠ [] := by intro e; subst e; simp at h
  have hp : 0 < l.length := List.length_pos_iff.2 h0
  have g0 := MY hw 0
  have i0 : ix l 0 (gI l 0) := GO (j := 0) hp
  refine ⟨_, i0, fun h => ?_, fun h => ?_⟩
  · have h1 : gI l 0 < 248 := by simpa using h
    refine ⟨_, i0, ?_⟩
    unfold Y5; rw [if_neg h0, if_pos h1, Zm (by omega)]
  have h1 : ¬ gI l 0 < 248 := by simpa using h
  refine ⟨_, i0, ?_⟩
  have e1 : IntKind.i64.wrap (IntKind.i64.wrap (gI l 0) - 247) = gI l 0 - 247 := by
    rw [Zm (n := gI l 0) (by omega), Zm (by omega)]
  have e2 : IntKind.i64.wrap (gI l 0 - 247 + 1) = gI l 0 - 246 := by
    rw [Zm (by omega)]; omega
  rw [e1, e2]
  refine ⟨fun h => ?_, fun h => ?_⟩
  · have h2 : (l.length : Int) ≤ gI l 0 - 247 := by simpa using h
    unfold Y5; rw [if_neg h0, if_neg h1, if_pos h2]
  have h2 : ¬ (l.length : Int) ≤ gI l 0 - 247 := by simpa using h
  obtain ⟨m, hm⟩ : ∃ m : Nat, gI l 0 - 247 = (m : Int) := ⟨(gI l 0 - 247).toNat, by omega⟩
  have lm : (l.tail.take m).length = m := by simp; omega
  have wm : ∀ c ∈ l.tail.take m, (Lit.int .u8 c).wf = true := fun c hc => hw c (List.mem_of_mem_tail (List.mem_of_mem_take hc))
  have hd : Y5 l = if gI l 1 = 0 ∨ WK (l.tail.take m) < 248 ∨ WK (l.tail.take m) > 4611686018427387904 then (0,0,2) else (WK (l.tail.take m), gI l 0 - 246, 0) := by
    unfold Y5; rw [if_neg h0, if_neg h1, if_neg h2, hm]; rfl
  have hx0 := (Dk _ wm).1
  rw [hm]
  refine ZV (I := fun k s => ∃ j : Nat, s.2 = ((j + 1 : Nat) : Int) ∧ j ≤ m ∧ k = m - j ∧ s.1 = WK ((l.tail.take m).take j)) ?_ (k := m) ⟨0, rfl, by omega, by omega, rfl⟩
  rintro k ⟨x, i⟩ ⟨j, hj, hj1, hk, hx⟩ X hX
  simp only at hj hx ⊢
  subst hj; subst hx
  refine ⟨fun h => ?_, fun h => ?_⟩
  · have hj2 : j < m := by simp at h; omega
    obtain ⟨c, hc, hg⟩ := Kg (l := l) (n := ((j + 1 : Nat) : Int)) (by omega) (by omega)
    have hcw := bounds_u8 (hw c (List.mem_of_getElem? hg))
    have hb := LV (l.tail.take m) wm j (by omega)
    refine ⟨c, hc, ?_⟩
    rw [Zm (by omega), Pm hb.1 hb.2 hcw.1 hcw.2]
    refine hX (m - (j + 1)) _ (by omega) ⟨j + 1, by simp, by omega, rfl, ?_⟩
    have e : (l.tail.take m).take (j + 1) = (l.tail.take m).take j ++ [c] := by
      rw [List.take_add_one]
      have : (l.tail.take m)[j]? = some c := by
        rw [List.getElem?_take_of_lt hj2, List.getElem?_tail]; simpa using hg
      simp [this]
    simp only
    rw [e, BM]
  · have hj2 : j = m := by simp at h; omega
    rw [List.take_of_length_le (by omega)]
    refine ⟨gI l 1, GO (j := 1) (by omega), fun h => ?_, fun h => ?_⟩
    · rw [hd, if_pos (by simpa [or_assoc] using h)]
    · have h3 : ¬ (gI l 1 = 0 ∨ WK (l.tail.take m) < 248 ∨ WK (l.tail.take m) > 4611686018427387904) := by
        intro c; simp only [Bool.or_eq_false_iff, decide_eq_false_iff_not, beq_eq_false_iff_ne] at h; omega
      rw [hd, if_neg h3, Zm (by omega)]
theorem BY (l : List Int) (B : Wa l) : JS l (FP l) := by
  have B' := B
  obtain ⟨hl, hw⟩ := B
  unfold JS Up
  simp only [jn]
  refine ⟨fun h => ?_, fun h => ?_⟩
  · have : l = [] := by simpa using h
    subst this; rfl
  have h0 : l ≠ [] := by intro e; subst e; simp at h
  have hp : 0 < l.length := List.length_pos_iff.2 h0
  have et : List.drop (Int.toNat 1) l = l.tail := by cases l <;> rfl
  rw [et]
  have Bt : Wa l.tail := by rw [← et]; exact B'.drop _
  obtain ⟨n, k, e, hd⟩ : ∃ n k e, Y5 l.tail = (n, k, e) := ⟨_, _, _, rfl⟩
  have hu : FP l = Dl l (n, k, e) := by unfold FP; rw [if_neg h0, hd]
  refine ⟨by omega, Y5 l.tail, Ep _ Bt, ?_⟩
  rw [hd, hu]
  simp only
  refine ⟨fun h => ?_, fun h => ?_⟩
  · have he : e ≠ 0 := by simpa using h
    unfold Dl; rw [if_pos he]
  have he : e = 0 := by simpa using h
  subst he
  have hk := C5 Bt.2 hd
  have lt : l.tail.length = l.length - 1 := by simp
  refine ⟨fun h => ?_, fun h => ?_⟩
  · have h1 : n > 1048576 := by simpa using h
    unfold Dl; rw [if_neg (by simp), if_pos h1]
  have h1 : ¬ n > 1048576 := by simpa using h
  have e1 : IntKind.i64.wrap (1 + k) = 1 + k := Zm (by omega)
  have e2 : IntKind.i64.wrap (1 + k + n) = 1 + k + n := Zm (by omega)
  have e3 : IntKind.i64.wrap (1 + k + n + 4) = 1 + k + n + 4 := Zm (by omega)
  rw [e1, e2, e3]
  refine ⟨fun h => ?_, fun h => ?_⟩
  · have h2 : (l.length : Int) < 1 + k + n + 4 := by simpa using h
    unfold Dl; rw [if_neg (by simp), if_neg h1, if_pos h2]
  have h2 : ¬ (l.length : Int) < 1 + k + n + 4 := by simpa using h
  refine ⟨by omega, ?_⟩
  obtain ⟨K, hK⟩ : ∃ K : Nat, k = (K : Int) := ⟨k.toNat, by omega⟩
  obtain ⟨M, hM⟩ : ∃ M : Nat, n = (M : Int) := ⟨n.toNat, by omega⟩
  subst hK; subst hM
  have a1 : Int.toNat (1 + (K : Int) + (M : Int)) = 1 + K + M := by omega
  have a3 : Int.toNat (1 + (K : Int)) = 1 + K := by omega
  rw [a1, a3]
  have d2 : List.drop (1 + K) (List.take (1 + K + M) l) = List.take M (List.drop (1 + K) l) := by
    rw [List.drop_take]; congr 1; omega
  rw [d2]
  have hc : VP (M : Int) = l.tail.take K := by have := MR Bt.2 hd; simpa using this
  have hhd := IK (l := l) (N := M) (K := K) Bt.2 hc hp (by omega)
  have hss := Pi (l := l) (E := 1 + K + M) hw (by omega)
  have lbd : (List.take M (List.drop (1 + K) l)).length = M := by rw [List.length_take, List.length_drop]; omega
  have Bb : Wa (List.take M (List.drop (1 + K) l)) := (B'.drop _).take _
  have g0 := MY hw 0
  have hfr : ZZ (gI l 0) (List.take M (List.drop (1 + K) l)) = l.take (1 + K + M) ++ Wb 4 (C6 (l.take (1 + K + M))) := by
    unfold ZZ; rw [if_neg (by omega), hhd]
  refine ⟨by omega, gI l 0, GO (j := 0) hp, _, W7 _ _ g0 Bb.b, ?_⟩
  simp only [hfr]
  have l1 : (l.take (1 + K + M)).length = 1 + K + M := by rw [List.length_take]; omega
  have l4 := Zu 4 (C6 (l.take (1 + K + M)))
  generalize hq : Wb 4 (C6 (l.take (1 + K + M))) = q at l4 hss ⊢
  have lq : (l.take (1 + K + M) ++ q).length = 1 + K + M + 4 := by rw [List.length_append]; omega
  rw [lq]
  have w0 : IntKind.i64.wrap (((1 + K + M + 4 : Nat) : Int) - 4) = ((1 + K + M : Nat) : Int) := by rw [Zm (by omega)]; omega
  rw [w0]
  have hat : ∀ j, j < 4 → (l.take (1 + K + M) ++ q)[1 + K + M + j]? = some (gI q j) := by
    intro j hj
    rw [List.getElem?_append_right (by omega), l1]
    simp [gI, show j < q.length by omega]
  have hatl : ∀ j, j < 4 → l[1 + K + M + j]? = some (gI l (1 + K + M + j)) := by
    intro j hj
    simp [gI, show 1 + K + M + j < l.length by omega]
  have hd4 : ∀ j, j < 4 → gI ((l.drop (1 + K + M)).take 4) j = gI l (1 + K + M + j) := by
    intro j hj
    simp only [gI, List.getD_eq_getElem?_getD]
    rw [List.getElem?_take_of_lt hj, List.getElem?_drop]
  refine ZV (I := fun k s => ∃ j : Nat, j ≤ 4 ∧ k = 4 - j ∧ s.1 = List.take M (List.drop (1 + K) l) ∧ s.2.1 = l.take (1 + K + M) ++ q ∧ s.2.2 = ((1 + K + M + j : Nat) : Int) ∧ ∀ i, i < j → gI q i = gI l (1 + K + M + i)) ?_ (k := 4) ⟨0, by omega, rfl, rfl, rfl, rfl, fun i hi => absurd hi (by omega)⟩
  rintro k ⟨c, y, i⟩ ⟨j, hj, hk', hc', hy, hi, hall⟩ X hX
  simp only at hc' hy hi ⊢
  subst hc'; subst hy; subst hi
  refine ⟨fun h => ?_, fun h => ?_⟩
  · have hj2 : j < 4 := by simp only [lq, decide_eq_true_eq] at h; omega
    refine ⟨gI q j, ⟨by omega, by rw [Int.toNat_natCast]; exact hat j hj2⟩, gI l (1 + K + M + j), ⟨by omega, by rw [Int.toNat_natCast]; exact hatl j hj2⟩, fun hne => ?_, fun heq => ?_⟩
    · have hne' : gI q j ≠ gI l (1 + K + M + j) := by simpa using hne
      have h3 : WK (List.take 4 (List.drop (1 + K + M) l)) ≠ C6 (List.take (1 + K + M) l) := by
        intro h4
        have h5 := hss.1 h4
        have := hd4 j hj2
        rw [h5] at this
        exact hne' this
      unfold Dl; simp only [Int.toNat_natCast]; rw [if_neg (by simp), if_neg h1, if_neg h2, if_pos h3]
    · have heq' : gI q j = gI l (1 + K + M + j) := by simpa using heq
      rw [Zm (by omega)]
      refine hX (4 - (j + 1)) _ (by omega) ⟨j + 1, by omega, rfl, rfl, rfl, by simp only; omega, fun i hi => ?_⟩
      rcases Nat.lt_or_ge i j with h6 | h6
      · exact hall i h6
      · have : i = j := by omega
        subst this; exact heq'
  · have hj2 : j = 4 := by simp only [lq, decide_eq_false_iff_not] at h; omega
    subst hj2
    have hqe : (l.drop (1 + K + M)).take 4 = q := by
      refine Oc (n := 4) (by rw [List.length_take, List.length_drop]; omega) l4 fun t ht => ?_
      rw [hd4 t ht, hall t ht]
    have h3 : ¬ WK (List.take 4 (List.drop (1 + K + M) l)) ≠ C6 (List.take (1 + K + M) l) := by
      intro h4; exact h4 (hss.2 hqe)
    refine ⟨gI l 0, GO (j := 0) hp, ?_⟩
    unfold Dl; simp only [Int.toNat_natCast]; rw [if_neg (by simp), if_neg h1, if_neg h2, if_neg h3]
    simp only [lq]
    simp
theorem bck_z : Uu Sd = Sd := by
  have e : sI (strOfNums []) = [] := rfl
  show (⟨_, _, _, _, _, _, sI (strOfNums []), _, _, _, _, _, _, _, sI (strOfNums [])⟩ : Qu) = Sd
  rw [e]; rfl
theorem Er (b : List Int) (B : Wa b) : Zt b true := by
  unfold Zt UR
  obtain ⟨r, hr, g1, g2⟩ := Dm b B
  refine ⟨r, hr, fun h => ?_, fun h => ?_⟩
  · have h' : r.2 ≠ 0 := by simpa using h
    obtain ⟨z, hf⟩ := g1 h'
    refine ⟨FP b, BY b B, true, ?_, ?_⟩
    · have := IQ Sd (by decide) (by decide)
      rw [bck_z] at this
      rw [z]; exact this
    · rcases hf with hf | ⟨hf, hf2⟩
      · simp [hf]
      · simp [hf, hf2]
  · have h' : r.2 = 0 := by simpa using h
    obtain ⟨z1, z2⟩ := g2 h'
    refine ⟨B0 r.1, BS r.1, ?_⟩
    rw [z1, z2]; rfl
theorem GY (t : Int) (l : List Int) (ht : 0 ≤ t ∧ t ≤ 255) (B : Wa l) : Wa (ZZ t l) := by
  by_cases hl : l.length > 1048576
  · unfold ZZ; rw [if_pos hl]; exact ⟨Nat.zero_le _, fun c hc => by simp at hc⟩
  have h2 := Y6 t l
  have h4 := Zu 4 (C6 (Ku t l))
  have h9 := JA (l.length : Int)
  have hf : ZZ t l = Ku t l ++ Wb 4 (C6 (Ku t l)) := by unfold ZZ; rw [if_neg hl]
  rw [hf]
  refine Wa.of (by simp only [List.length_append]; omega) fun c hc => ?_
  rcases List.mem_append.1 hc with h | h
  · exact C8 ht B.b c h
  · exact bounds_u8 (II 4 _ c h)
theorem Rk (t : Int) (l : List Int) : (ZZ t l).length ≤ 1048576 + 100 := by
  by_cases hl : l.length > 1048576
  · unfold ZZ; rw [if_pos hl]; exact Nat.zero_le _
  have h2 := Y6 t l
  have h4 := Zu 4 (C6 (Ku t l))
  have h9 := JA (l.length : Int)
  have hf : ZZ t l = Ku t l ++ Wb 4 (C6 (Ku t l)) := by unfold ZZ; rw [if_neg hl]
  rw [hf, List.length_append]; omega
theorem Rl (a b : Int) : 0 ≤ YF .u8 a b ∧ YF .u8 a b ≤ 255 := by
  unfold YF; rw [BP]; omega
theorem Az (body l : List Int) (at' by' tag : Int) (hl : l.length ≤ 4611686018427387904) (B : Wa body) (hb : 0 ≤ by' ∧ by' ≤ 255) (ht : 0 ≤ tag ∧ tag ≤ 255) : Jv body l at' by' tag true := by
  unfold Jv Xa
  simp only [jn]
  refine ⟨fun _ => ⟨NL, trivial⟩, fun h => ?_⟩
  obtain ⟨x, e1, z1, s1⟩ := Oi l 0 hl (by omega) (by omega)
  have F := IN z1
  have lb := FR F
  have hE : B0 x = (ZZ 79 (Jq x), 0) := by unfold B0; rw [if_neg (by simp [z1])]
  have BF := NK x (by omega)
  have hu : FP (ZZ 79 (Jq x)) = (79, Jq x, ((ZZ 79 (Jq x)).length : Int), 0) := by
    have := I1 79 (Jq x) [] (by omega)
    rwa [List.append_nil] at this
  have BB : Wa (Jq x) := Wa.of (by omega) (Wr x)
  have q1 : JR x (ZZ 79 (Jq x), 0) := by have := BS x; rwa [hE] at this
  have q2 : JS (ZZ 79 (Jq x)) (79, Jq x, ((ZZ 79 (Jq x)).length : Int), 0) := by have := BY _ BF; rwa [hu] at this
  refine ⟨x, e1, (ZZ 79 (Jq x), 0), q1, ?_⟩
  dsimp only
  refine ⟨(79, Jq x, ((ZZ 79 (Jq x)).length : Int), 0), q2, ?_⟩
  dsimp only
  have fin : ∀ c : List Int, Wa c → ∃ (v10 : (List Int) × Int), Zw (79) body v10 ∧ ∃ (v11 : (List Int) × Int), Zw (79) c v11 ∧ ∃ (v12 : (List Int) × Int), Zw tag c v12 ∧ Zt (v10.1) true ∧ Zt (v11.1) true ∧ Zt (v12.1) true ∧ Zt body true ∧ (((v11.1).length + ([by']).length) * 1 ≤ 140737488355328) ∧ Zt ((v11.1) ++ ([by'])) true ∧ Jz true := by
    intro c Bc
    have b1 := GY 79 body (by decide) B
    have b2 := GY 79 c (by decide) Bc
    have b3 := GY tag c ht Bc
    have l2 := Rk 79 c
    have b4 : Wa (ZZ 79 c ++ [by']) := by
      refine Wa.of (by simp only [List.length_append, List.length_cons, List.length_nil]; omega) fun e he => ?_
      rcases List.mem_append.1 he with h | h
      · exact b2.b e h
      · simp at h; subst h; exact hb
    exact ⟨_, W7 79 body (by decide) B.b, _, W7 79 c (by decide) Bc.b, _, W7 tag c ht Bc.b, Er _ b1, Er _ b2, Er _ b3, Er _ B, by simp only [List.length_cons, List.length_nil]; omega, Er _ b4, NL⟩
  have fin2 : ∀ c : List Int, Wa c → ∃ (v10 : (List Int) × Int), Zw (79) body v10 ∧ ∃ (v11 : (List Int) × Int), Zw (79) c v11 ∧ ∃ (v12 : (List Int) × Int), Zw tag c v12 ∧ Zt (v10.1) true ∧ Zt (v11.1) true ∧ Zt (v12.1) true ∧ Zt body true ∧ (((v11.1).length + ([by']).length) * 1 ≤ 140737488355328) ∧ Zt ((v11.1) ++ ([by'])) true ∧ Jz true ∧ True := by
    intro c Bc
    obtain ⟨a, h1, b, h2, d, h3, h4, h5, h6, h7, h8, h9, h10⟩ := fin c Bc
    exact ⟨a, h1, b, h2, d, h3, h4, h5, h6, h7, h8, h9, h10, trivial⟩
  refine ⟨fun h2 => ?_, fun h2 => ?_⟩
  · have hp : 0 < (Jq x).length := by simp at h2; omega
    rw [IG, JU (by omega)]
    have hr : 0 ≤ at' % 65536 % ((Jq x).length : Int) ∧ at' % 65536 % ((Jq x).length : Int) < (Jq x).length := ⟨Int.emod_nonneg _ (by omega), Int.emod_lt_of_pos _ (by omega)⟩
    obtain ⟨c, hc, _⟩ := Kg (l := Jq x) hr.1 hr.2
    refine ⟨by omega, c, hc, c, hc, ?_⟩
    refine fin2 _ (Wa.of (by rw [List.length_set]; omega) fun e he => ?_)
    rcases List.mem_or_eq_of_mem_set he with h3 | h3
    · exact Wr x e h3
    · rw [h3]; exact Rl _ _
  · exact fin2 _ BB
theorem OperationReads_walk (v0 : Value) (l0 : List Int) (v1 : Value) (l1 : List Int) (a2 a3 a4 : Int) (w : World) (h0 : Ints .u8 w v0 l0) (s0 : l0.length * Tryz.prog.bytesOf 5 ≤ 140737488351232) (h1 : Ints .i64 w v1 l1) (s1 : l1.length * Tryz.prog.bytesOf 3 ≤ 140737488351232) (h2 : (Lit.int .i64 a2).wf = true) (h3 : (Lit.int .u8 a3).wf = true) (h4 : (Lit.int .u8 a4).wf = true) :
    Calls Tryz.prog 5 #[v0, v1, .int .i64 a2, .int .u8 a3, .int .u8 a4] w fun e w' => e = .returned (.bool true) ∧ Below w.heap.size w w' := by
  have hl : l1.length ≤ 4611686018427387904 := by
    have e : Tryz.prog.bytesOf 3 = 8 := by kernel_rfl
    rw [e] at s1; omega
  have hb : l0.length ≤ 140737488355328 := by
    have e : Tryz.prog.bytesOf 5 = 1 := by kernel_rfl
    rw [e] at s0; omega
  have B : Wa l0 := ⟨hb, h0.wfs⟩
  refine (Ux (A := fun x => x < w.heap.size) (vs := #[v0, v1, .int .i64 a2, .int .u8 a3, .int .u8 a4]) (g := 0) (q := 0) (Au l0 l1 a2 a3 a4 true (Az l0 l1 a2 a3 a4 hl B (bounds_u8 h3) (bounds_u8 h4))) rfl (fun x h => h) ⟨G8 h0 (fun _ _ _ g _ _ hg => hg), G8 h1 (fun _ _ _ g _ _ hg => hg), .v _ h2, .v _ h3, .v _ h4, trivial⟩).mono ?_
  rintro e w' ⟨rfl, hg⟩
  exact ⟨rfl, FS hg⟩
end Go.Proofs.YthlaenafkihjiaaGreat
