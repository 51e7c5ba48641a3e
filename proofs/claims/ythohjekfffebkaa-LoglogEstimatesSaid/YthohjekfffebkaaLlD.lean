/- The walks of SameLogLog, Insert and of its reference. Conditions: registers, weights and keys of Go's size. -/
import Derived.Test.YthohjekfffebkaaLlC
import Derived.RegionTactic
import Derived.BigRegion
namespace Go.Proofs.Ythohjekfffebkaa
open Go.RowKit Go.ChangeShapes Go.WideShapes
set_option linter.unusedVariables false
set_option linter.unusedSimpArgs false
theorem ext_gI {l m : List Int} (h : l.length = m.length) (hg : ∀ i, i < l.length → gI l i = gI m i) : l = m := by
  apply List.ext_getElem h
  intro i h1 h2
  have := hg i h1
  rwa [gI_eq h1, gI_eq h2] at this
set_option maxRecDepth 100000 in
set_option maxHeartbeats 1600000 in
theorem sameints_any (v u : Value) (l m : List Int) (w : World) (hv : Ints .i64 w v l) (hu : Ints .i64 w u m) :
    Calls Try.prog 25 #[v, u] w fun e w' => e = .returned (.bool (decide (l = m))) ∧ w.grownBy w' none := by
  obtain ⟨D, hD⟩ : ∃ D, D = decide (l = m) := ⟨_, rfl⟩
  rw [← hD]
  obtain ⟨a, cap, rfl, h1, h2, h3, h4⟩ := hv
  obtain ⟨b, cup, rfl, k1, k2, k3, k4⟩ := hu
  unfold maxLen at h2 k2
  by_cases hl : l.length = m.length
  · have hne : ((l.length : Int) != m.length) = false := by rw [bne_eq_false_iff_eq]; omega
    have HF : Hid (∀ i, i < l.length → gI l i ≠ gI m i → D = false) := fun i hi h => by rw [hD]; exact decide_eq_false (fun e => h (by rw [e]))
    have HT : Hid ((∀ i, i < l.length → gI l i = gI m i) → D = true) := fun h => by rw [hD]; exact decide_eq_true (ext_gI hl h)
    have hlm : (l.length : Int) ≤ 9223372036854775807 := by omega
    have hc : ∃ p q, ∀ i, i < l.length → (a = some ⟨p, q, none⟩ ∧ p < w.heap.size ∧ w.cell? ⟨p, q + i, none⟩ = some (.int .i64 (gI l i))) := by
      rcases h4 with rfl | ⟨p, q, rfl, hp, hc⟩
      · exact ⟨0, 0, fun i hi => by simp at hi⟩
      · exact ⟨p, q, fun i hi => ⟨rfl, hp, hc i hi⟩⟩
    have hd : ∃ p q, ∀ i, i < l.length → (b = some ⟨p, q, none⟩ ∧ p < w.heap.size ∧ w.cell? ⟨p, q + i, none⟩ = some (.int .i64 (gI m i))) := by
      rcases k4 with rfl | ⟨p, q, rfl, hp, hc⟩
      · exact ⟨0, 0, fun i hi => by rw [hl] at hi; exact absurd hi (by simp)⟩
      · exact ⟨p, q, fun i hi => ⟨rfl, hp, hc i (by omega)⟩⟩
    obtain ⟨p, q, hc⟩ := hc
    obtain ⟨p', q', hd⟩ := hd
    have HL := Lib.hid hl
    clear hD h4 k4 h3 k3
    obtain ⟨n, hn⟩ : ∃ n, n = l.length := ⟨_, rfl⟩
    have HN := Lib.hid hn
    rw [← hn] at h1 hlm
    rw [← hl, ← hn] at k1 hne ⊢
    clear hl hn HL
    go_enter Try.func25, Try.ntmps25
    go_wp2
    go_loopw [5] (fun i wr => ∃ k : Nat, k ≤ n ∧ i = .int .i64 k ∧ (∀ j, j < k → gI l j = gI m j) ∧ Drawn w wr) (fun i _ => n - (intOf i).toNat)
    case atStart => exact ⟨0, by omega, rfl, by omega, Drawn.refl w⟩
    case round =>
      obtain ⟨k, hk, rfl, hgk, hdr⟩ := hrel
      by_cases hlt : k < n
      · have hlt' : k < l.length := by rw [← HN.out]; exact hlt
        obtain ⟨rfl, hb1, hc1⟩ := hc k hlt'
        obtain ⟨rfl, hb2, hc2⟩ := hd k hlt'
        have hck := (hdr.cell _).trans hc1
        have hdk := (hdr.cell _).trans hc2
        obtain ⟨x, hx⟩ : ∃ x, x = gI l k := ⟨_, rfl⟩
        obtain ⟨y, hy⟩ : ∃ y, y = gI m k := ⟨_, rfl⟩
        rw [← hx] at hck
        rw [← hy] at hdk
        have HX := Lib.hid hx
        have HY := Lib.hid hy
        have HK := Lib.hid hgk
        clear hc hd hc1 hc2 hx hy hgk hb1 hb2
        by_cases hxy : x = y
        · have hn' : (x != y) = false := by rw [bne_eq_false_iff_eq]; exact hxy
          have HXY := Lib.hid hxy
          clear hxy
          go_wp2
          go_quiet (fail)
          go_wp2
          go_roundw
          case rel =>
            refine ⟨k + 1, by omega, by go_num, ?_, hdr.more nq⟩
            intro j hj
            by_cases h : j < k
            · exact HK.out j h
            · have : j = k := by omega
              subst this
              rw [← HX.out, ← HY.out]; exact HXY.out
          case measure => simp [intOf]; omega
        · have hn' : (x != y) = true := by rw [bne_iff_ne]; exact hxy
          have HR : Hid (D = false) := HF.out k hlt' (by rw [← HX.out, ← HY.out]; exact hxy)
          clear hxy
          go_wp2
          go_quiet (fail)
          go_wp2
          go_ret
          rw [HR.out]
          exact ⟨rfl, (hdr.more nq).grown⟩
      · have : k = n := by omega
        subst this
        have HR : Hid (D = true) := HT.out (by rw [← HN.out]; exact hgk)
        clear hc hd hgk
        go_wp2
        go_ret
        rw [HR.out]
        exact ⟨rfl, hdr.grown⟩
  · have hne : ((l.length : Int) != m.length) = true := by rw [bne_iff_ne]; omega
    have HF : Hid (D = false) := hD.trans (decide_eq_false (fun e => hl (by rw [e])))
    have hlm : (l.length : Int) ≤ 9223372036854775807 := by omega
    have hmm : (m.length : Int) ≤ 9223372036854775807 := by omega
    clear hD h4 k4
    clear hl
    go_enter Try.func25, Try.ntmps25
    go_wp2
    go_ret
    rw [HF.out]
    exact ⟨rfl, grown_refl _⟩
set_option maxRecDepth 100000 in
set_option maxHeartbeats 1600000 in
theorem samell_eq (p z : Int) (v u : Value) (l : List Int) (w : World) (hv : Ints .i64 w v l) (hu : Ints .i64 w u l) :
    Calls Try.prog 15 #[.agg #[.int .i64 p, .int .u64 z, v], .agg #[.int .i64 p, .int .u64 z, u]] w fun e w' => e = .returned (.bool true) ∧ w.grownBy w' none := by
  have hs := fun w' (g : w.grownBy w' none) => sameints_any v u l l w' (hv.grown g) (hu.grown g)
  simp only [decide_true] at hs
  obtain ⟨a, cap, rfl, -, -, -, -⟩ := hv
  obtain ⟨a', cap', rfl, -, -, -, -⟩ := hu
  go_enter Try.func15, Try.ntmps15
  go_wp2_with (go_at_call 25; refine (hs _ ((grown_alloc _ _).trans' (grown_alloc _ _))).mono ?_; rintro e w1 ⟨rfl, g1⟩)
  go_ret
  exact ⟨rfl, ((grown_alloc _ _).trans' (grown_alloc _ _)).trans' g1⟩
def liE (p : Int) (l : List Int) (key : ByteArray) (wt : Int) : Int := if llE p l ≠ 0 then llE p l else itemE key wt
/-- The register of a key. -/
def llI (p z : Int) (key : ByteArray) : Nat := (posR p z key).toNat
def liV (p z : Int) (l : List Int) (key : ByteArray) (wt : Int) : List Int := if liE p l key wt = 0 then l.set (llI p z key) (max (gI l (llI p z key)) (posK p z key)) else []
def liI (p : Int) (l : List Int) (key : ByteArray) (wt x : Int) : Int := if liE p l key wt = 0 then x else 0
theorem itemE_ok {key : ByteArray} {wt : Int} (h : itemE key wt = 0) : keyB key = true ∧ 1 ≤ wt ∧ wt ≤ 4294967295 := by
  unfold itemE at h
  split at h
  · omega
  · rename_i h1
    split at h
    · omega
    · exact ⟨by simpa using h1, by omega, by omega⟩
theorem posE_ok {p : Int} {key : ByteArray} (hp : pOK p) (hk : keyB key = true) : posE p key = 0 := by unfold posE; rw [if_neg (by simpa using hp), if_neg (by rw [hk]; simp)]
theorem pos_in {p z : Int} {key : ByteArray} (hp : pOK p) (hk : keyB key = true) : (0 ≤ posR p z key ∧ posR p z key < p2 p) ∧ 1 ≤ posK p z key ∧ posK p z key ≤ 65 - p := by
  have he := posE_ok hp hk
  have hin := hashF_in (tab z) key
  obtain ⟨q1, q2⟩ : 2 ≤ p ∧ p ≤ 8 := hp
  obtain ⟨k, rfl⟩ : ∃ k : Nat, p = k := ⟨p.toNat, by omega⟩
  obtain ⟨h, hh⟩ : ∃ h : Nat, hashF (tab z) key = h := ⟨(hashF (tab z) key).toNat, by omega⟩
  have e64 : ((64 : Int) - k).toNat = 64 - k := by omega
  have hr := reg_in (k := k) (h := h) (by omega) (by omega)
  unfold posR posK rkW p2
  rw [if_pos he, if_pos he, hh, e64, Int.toNat_natCast, Int.toNat_natCast]
  have e5 : (h : Int) / 2 ^ (64 - k) = ((h / 2 ^ (64 - k) : Nat) : Int) := by simp
  rw [e5]
  have hl := Lib.bitLen_le (h % 2 ^ (64 - k)) (64 - k) (by omega) (Nat.mod_lt _ (Nat.two_pow_pos _))
  generalize h / 2 ^ (64 - k) = R at *
  generalize 2 ^ k = M at *
  generalize Lib.bitLen (h % 2 ^ (64 - k)) = B at *
  omega
theorem wf_reg {p n : Int} (hp : pOK p) (h : 0 ≤ n ∧ n ≤ 65 - p) : (Lit.int .i64 n).wf = true := by
  have : 2 ≤ p := hp.1
  simp [Lit.wf, IntKind.min, IntKind.max, IntKind.signed, IntKind.bits]
  omega
set_option maxRecDepth 100000 in
set_option maxHeartbeats 3200000 in
theorem llins_any (p z : Int) (v : Value) (l : List Int) (key : ByteArray) (wt : Int) (w : World) (hv : Ints .i64 w v l) (hks : key.size ≤ 140737488355328) :
    Calls Try.prog 19 #[.agg #[.int .i64 p, .int .u64 z, v], .agg #[.string key, .int .i64 wt]] w fun e w' => ∃ u, e = .returned (.tuple #[.agg #[.int .i64 (liI p l key wt p), .int .u64 (liI p l key wt z), u], .int .i64 (liE p l key wt)]) ∧ Ints .i64 w' u (liV p z l key wt) ∧ Fresh w.heap.size u ∧ w.grownBy w' none := by
  by_cases hE : llE p l = 0
  · by_cases hI : itemE key wt = 0
    · obtain ⟨hs, hl, hg⟩ := llE_ok hE
      obtain ⟨hk1, hw1, hw2⟩ := itemE_ok hI
      have hIE : liE p l key wt = 0 := by unfold liE; rw [if_neg (by simpa using hE)]; exact hI
      have e1 : ∀ x, liI p l key wt x = x := fun x => by unfold liI; rw [if_pos hIE]
      rw [e1, e1, hIE, show liV p z l key wt = l.set (llI p z key) (max (gI l (llI p z key)) (posK p z key)) from by unfold liV; rw [if_pos hIE]]
      clear e1
      have hp2 := p2_in hs
      have hpi := pos_in (z := z) hs hk1
      have C1 := Lib.hid (fun w (h : Ints .i64 w v l) => llvalid_any p z v l w h)
      have C2 := Lib.hid (fun w => validItem_any key wt w (by unfold maxLen; omega))
      have HV := Lib.hid hv
      obtain ⟨a, cap, rfl, -, -, -, -⟩ := id hv
      rw [hE] at C1
      rw [hI] at C2
      have C4 := Lib.hid (fun w => pos_any p z key w hks)
      rw [posE_ok hs hk1] at C4
      have HG := Lib.hid hg
      have HS := Lib.hid hs
      have hpos : 0 < l.length := by omega
      have hl5 : l.length ≤ 256 := by omega
      have hllI : llI p z key = (posR p z key).toNat := rfl
      rw [hllI]
      clear hllI
      generalize posR p z key = RR at *
      obtain ⟨I, rfl⟩ : ∃ I : Nat, RR = I := ⟨RR.toNat, by omega⟩
      rw [Int.toNat_natCast]
      have hIl : I < l.length := by omega
      generalize posK p z key = K at *
      obtain ⟨q1, q2⟩ : 2 ≤ p ∧ p ≤ 8 := hs
      have HL := Lib.hid hl
      have hgi := HG.out _ (gI_mem hIl)
      clear hE hI hg hl hk1 hIE
      clear hv
      go_enter Try.func19, Try.ntmps19
      go_wp2_with fail
      refine (C1.out _ (HV.out.grown (((grown_alloc _ _).trans' (grown_alloc _ _)).trans' (grown_alloc _ _)))).mono ?_
      rintro e w1 ⟨rfl, g1⟩
      have G1 : w.grownBy w1 none := (((grown_alloc _ _).trans' (grown_alloc _ _)).trans' (grown_alloc _ _)).trans' g1
      have hz1 : w.heap.size + 3 ≤ w1.heap.size := by simpa using g1.size
      have c1 := (((Blk.new w _ _).keep (grown_alloc _ _)).keep (grown_alloc _ _)).keep g1
      have x1 := ((Blk.newAt (w.alloc _) (w.heap.size + 1) _ _ (by simp)).keep (grown_alloc _ _)).keep g1
      have r1 := (Blk.newAt ((w.alloc _).alloc _) (w.heap.size + 1 + 1) _ _ (by simp)).keep g1
      clear g1
      obtain ⟨x10, x11, x12⟩ := x1.at2
      go_wp2_with fail
      refine (C2.out _).mono ?_
      rintro e w2 ⟨rfl, g2⟩
      clear x10 x11 x12
      have hz2 := g2.size
      have GG := G1.trans' g2
      have c2 := c1.keep g2
      have x2 := x1.keep g2
      have r2 := r1.keep g2
      clear g2 c1 x1 r1
      obtain ⟨c10, c11, c12⟩ := c2.ev3
      have ga : ∀ (w : World) (o : Obj), w.grownBy (w.alloc o) none := grown_alloc
      go_wp2_with (at_builtin; go_loud (refine wpList_appS _ rfl _ _ 24 24 rfl w2.heap.size 3 (.int .i64 0) 1 8 Try.underlying24 Try.infoInt rfl (by decide) _ _ _ _ _ _ (own_lit0 _ _ (Nat.le_refl _)) rfl rfl ((HV.out.grown (GG.trans' (grown_alloc _ _))).src Try.underlying24) (by unfold maxLen; omega) (by omega) (by simp) ?_))
      intro u w3 hu g3 _
      obtain ⟨gu, cu, rfl, hgu, R3, hcu1, hcu2⟩ := row_of_own hu hpos
      have hgu2 := R3.lt
      have hz3 := g3.size
      try simp only [World.size_alloc] at hz3
      have g3' : w2.grownBy w3 none := grown_rdr (R := w2.heap.size) (grown_alloc _ _) g3 (Nat.le_refl _)
      have c3 := c2.keep g3'
      have x3 := x2.keep g3'
      have r3 := r2.keep g3'
      have G3 := GG.trans' g3'
      obtain ⟨c30, c31, c32, c33⟩ := c3.at3
      obtain ⟨x30, x31, x32⟩ := x3.at2
      clear c10 c11 c12 ga hu g3
      go_wp2_with fail
      refine (C4.out _).mono ?_
      rintro e w4 ⟨rfl, g4⟩
      have R4 := (R3.set_ne 2 (.slice (some ⟨gu, 0, none⟩) l.length cu) (b' := w.heap.size) (by omega)).keep g4
      have c4 : Blk w.heap.size #[.int .i64 p, .int .u64 z, .slice (some ⟨gu, 0, none⟩) l.length cu] 26 w4 := (c3.set 2 _).keep g4
      have T4 : Two w.heap.size gu w3 w4 := ((Two.refl _ _ _).setp _ _).grown g4
      clear c30 c31 c32 c33 x30 x31 x32 c3 x3 g4
      have y1 := R4.cell hIl
      have y2 := R4.froz I
      have e1 : (I : Int) < l.length := by omega
      have e2 : (0 : Int) ≤ I := by omega
      obtain ⟨c40, c41, c42, c43⟩ := c4.at3
      generalize hx : gI l I = x at *
      have HX := Lib.hid hx
      clear hx
      go_wp2_with fail
      go_region
      all_goals
        refine wAbs (P := fun w' => (∃ y, y = max x K ∧ Row .i64 3 gu (l.set I y) w') ∧ Two w.heap.size gu w3 w' ∧ Blk w.heap.size #[.int .i64 p, .int .u64 z, .slice (some ⟨gu, 0, none⟩) l.length cu] 26 w') ⟨⟨_, ?_, (R4.keep (grown_drew1 _)).set I _⟩, (T4.grown (grown_drew1 _)).setq _ _, (c4.keep (grown_drew1 _)).set_ne _ _ (by omega)⟩ ?_
        · rfl
        rintro w5 ⟨⟨y, rfl, R5⟩, T5, c5⟩
        have G5 := T5.up G3 (by omega) (by omega)
        have r5 := r3.two T5 (by omega) (by omega)
        obtain ⟨c50, c51, c52, c53⟩ := c5.at3
        obtain ⟨r10, r11, r12, r13⟩ := r5.at3
        have hrl := r5.lt
        have RI : Ints .i64 w5 (.slice (some ⟨gu, 0, none⟩) l.length cu) (l.set I (max (gI l I) K)) := by
          rw [HX.out]
          have := R5.ints (cap := cu) (by simpa using hcu1) hcu2 (fun n hn => wf_reg HS.out (by
            rcases List.mem_or_eq_of_mem_set hn with h | h
            · exact HG.out n h
            · rw [h]; omega))
          simpa using this
        go_wp2
        refine bodyPost_ret (v := .tuple #[.agg #[.int .i64 p, .int .u64 z, .slice (some ⟨gu, 0, none⟩) l.length cu], .int .i64 0]) ?_ rfl ⟨_, rfl, ?_, fresh_of (by omega), ?_⟩
        · simp [results, Try.results19, go_sem, r10, r11, r12]
        · repeat (with_reducible refine Ints.set ?_ _ (by omega))
          exact RI
        · repeat (with_reducible refine grown_set ?_ _ (by omega))
          exact G5
    · have hIE : liE p l key wt = itemE key wt := by unfold liE; rw [if_neg (by simpa using hE)]
      have e1 : ∀ x, liI p l key wt x = 0 := fun x => by unfold liI; rw [if_neg (by rw [hIE]; exact hI)]
      rw [e1, e1, hIE, show liV p z l key wt = [] from by unfold liV; rw [if_neg (by rw [hIE]; exact hI)]]
      clear e1 hIE
      have C1 := Lib.hid (fun w (h : Ints .i64 w v l) => llvalid_any p z v l w h)
      have C2 := Lib.hid (fun w => validItem_any key wt w (by unfold maxLen; omega))
      have HV := Lib.hid hv
      obtain ⟨a, cap, rfl, -, -, -, -⟩ := id hv
      rw [hE] at C1
      generalize itemE key wt = E at *
      have hb1 : (E != 0) = true := by rw [bne_iff_ne]; exact hI
      clear hE hI
      clear hv
      go_enter Try.func19, Try.ntmps19
      go_wp2_with fail
      refine (C1.out _ (HV.out.grown (((grown_alloc _ _).trans' (grown_alloc _ _)).trans' (grown_alloc _ _)))).mono ?_
      rintro e w1 ⟨rfl, g1⟩
      have G1 : w.grownBy w1 none := (((grown_alloc _ _).trans' (grown_alloc _ _)).trans' (grown_alloc _ _)).trans' g1
      have hz1 : w.heap.size + 3 ≤ w1.heap.size := by simpa using g1.size
      have c1 := (((Blk.new w _ _).keep (grown_alloc _ _)).keep (grown_alloc _ _)).keep g1
      have x1 := ((Blk.newAt (w.alloc _) (w.heap.size + 1) _ _ (by simp)).keep (grown_alloc _ _)).keep g1
      have r1 := (Blk.newAt ((w.alloc _).alloc _) (w.heap.size + 1 + 1) _ _ (by simp)).keep g1
      clear g1
      obtain ⟨x10, x11, x12⟩ := x1.at2
      go_wp2_with fail
      refine (C2.out _).mono ?_
      rintro e w2 ⟨rfl, g2⟩
      clear x10 x11 x12
      have hz2 := g2.size
      have GG := G1.trans' g2
      have c2 := c1.keep g2
      have x2 := x1.keep g2
      have r2 := r1.keep g2
      clear g2 c1 x1 r1
      obtain ⟨r10, r11, r12, r13⟩ := r2.at3
      go_wp2
      refine bodyPost_ret (v := .tuple #[.agg #[.int .i64 0, .int .u64 0, .slice none 0 0], .int .i64 E]) ?_ rfl ⟨_, rfl, ints_nil _ _, fresh_nil _ _ _, ?_⟩
      · simp [results, Try.results19, go_sem, r10, r11, r12]
      · repeat (with_reducible refine grown_set ?_ _ (by omega))
        exact GG
  · have hIE : liE p l key wt = llE p l := by unfold liE; rw [if_pos hE]
    have e1 : ∀ x, liI p l key wt x = 0 := fun x => by unfold liI; rw [if_neg (by rw [hIE]; exact hE)]
    rw [e1, e1, hIE, show liV p z l key wt = [] from by unfold liV; rw [if_neg (by rw [hIE]; exact hE)]]
    clear e1 hIE
    have C1 := Lib.hid (fun w (h : Ints .i64 w v l) => llvalid_any p z v l w h)
    have C2 := Lib.hid (fun w => validItem_any key wt w (by unfold maxLen; omega))
    have HV := Lib.hid hv
    obtain ⟨a, cap, rfl, -, -, -, -⟩ := id hv
    clear C2
    generalize llE p l = E at *
    have hb1 : (E != 0) = true := by rw [bne_iff_ne]; exact hE
    clear hE
    clear hv
    go_enter Try.func19, Try.ntmps19
    go_wp2_with fail
    refine (C1.out _ (HV.out.grown (((grown_alloc _ _).trans' (grown_alloc _ _)).trans' (grown_alloc _ _)))).mono ?_
    rintro e w1 ⟨rfl, g1⟩
    have G1 : w.grownBy w1 none := (((grown_alloc _ _).trans' (grown_alloc _ _)).trans' (grown_alloc _ _)).trans' g1
    have hz1 : w.heap.size + 3 ≤ w1.heap.size := by simpa using g1.size
    have c1 := (((Blk.new w _ _).keep (grown_alloc _ _)).keep (grown_alloc _ _)).keep g1
    have x1 := ((Blk.newAt (w.alloc _) (w.heap.size + 1) _ _ (by simp)).keep (grown_alloc _ _)).keep g1
    have r1 := (Blk.newAt ((w.alloc _).alloc _) (w.heap.size + 1 + 1) _ _ (by simp)).keep g1
    clear g1
    have GG := G1
    obtain ⟨r10, r11, r12, r13⟩ := r1.at3
    go_wp2
    refine bodyPost_ret (v := .tuple #[.agg #[.int .i64 0, .int .u64 0, .slice none 0 0], .int .i64 E]) ?_ rfl ⟨_, rfl, ints_nil _ _, fresh_nil _ _ _, ?_⟩
    · simp [results, Try.results19, go_sem, r10, r11, r12]
    · repeat (with_reducible refine grown_set ?_ _ (by omega))
      exact GG
set_option maxRecDepth 100000 in
set_option maxHeartbeats 3200000 in
theorem llinsr_any (p z : Int) (v : Value) (l : List Int) (key : ByteArray) (wt : Int) (w : World) (hv : Ints .i64 w v l) (hks : key.size ≤ 140737488355328) :
    Calls Try.prog 20 #[.agg #[.int .i64 p, .int .u64 z, v], .agg #[.string key, .int .i64 wt]] w fun e w' => ∃ u, e = .returned (.tuple #[.agg #[.int .i64 (liI p l key wt p), .int .u64 (liI p l key wt z), u], .int .i64 (liE p l key wt)]) ∧ Ints .i64 w' u (liV p z l key wt) ∧ Fresh w.heap.size u ∧ w.grownBy w' none := by
  by_cases hE : llE p l = 0
  · by_cases hI : itemE key wt = 0
    · obtain ⟨hs, hl, hg⟩ := llE_ok hE
      obtain ⟨hk1, hw1, hw2⟩ := itemE_ok hI
      have hIE : liE p l key wt = 0 := by unfold liE; rw [if_neg (by simpa using hE)]; exact hI
      have e1 : ∀ x, liI p l key wt x = x := fun x => by unfold liI; rw [if_pos hIE]
      rw [e1, e1, hIE, show liV p z l key wt = l.set (llI p z key) (max (gI l (llI p z key)) (posK p z key)) from by unfold liV; rw [if_pos hIE]]
      clear e1
      have hp2 := p2_in hs
      have hpi := pos_in (z := z) hs hk1
      have C1 := Lib.hid (fun w (h : Ints .i64 w v l) => llvalidr_any p z v l w h)
      have C2 := Lib.hid (fun w => validItemr_any key wt w (by unfold maxLen; omega))
      have HV := Lib.hid hv
      obtain ⟨a, cap, rfl, -, -, -, -⟩ := id hv
      rw [hE] at C1
      rw [hI] at C2
      have C4 := Lib.hid (fun w => posr_any p z key w hks)
      rw [posE_ok hs hk1] at C4
      have HG := Lib.hid hg
      have HS := Lib.hid hs
      have hpos : 0 < l.length := by omega
      have hl5 : l.length ≤ 256 := by omega
      have hllI : llI p z key = (posR p z key).toNat := rfl
      rw [hllI]
      clear hllI
      generalize posR p z key = RR at *
      obtain ⟨I, rfl⟩ : ∃ I : Nat, RR = I := ⟨RR.toNat, by omega⟩
      rw [Int.toNat_natCast]
      have hIl : I < l.length := by omega
      generalize posK p z key = K at *
      obtain ⟨q1, q2⟩ : 2 ≤ p ∧ p ≤ 8 := hs
      have HL := Lib.hid hl
      have hgi := HG.out _ (gI_mem hIl)
      clear hE hI hg hl hk1 hIE
      clear hv
      go_enter Try.func20, Try.ntmps20
      go_wp2_with fail
      refine (C1.out _ (HV.out.grown (((grown_alloc _ _).trans' (grown_alloc _ _)).trans' (grown_alloc _ _)))).mono ?_
      rintro e w1 ⟨rfl, g1⟩
      have G1 : w.grownBy w1 none := (((grown_alloc _ _).trans' (grown_alloc _ _)).trans' (grown_alloc _ _)).trans' g1
      have hz1 : w.heap.size + 3 ≤ w1.heap.size := by simpa using g1.size
      have c1 := (((Blk.new w _ _).keep (grown_alloc _ _)).keep (grown_alloc _ _)).keep g1
      have x1 := ((Blk.newAt (w.alloc _) (w.heap.size + 1) _ _ (by simp)).keep (grown_alloc _ _)).keep g1
      have r1 := (Blk.newAt ((w.alloc _).alloc _) (w.heap.size + 1 + 1) _ _ (by simp)).keep g1
      clear g1
      obtain ⟨x10, x11, x12⟩ := x1.at2
      go_wp2_with fail
      refine (C2.out _).mono ?_
      rintro e w2 ⟨rfl, g2⟩
      clear x10 x11 x12
      have hz2 := g2.size
      have GG := G1.trans' g2
      have c2 := c1.keep g2
      have x2 := x1.keep g2
      have r2 := r1.keep g2
      clear g2 c1 x1 r1
      have c3 := c2
      obtain ⟨c10, c11, c12, c13⟩ := c2.at3
      obtain ⟨x10, x11, x12⟩ := x2.at2
      go_wp2_with fail
      refine (C4.out _).mono ?_
      rintro e w2' ⟨rfl, g2'⟩
      have hz2' := g2'.size
      clear c10 c11 c12 c13 x10 x11 x12 c3
      obtain ⟨c10, c11, c12, c13⟩ := (c2.keep g2').at3
      go_wp2_with (at_builtin; go_loud (refine wpList_appS _ rfl _ _ 24 24 rfl w2'.heap.size 3 (.int .i64 0) 1 8 Try.underlying24 Try.infoInt rfl (by decide) _ _ _ _ _ _ (World.ownsRow_nil _ _ _ _) rfl rfl ((HV.out.grown (GG.trans' g2')).src Try.underlying24) (by unfold maxLen; omega) (by omega) (by simp) ?_))
      intro u w3 hu g3 _
      obtain ⟨gu, cu, rfl, hgu, R3, hcu1, hcu2⟩ := row_of_own hu hpos
      have hgu2 := R3.lt
      have hz3 := g3.size
      try simp only [World.size_alloc] at hz3
      have c3 := c2.keep (g2'.trans' g3)
      have r3 := r2.keep (g2'.trans' g3)
      have G3 := GG.trans' (g2'.trans' g3)
      clear c10 c11 c12 c13 hu
      obtain ⟨c30, c31, c32, c33⟩ := c3.at3
      go_wp2_with fail
      refine wAbs (P := fun w' => Row .i64 3 gu l w' ∧ Blk w.heap.size #[.int .i64 p, .int .u64 z, .slice (some ⟨gu, 0, none⟩) l.length cu] 26 w' ∧ Two w.heap.size gu w3 w') ⟨R3.set_ne _ _ (by omega), c3.set 2 _, (Two.refl _ _ _).setp _ _⟩ ?_
      rintro w4 ⟨R4, c4, T4⟩
      clear c30 c31 c32 c33 c3
      have y1 := R4.cell hIl
      have y2 := R4.froz I
      have e1 : (I : Int) < l.length := by omega
      have e2 : (0 : Int) ≤ I := by omega
      obtain ⟨c40, c41, c42, c43⟩ := c4.at3
      generalize hx : gI l I = x at *
      have HX := Lib.hid hx
      clear hx
      go_wp2_with fail
      go_region
      all_goals
        refine wAbs (P := fun w' => (∃ y, y = max x K ∧ Row .i64 3 gu (l.set I y) w') ∧ Two w.heap.size gu w3 w' ∧ Blk w.heap.size #[.int .i64 p, .int .u64 z, .slice (some ⟨gu, 0, none⟩) l.length cu] 26 w') ⟨⟨_, ?_, (R4.keep (grown_drew1 _)).set I _⟩, (T4.grown (grown_drew1 _)).setq _ _, (c4.keep (grown_drew1 _)).set_ne _ _ (by omega)⟩ ?_
        · rfl
        rintro w5 ⟨⟨y, rfl, R5⟩, T5, c5⟩
        have G5 := T5.up G3 (by omega) (by omega)
        have r5 := r3.two T5 (by omega) (by omega)
        obtain ⟨c50, c51, c52, c53⟩ := c5.at3
        obtain ⟨r10, r11, r12, r13⟩ := r5.at3
        have hrl := r5.lt
        have RI : Ints .i64 w5 (.slice (some ⟨gu, 0, none⟩) l.length cu) (l.set I (max (gI l I) K)) := by
          rw [HX.out]
          have := R5.ints (cap := cu) (by simpa using hcu1) hcu2 (fun n hn => wf_reg HS.out (by
            rcases List.mem_or_eq_of_mem_set hn with h | h
            · exact HG.out n h
            · rw [h]; omega))
          simpa using this
        go_wp2
        refine bodyPost_ret (v := .tuple #[.agg #[.int .i64 p, .int .u64 z, .slice (some ⟨gu, 0, none⟩) l.length cu], .int .i64 0]) ?_ rfl ⟨_, rfl, ?_, fresh_of (by omega), ?_⟩
        · simp [results, Try.results20, go_sem, r10, r11, r12]
        · repeat (with_reducible refine Ints.set ?_ _ (by omega))
          exact RI
        · repeat (with_reducible refine grown_set ?_ _ (by omega))
          exact G5
    · have hIE : liE p l key wt = itemE key wt := by unfold liE; rw [if_neg (by simpa using hE)]
      have e1 : ∀ x, liI p l key wt x = 0 := fun x => by unfold liI; rw [if_neg (by rw [hIE]; exact hI)]
      rw [e1, e1, hIE, show liV p z l key wt = [] from by unfold liV; rw [if_neg (by rw [hIE]; exact hI)]]
      clear e1 hIE
      have C1 := Lib.hid (fun w (h : Ints .i64 w v l) => llvalidr_any p z v l w h)
      have C2 := Lib.hid (fun w => validItemr_any key wt w (by unfold maxLen; omega))
      have HV := Lib.hid hv
      obtain ⟨a, cap, rfl, -, -, -, -⟩ := id hv
      rw [hE] at C1
      generalize itemE key wt = E at *
      have hb1 : (E != 0) = true := by rw [bne_iff_ne]; exact hI
      clear hE hI
      clear hv
      go_enter Try.func20, Try.ntmps20
      go_wp2_with fail
      refine (C1.out _ (HV.out.grown (((grown_alloc _ _).trans' (grown_alloc _ _)).trans' (grown_alloc _ _)))).mono ?_
      rintro e w1 ⟨rfl, g1⟩
      have G1 : w.grownBy w1 none := (((grown_alloc _ _).trans' (grown_alloc _ _)).trans' (grown_alloc _ _)).trans' g1
      have hz1 : w.heap.size + 3 ≤ w1.heap.size := by simpa using g1.size
      have c1 := (((Blk.new w _ _).keep (grown_alloc _ _)).keep (grown_alloc _ _)).keep g1
      have x1 := ((Blk.newAt (w.alloc _) (w.heap.size + 1) _ _ (by simp)).keep (grown_alloc _ _)).keep g1
      have r1 := (Blk.newAt ((w.alloc _).alloc _) (w.heap.size + 1 + 1) _ _ (by simp)).keep g1
      clear g1
      obtain ⟨x10, x11, x12⟩ := x1.at2
      go_wp2_with fail
      refine (C2.out _).mono ?_
      rintro e w2 ⟨rfl, g2⟩
      clear x10 x11 x12
      have hz2 := g2.size
      have GG := G1.trans' g2
      have c2 := c1.keep g2
      have x2 := x1.keep g2
      have r2 := r1.keep g2
      clear g2 c1 x1 r1
      obtain ⟨r10, r11, r12, r13⟩ := r2.at3
      go_wp2
      refine bodyPost_ret (v := .tuple #[.agg #[.int .i64 0, .int .u64 0, .slice none 0 0], .int .i64 E]) ?_ rfl ⟨_, rfl, ints_nil _ _, fresh_nil _ _ _, ?_⟩
      · simp [results, Try.results20, go_sem, r10, r11, r12]
      · repeat (with_reducible refine grown_set ?_ _ (by omega))
        exact GG
  · have hIE : liE p l key wt = llE p l := by unfold liE; rw [if_pos hE]
    have e1 : ∀ x, liI p l key wt x = 0 := fun x => by unfold liI; rw [if_neg (by rw [hIE]; exact hE)]
    rw [e1, e1, hIE, show liV p z l key wt = [] from by unfold liV; rw [if_neg (by rw [hIE]; exact hE)]]
    clear e1 hIE
    have C1 := Lib.hid (fun w (h : Ints .i64 w v l) => llvalidr_any p z v l w h)
    have C2 := Lib.hid (fun w => validItemr_any key wt w (by unfold maxLen; omega))
    have HV := Lib.hid hv
    obtain ⟨a, cap, rfl, -, -, -, -⟩ := id hv
    clear C2
    generalize llE p l = E at *
    have hb1 : (E != 0) = true := by rw [bne_iff_ne]; exact hE
    clear hE
    clear hv
    go_enter Try.func20, Try.ntmps20
    go_wp2_with fail
    refine (C1.out _ (HV.out.grown (((grown_alloc _ _).trans' (grown_alloc _ _)).trans' (grown_alloc _ _)))).mono ?_
    rintro e w1 ⟨rfl, g1⟩
    have G1 : w.grownBy w1 none := (((grown_alloc _ _).trans' (grown_alloc _ _)).trans' (grown_alloc _ _)).trans' g1
    have hz1 : w.heap.size + 3 ≤ w1.heap.size := by simpa using g1.size
    have c1 := (((Blk.new w _ _).keep (grown_alloc _ _)).keep (grown_alloc _ _)).keep g1
    have x1 := ((Blk.newAt (w.alloc _) (w.heap.size + 1) _ _ (by simp)).keep (grown_alloc _ _)).keep g1
    have r1 := (Blk.newAt ((w.alloc _).alloc _) (w.heap.size + 1 + 1) _ _ (by simp)).keep g1
    clear g1
    have GG := G1
    obtain ⟨r10, r11, r12, r13⟩ := r1.at3
    go_wp2
    refine bodyPost_ret (v := .tuple #[.agg #[.int .i64 0, .int .u64 0, .slice none 0 0], .int .i64 E]) ?_ rfl ⟨_, rfl, ints_nil _ _, fresh_nil _ _ _, ?_⟩
    · simp [results, Try.results20, go_sem, r10, r11, r12]
    · repeat (with_reducible refine grown_set ?_ _ (by omega))
      exact GG
end Go.Proofs.Ythohjekfffebkaa
