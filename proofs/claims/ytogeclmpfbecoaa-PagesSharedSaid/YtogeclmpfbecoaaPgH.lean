/- The walks of Bytes and of the functions Shared. -/
import Derived.Test.YtogeclmpfbecoaaPgE
import Derived.Test.YtogeclmpfbecoaaSeq
namespace Go.Proofs.Ytogeclmpfbecoaa
open Go.RowKit Go.ChangeShapes Go.WideShapes
set_option linter.unusedVariables false
set_option linter.unusedSimpArgs false
theorem own_succ {w : World} {B : Nat} {e : TypeId} {size : Nat} {v : Value} {n : Nat} {xs : List Value} (h : w.ownsRow B e size v (n + 1) xs) : ∃ g cap, v = .slice (some ⟨g, 0, none⟩) (n + 1) cap := by
  rcases h.2 with ⟨_, hn⟩ | ⟨g, cap, cur, rfl, _⟩
  · omega
  · exact ⟨g, cap, rfl⟩
theorem wf_small {n : Int} (h0 : 0 ≤ n) (h1 : n ≤ 255) : (Lit.int .u8 n).wf = true := by
  simp [Lit.wf, IntKind.min, IntKind.max, IntKind.signed, IntKind.bits]; omega
theorem wf_snoc {k : IntKind} {l : List Int} {x : Int} (h : ∀ n ∈ l, (Lit.int k n).wf = true) (hx : (Lit.int k x).wf = true) : ∀ n ∈ l ++ [x], (Lit.int k n).wf = true := by
  intro n hn
  rcases List.mem_append.1 hn with hn | hn
  · exact h n hn
  · simp at hn; subst hn; exact hx
set_option maxRecDepth 100000 in
set_option maxHeartbeats 3200000 in
theorem bytes_any (n : Int) (w : World) (h0 : 0 ≤ n) (h1 : n ≤ 65535) :
    Calls Try.prog 15 #[.int .i64 n] w fun e w' => ∃ v l, e = .returned v ∧ l.length ≤ 63 ∧ Ints .u8 w' v l ∧ w.grownBy w' none := by
  have b1 : ∃ m, bits BinOp.and IntKind.i64 (n / 8) 63 = m ∧ 0 ≤ m ∧ m ≤ 63 := ⟨_, and_mask _ 6 (by omega) 63 (by decide), by omega, by omega⟩
  have b2 : ∃ m, bits BinOp.and IntKind.i64 (n / 512) 15 = m ∧ 0 ≤ m ∧ m ≤ 15 := ⟨_, and_mask _ 4 (by omega) 15 (by decide), by omega, by omega⟩
  obtain ⟨m1, e1, l1, u1⟩ := b1
  obtain ⟨m2, e2, l2, u2⟩ := b2
  go_enter Try.func15, Try.ntmps15
  go_wp2_with fail
  go_loopw [3, 4] (fun v i wr => ∃ l : List Int, l.length ≤ 63 ∧ i = .int .i64 l.length ∧ (∀ n ∈ l, (Lit.int .u8 n).wf = true) ∧ wr.ownsRow w.heap.size 5 1 v l.length (l.map (.int .u8)) ∧ w.grownBy wr none) (fun _ i _ => 100 - (intOf i).toNat)
  case atStart => exact ⟨[], by simp, rfl, by simp, World.ownsRow_nil _ _ _ _, grown_refl _⟩
  case round =>
    obtain ⟨l, hl, rfl, hwf, hown, hg⟩ := hrel
    have hsz := hg.size
    have HWF := Lib.hid hwf
    clear hwf
    by_cases hlt : (l.length : Int) < m1 % 61
    · have hl2 : l.length < 61 := by omega
      go_wp2_with (at_builtin; refine wpList_appS _ rfl _ _ 22 22 rfl w.heap.size 5 (.int .u8 0) 1 1 Try.underlying22 Try.infoU8 rfl (by decide) _ _ _ 1 _ [.int .u8 l.length] (hown.alloc _) rfl rfl (own_src (own_lit1 wr 5 _) (by simp [Value.oneCell']) Try.underlying22) (by unfold maxLen; omega) (by omega) (by simp; omega) ?_)
      intro v1 w1 hown1 hg1 _
      have hg2 := grown_own (hg.trans' (grown_alloc wr _)) (hown.alloc _) hg1
      obtain ⟨g, c1, rfl⟩ := own_succ hown1
      have k1 := hown1.cellAt l.length (by omega)
      have k2 := hown1.frozenAt l.length
      rw [List.getElem?_append_right (by simp)] at k1
      simp only [List.length_map, Nat.sub_self, List.getElem?_cons_zero] at k1
      have hgb := (hown1.lt g rfl).1
      have HO := Lib.hid hown1
      clear hown hown1 hg1
      go_wp2
      · go_roundw
        case rel => exact ⟨l ++ [n % 256], by simp; omega, by simp, wf_snoc HWF.out (wf_small (by omega) (by omega)), by simpa [List.set_append] using (HO.out.stored l.length (.int .u8 (n % 256))).1, grown_set hg2 _ hgb⟩
        case measure => simp [intOf]; omega
      · go_roundw
        case rel => exact ⟨l ++ [(l.length : Int)], by simp; omega, by simp, wf_snoc HWF.out (wf_small (by omega) (by omega)), by simpa using HO.out, hg2⟩
        case measure => simp [intOf]; omega
    · go_wp2
      go_ret
      exact ⟨_, rfl, l, by omega, ints_of_own hown HWF.out, hg⟩
theorem strOfNums_eq' {a b : List Int} (ha : ∀ n ∈ a, (Lit.int .u8 n).wf = true) (hb : ∀ n ∈ b, (Lit.int .u8 n).wf = true) : ((strOfNums a).toList == (strOfNums b).toList) = (a == b) := by
  rw [Bool.eq_iff_iff, beq_iff_eq, beq_iff_eq]
  exact ⟨fun h => by rw [← sI_strOfNums ha, ← sI_strOfNums hb, bytes_ext h], fun h => by rw [h]⟩
/-- Which pages are shared. -/
def sharedL (X Y : List (List Int)) : List Bool := (List.range Y.length).map fun i => decide (i < X.length) && (gL X i == gL Y i)
def sharedN (X Y : List (List Int)) (j : Nat) : List Bool := (List.range j).map fun i => decide (i < X.length) && (gL X i == gL Y i)
theorem sharedN_succ (X Y : List (List Int)) (j : Nat) : sharedN X Y (j + 1) = sharedN X Y j ++ [decide (j < X.length) && (gL X j == gL Y j)] := by
  unfold sharedN; rw [List.range_succ, List.map_append]; rfl
theorem length_sharedN (X Y : List (List Int)) (j : Nat) : (sharedN X Y j).length = j := by unfold sharedN; simp
theorem equal_any (v u : Value) (l m : List Int) (w : World) (hv : Ints .u8 w v l) (hu : Ints .u8 w u m) :
    Calls Try.prog 22 #[v, u] w fun e w' => e = .returned (.bool (l == m)) ∧ w.grownBy w' none := by
  have cv1 := run_string (P := Try.prog) hv Try.underlying22 Try.underlying5 Try.underlying9
  have cv2 := run_string (P := Try.prog) hu Try.underlying22 Try.underlying5 Try.underlying9
  have hh := strOfNums_eq' hv.wfs hu.wfs
  have HH := Lib.hid hh
  clear hh hv hu
  generalize strOfNums l = s at *
  generalize strOfNums m = t at *
  go_enter Try.func22, Try.ntmps22
  go_wp2
  go_ret
  exact ⟨by rw [← HH.out]; rfl, grown_refl _⟩
theorem Try.infoBool : (Try.prog.info? 4).map (fun i => (i.zero, i.size, i.bytes)) = some (some (.bool false), 1, 1) := by kernel_rfl
set_option maxRecDepth 100000 in
set_option maxHeartbeats 3200000 in
theorem shared_any (v u : Value) (X Y : List (List Int)) (w : World) (hv : Pgs w v X) (hu : Pgs w u Y) (hX : X.length ≤ 1000) (hY : Y.length ≤ 1000) :
    Calls Try.prog 16 #[v, u] w fun e w' => ∃ v', e = .returned v' ∧ w'.ownsRow w.heap.size 4 1 v' Y.length ((sharedL X Y).map .bool) ∧ w.grownBy w' none := by
  have HV := Lib.hid hv
  have HU := Lib.hid hu
  obtain ⟨a, cap, rfl, q1, q2⟩ := hv.shape
  obtain ⟨a2, cap2, rfl, q3, q4⟩ := hu.shape
  clear hv hu
  unfold maxLen at q2 q4
  go_enter Try.func16, Try.ntmps16
  go_wp2_with fail
  go_loopw [5, 10] (fun v i wr => ∃ k : Nat, k ≤ Y.length ∧ i = .int .i64 k ∧ wr.ownsRow w.heap.size 4 1 v k ((sharedN X Y k).map .bool) ∧ w.grownBy wr none) (fun _ i _ => Y.length - (intOf i).toNat)
  case atStart => exact ⟨0, by omega, rfl, World.ownsRow_nil _ _ _ _, grown_refl _⟩
  case round =>
    obtain ⟨k, hk, rfl, hown, hg⟩ := hrel
    have hsz := hg.size
    by_cases hkn : k < Y.length
    · obtain ⟨b, off, y, rfl, hb, hc, hi⟩ := HU.out.at hkn
      have hc' : wr.cell? ⟨b, off + k, none⟩ = some y := kcell hg hc hb
      have hi' := hi.grown hg
      have HS := Lib.hid (sharedN_succ X Y k)
      clear hc hi
      by_cases hkx : k < X.length
      · obtain ⟨b2, off2, x, rfl, hb2, hc2, hi2⟩ := HV.out.at hkx
        have hc2' : wr.cell? ⟨b2, off2 + k, none⟩ = some x := kcell hg hc2 hb2
        have c1 := equal_any _ _ _ _ _ (hi2.grown hg) hi'
        have hd : decide (k < X.length) = true := decide_eq_true hkx
        have HD := Lib.hid hd
        generalize (gL X k == gL Y k) = z at *
        have C1 := Lib.hid c1
        clear hc2 hi2 c1 hd hi'
        go_wp2_with fail
        refine C1.out.mono ?_
        rintro e w2 ⟨rfl, g2⟩
        have hown2 := own_keep hown g2
        have hz2 := g2.size
        go_wp2_with (at_builtin; refine wpList_appS _ rfl _ _ 36 36 rfl w.heap.size 4 (.bool false) 1 1 Try.underlying36 Try.infoBool rfl (by decide) _ _ _ 1 _ [.bool z] (hown2.alloc _) rfl rfl (own_src (own_lit1 w2 4 _) (by simp [Value.oneCell']) Try.underlying36) (by unfold maxLen; omega) (by omega) (by simp; omega) ?_)
        intro v3 w3 hown3 hg3 _
        have hg4 := grown_own ((hg.trans' g2).trans' (grown_alloc w2 _)) (hown2.alloc _) hg3
        clear hown hown2 hg3
        go_wp2
        go_roundw
        case rel => exact ⟨k + 1, by omega, by go_num, by rw [HS.out, HD.out]; simpa using hown3, hg4⟩
        case measure => simp [intOf]; omega
      · have hd : decide (k < X.length) = false := decide_eq_false hkx
        have HD := Lib.hid hd
        clear hd hi'
        go_wp2_with (at_builtin; refine wpList_appS _ rfl _ _ 36 36 rfl w.heap.size 4 (.bool false) 1 1 Try.underlying36 Try.infoBool rfl (by decide) _ _ _ 1 _ [.bool false] (hown.alloc _) rfl rfl (own_src (own_lit1 wr 4 _) (by simp [Value.oneCell']) Try.underlying36) (by unfold maxLen; omega) (by omega) (by simp; omega) ?_)
        intro v3 w3 hown3 hg3 _
        have hg4 := grown_own (hg.trans' (grown_alloc wr _)) (hown.alloc _) hg3
        clear hown hg3
        go_wp2
        go_roundw
        case rel => exact ⟨k + 1, by omega, by go_num, by rw [HS.out, HD.out]; simpa using hown3, hg4⟩
        case measure => simp [intOf]; omega
    · have hkl : k = Y.length := by omega
      subst hkl
      have HO := Lib.hid hown
      clear hown
      go_wp2
      go_ret
      exact ⟨_, rfl, HO.out, hg⟩
set_option maxRecDepth 100000 in
set_option maxHeartbeats 3200000 in
theorem sharedr_any (v u : Value) (X Y : List (List Int)) (w : World) (hv : Pgs w v X) (hu : Pgs w u Y) (hX : X.length ≤ 1000) (hY : Y.length ≤ 1000) :
    Calls Try.prog 17 #[v, u] w fun e w' => ∃ v', e = .returned v' ∧ w'.ownsRow w.heap.size 4 1 v' Y.length ((sharedL X Y).map .bool) ∧ w.grownBy w' none := by
  have HV := Lib.hid hv
  have HU := Lib.hid hu
  obtain ⟨a, cap, rfl, q1, q2⟩ := hv.shape
  obtain ⟨a2, cap2, rfl, q3, q4⟩ := hu.shape
  clear hv hu
  unfold maxLen at q2 q4
  go_enter Try.func17, Try.ntmps17
  go_wp2_with fail
  go_loopw [5, 6] (fun v i wr => ∃ k : Nat, k ≤ Y.length ∧ i = .int .i64 k ∧ wr.ownsRow w.heap.size 4 1 v k ((sharedN X Y k).map .bool) ∧ w.grownBy wr none) (fun _ i _ => Y.length - (intOf i).toNat)
  case atStart => exact ⟨0, by omega, rfl, World.ownsRow_nil _ _ _ _, grown_refl _⟩
  case round =>
    obtain ⟨k, hk, rfl, hown, hg⟩ := hrel
    have hsz := hg.size
    by_cases hkn : k < Y.length
    · obtain ⟨b, off, y, rfl, hb, hc, hi⟩ := HU.out.at hkn
      have HS := Lib.hid (sharedN_succ X Y k)
      have e1 : (0 : Int) ≤ k := by omega
      have e2 : (k : Int) < Y.length := by omega
      by_cases hkx : k < X.length
      · obtain ⟨b2, off2, x, rfl, hb2, hc2, hi2⟩ := HV.out.at hkx
        have fx : ∀ w' : World, w.grownBy w' none → w'.cell? ⟨b2, off2 + k, none⟩ = some x := fun w' g => kcell g hc2 hb2
        have fy : ∀ w' : World, w.grownBy w' none → w'.cell? ⟨b, off + k, none⟩ = some y := fun w' g => kcell g hc hb
        have hd : decide (k < X.length) = true := decide_eq_true hkx
        have HD := Lib.hid hd
        have e3 : (k : Int) < X.length := by omega
        have sa := fun (w' : World) (g : w.grownBy w' none) => run_string (P := Try.prog) (hi.grown g) Try.underlying22 Try.underlying5 Try.underlying9
        have sb := fun (w' : World) (g : w.grownBy w' none) => run_string (P := Try.prog) (hi2.grown g) Try.underlying22 Try.underlying5 Try.underlying9
        have HH := Lib.hid (strOfNums_eq' hi2.wfs hi.wfs)
        generalize strOfNums (gL X k) = sx at *
        generalize strOfNums (gL Y k) = sy at *
        clear hc hc2 hi hi2 hd
        go_wp2_with fail
        generalize hz : (sx.toList == sy.toList) = z at *
        refine wp_region_seq [true, true, true, true, true, true, true, true, true, true, true, true, true, true, true, true, true, true, false, false, true] (fun w' => w.grownBy w' none) (by kernel_rfl) (by kernel_rfl) (by kernel_rfl) (hg.trans' (grown_drew1 _)) ?_
        repeat (first
          | ((refine seq_skip (by rfl) ?_); (try simp only [Act.put, List.setIfInBounds_toArray, List.set_cons_zero, List.set_cons_succ]))
          | ((refine seq_take ?_ (by rfl) ?_ ?_); rotate_left; (focus (intro w' hS; go_simp; first | done | with_reducible rfl)); (try simp only [Act.put, List.setIfInBounds_toArray, List.set_cons_zero, List.set_cons_succ])))
        have hownd : (wr.drew.alloc (.cells #[.bool z] 4)).ownsRow w.heap.size 4 1 _ k ((sharedN X Y k).map .bool) := World.ownsRow.alloc (w := wr.drew) hown _
        refine seq_run (by rfl) ?_
        intro K hK
        go_simp
        refine hK _ _ ((hg.trans' (grown_drew1 _)).trans' (grown_alloc _ _)) ?_
        clear hK K
        refine seq_run (by rfl) ?_
        intro K hK
        refine wp_appS _ _ _ 36 36 (by rfl) w.heap.size 4 (.bool false) 1 1 Try.underlying36 Try.infoBool rfl (by decide) _ _ _ 1 _ [.bool z] hownd (by rfl) (by rfl) (own_src (own_lit1 wr.drew 4 _) (by simp [Value.oneCell']) Try.underlying36) (by unfold maxLen; omega) (by omega) (by simp; omega) ?_
        intro v3 w3 hown3 hg3 _
        have hg4 := grown_own ((hg.trans' (grown_drew1 _)).trans' (grown_alloc wr.drew _)) hownd hg3
        refine hK _ _ hg4 ?_
        clear hK K hown hownd hg3
        simp only [Act.put, List.setIfInBounds_toArray, List.set_cons_zero, List.set_cons_succ]
        repeat (first
          | ((refine seq_skip (by rfl) ?_); (try simp only [Act.put, List.setIfInBounds_toArray, List.set_cons_zero, List.set_cons_succ]))
          | ((refine seq_take ?_ (by rfl) ?_ ?_); rotate_left; (focus (intro w' hS; go_simp; first | done | with_reducible rfl)); (try simp only [Act.put, List.setIfInBounds_toArray, List.set_cons_zero, List.set_cons_succ])))
        refine seq_end ?_
        go_wp2
        go_roundw
        case rel => exact ⟨k + 1, by omega, by go_num, by rw [HS.out, HD.out, ← HH.out]; simpa using hown3, hg4⟩
        case measure => simp [intOf]; omega
      · have hd : decide (k < X.length) = false := decide_eq_false hkx
        have hd2 : decide ((k : Int) < X.length) = false := decide_eq_false (by omega)
        have HD := Lib.hid hd
        clear hd hi hc
        go_wp2_with fail
        refine wp_region_seq [true, true, true, true, true, true, true, true, true, true, true, true, true, true, true, true, true, true, false, false, true] (fun w' => w.grownBy w' none) (by kernel_rfl) (by kernel_rfl) (by kernel_rfl) (hg.trans' (grown_drew1 _)) ?_
        repeat (first
          | ((refine seq_skip (by rfl) ?_); (try simp only [Act.put, List.setIfInBounds_toArray, List.set_cons_zero, List.set_cons_succ]))
          | ((refine seq_take ?_ (by rfl) ?_ ?_); rotate_left; (focus (intro w' hS; go_simp; first | done | with_reducible rfl)); (try simp only [Act.put, List.setIfInBounds_toArray, List.set_cons_zero, List.set_cons_succ])))
        have hownd : (wr.drew.alloc (.cells #[.bool false] 4)).ownsRow w.heap.size 4 1 _ k ((sharedN X Y k).map .bool) := World.ownsRow.alloc (w := wr.drew) hown _
        refine seq_run (by rfl) ?_
        intro K hK
        go_simp
        refine hK _ _ ((hg.trans' (grown_drew1 _)).trans' (grown_alloc _ _)) ?_
        clear hK K
        refine seq_run (by rfl) ?_
        intro K hK
        refine wp_appS _ _ _ 36 36 (by rfl) w.heap.size 4 (.bool false) 1 1 Try.underlying36 Try.infoBool rfl (by decide) _ _ _ 1 _ [.bool false] hownd (by rfl) (by rfl) (own_src (own_lit1 wr.drew 4 _) (by simp [Value.oneCell']) Try.underlying36) (by unfold maxLen; omega) (by omega) (by simp; omega) ?_
        intro v3 w3 hown3 hg3 _
        have hg4 := grown_own ((hg.trans' (grown_drew1 _)).trans' (grown_alloc wr.drew _)) hownd hg3
        refine hK _ _ hg4 ?_
        clear hK K hown hownd hg3
        simp only [Act.put, List.setIfInBounds_toArray, List.set_cons_zero, List.set_cons_succ]
        repeat (first
          | ((refine seq_skip (by rfl) ?_); (try simp only [Act.put, List.setIfInBounds_toArray, List.set_cons_zero, List.set_cons_succ]))
          | ((refine seq_take ?_ (by rfl) ?_ ?_); rotate_left; (focus (intro w' hS; go_simp; first | done | with_reducible rfl)); (try simp only [Act.put, List.setIfInBounds_toArray, List.set_cons_zero, List.set_cons_succ])))
        refine seq_end ?_
        go_wp2
        go_roundw
        case rel => exact ⟨k + 1, by omega, by go_num, by rw [HS.out, HD.out]; simpa using hown3, hg4⟩
        case measure => simp [intOf]; omega
    · have hkl : k = Y.length := by omega
      subst hkl
      have HO := Lib.hid hown
      clear hown
      go_wp2
      go_ret
      exact ⟨_, rfl, HO.out, hg⟩
end Go.Proofs.Ytogeclmpfbecoaa
