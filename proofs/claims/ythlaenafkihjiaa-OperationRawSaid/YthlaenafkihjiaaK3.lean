/- Parts of the proof, laid together. No condition. -/
import Derived.Test.YthlaenafkihjiaaK2
/- Short forms of the rules; what ends with some result ends with one result. Conditions: those of the rules. -/
namespace Go.Proofs.Ythlaenafkihjiaa
open Go.RowKit
set_option linter.unusedVariables false
set_option linter.unusedSimpArgs false
/-- What ends with some result ends with one result. -/
def GM {R : Type} (G G' : (R → Prop) → Prop) : Prop := ∀ Post : R → Prop, G Post → ∃ r, G' (fun x => r = x) ∧ Post r
section
variable {R α σ : Type}
theorem GM.ret (e : R) : GM (fun Q => Q e) (fun Q => Q e) := fun Post h => ⟨e, rfl, h⟩
theorem GM.and {p : Prop} {G G' : (R → Prop) → Prop} (h : GM G G') : GM (fun Q => p ∧ G Q) (fun Q => p ∧ G' Q) := fun Post ⟨hp, hg⟩ => let ⟨r, h1, h2⟩ := h Post hg; ⟨r, ⟨hp, h1⟩, h2⟩
theorem GM.ex {p : α → Prop} {G G' : α → (R → Prop) → Prop} (h : ∀ a, GM (G a) (G' a)) : GM (fun Q => ∃ a, p a ∧ G a Q) (fun Q => ∃ a, p a ∧ G' a Q) := fun Post ⟨a, hp, hg⟩ => let ⟨r, h1, h2⟩ := h a Post hg; ⟨r, ⟨a, hp, h1⟩, h2⟩
theorem GM.cond {c : Bool} {A A' B B' : (R → Prop) → Prop} (h1 : GM A A') (h2 : GM B B') : GM (fun Q => (c = true → A Q) ∧ (c = false → B Q)) (fun Q => (c = true → A' Q) ∧ (c = false → B' Q)) := fun Post h => by
  cases c with
  | true => obtain ⟨r, h3, h4⟩ := h1 Post (h.1 rfl); exact ⟨r, ⟨fun _ => h3, (fun h => by cases h)⟩, h4⟩
  | false => obtain ⟨r, h3, h4⟩ := h2 Post (h.2 rfl); exact ⟨r, ⟨(fun h => by cases h), fun _ => h3⟩, h4⟩
theorem GM.join {k k' : α → (R → Prop) → Prop} {m m' : (α → Prop) → (R → Prop) → Prop} (h1 : ∀ p, GM (k p) (k' p)) (h2 : ∀ K K' : α → (R → Prop) → Prop, (∀ p, GM (K p) (K' p)) → GM (fun Q => m (fun p => K p Q) Q) (fun Q => m' (fun p => K' p Q) Q)) :
    GM (fun Q => jn (fun p => k p Q) (fun J => m J Q)) (fun Q => jn (fun p => k' p Q) (fun J => m' J Q)) := h2 k k' h1
/-- A loop's step, as the relation goes up. -/
theorem GM.loop {step step' : (σ → Prop) → σ → (R → Prop) → Prop} {s0 : σ} (hm : ∀ (X Y : σ → Prop) (Q : R → Prop) (s : σ), (∀ s, X s → Y s) → step' X s Q → step' Y s Q)
    (h : ∀ K K' : σ → (R → Prop) → Prop, (∀ s, GM (K s) (K' s)) → ∀ s, GM (fun Q => step (fun s => K s Q) s Q) (fun Q => step' (fun s => K' s Q) s Q)) :
    GM (fun Q => lp (fun (X : σ → Prop) (s : σ) => step X s Q) s0) (fun Q => lp (fun (X : σ → Prop) (s : σ) => step' X s Q) s0) := by
  intro Post hl
  have hl : lp (fun (X : σ → Prop) (s : σ) => step X s Post) s0 := hl
  refine hl (fun (s : σ) => ∃ r, lp (fun (X : σ → Prop) (s : σ) => step' X s (fun x => r = x)) s ∧ Post r) fun s hs => ?_
  obtain ⟨r, h1, h2⟩ := h (fun s Q => ∃ r, lp (fun (X : σ → Prop) (s : σ) => step' X s (fun x => r = x)) s ∧ Q r) (fun s Q => lp (fun (X : σ → Prop) (s : σ) => step' X s Q) s) (fun s P ⟨r, h1, h2⟩ => ⟨r, h1, h2⟩) s Post hs
  exact ⟨r, fun X hX => hX s (hm _ _ _ s (fun s' h' => h' X hX) h1), h2⟩
end
theorem jn_imp {α : Type} {k k' : α → Prop} {m m' : (α → Prop) → Prop} (h : jn k m) (h1 : ∀ p, k p → k' p) (h2 : ∀ J J' : α → Prop, (∀ p, J p → J' p) → m J → m' J') : jn k' m' := h2 k k' h1 h
theorem lp_imp {σ : Type} {step step' : (σ → Prop) → σ → Prop} {s0 : σ} (h : lp step s0) (hi : ∀ X Y : σ → Prop, (∀ s, X s → Y s) → ∀ s, step X s → step' Y s) : lp step' s0 := fun Y hY => h Y fun s hs => hY s (hi Y Y (fun _ h => h) s hs)
section
variable {E : En} {N : Nat} {P : Program} {T : Tb P} {ops : Array Oper} {o : Oper} {st : St} {r : List Oper} {acc : List (Fp × Ef)} {K : List (Fp × Ef) → St → Prop} {d : Nat} {ty : Nat} {pos : String} {af : Array Edge} {op : Op} {f : Fp} {t : TV} {fr : List (Nat × TV)} {H : List (Bid × Option Bk)} {Q : Exit → St → Prop}
theorem u0 (hop : OpL E N P ops ⟨some d, op, ty, pos, af, none⟩ ⟨fr, H⟩ f ⟨t, []⟩) (h : Run E N P ops r ((f, ⟨t, []⟩) :: acc) ⟨(d, t) :: fr, H⟩ K) : Run E N P ops (⟨some d, op, ty, pos, af, none⟩ :: r) acc ⟨fr, H⟩ K := run_op0 rfl hop h
theorem u1 {b1 : Bid × Option Bk} (hop : OpL E N P ops ⟨some d, op, ty, pos, af, none⟩ ⟨fr, H⟩ f ⟨t, [b1]⟩) (h : Run E N P ops r ((f, ⟨t, [b1]⟩) :: acc) ⟨(d, t) :: fr, b1 :: H⟩ K) : Run E N P ops (⟨some d, op, ty, pos, af, none⟩ :: r) acc ⟨fr, H⟩ K := run_op1 rfl hop h
theorem un {b1 : Bid × Option Bk} (hop : OpL E N P ops ⟨none, op, ty, pos, af, none⟩ ⟨fr, H⟩ f ⟨t, [b1]⟩) (h : Run E N P ops r ((f, ⟨t, [b1]⟩) :: acc) ⟨fr, b1 :: H⟩ K) : Run E N P ops (⟨none, op, ty, pos, af, none⟩ :: r) acc ⟨fr, H⟩ K := run_opn rfl hop h
theorem ul {bl : List (Bid × Option Bk)} (hop : OpL E N P ops ⟨some d, op, ty, pos, af, none⟩ ⟨fr, H⟩ f ⟨t, bl⟩) (h : Run E N P ops r ((f, ⟨t, bl⟩) :: acc) ⟨(d, t) :: fr, bl ++ H⟩ K) : Run E N P ops (⟨some d, op, ty, pos, af, none⟩ :: r) acc ⟨fr, H⟩ K := run_opl rfl hop h
theorem mv {k : Nat} {y : CV} (hx : (⟨fr, H⟩ : St).ev (.tmp k) = .c y) (h : Run E N P ops r ((⟨[], []⟩, ⟨.c y, []⟩) :: acc) ⟨(d, .c y) :: fr, H⟩ K) : Run E N P ops (⟨some d, .move (.tmp k), ty, pos, af, none⟩ :: r) acc ⟨fr, H⟩ K := run_op0 rfl (opL_move_c hx rfl) h
theorem asn {x : Operand} {y : CV} (hx : (⟨fr, H⟩ : St).ev x = .c y) (hc : okC x = true) (h : Run E N P ops r ((⟨[], []⟩, ⟨.c y, []⟩) :: acc) ⟨(d, .c y) :: fr, H⟩ K) : Run E N P ops (⟨some d, .assign x, ty, pos, af, none⟩ :: r) acc ⟨fr, H⟩ K := run_op0 rfl (opL_assign_c hx hc) h
theorem rt {L : St → Prop} (h : L st) (h1 : chkT acc.reverse = true := by kernel_rfl) {st0 : St} (h2 : freshA st0 acc = true := by kernel_rfl) : Run E N P ops [] acc st fun acc st' => chkT acc.reverse = true ∧ freshA st0 acc = true ∧ L st' := run_nil ⟨h1, h2, h⟩
theorem rd {L : St → Prop} {l : List Oper} (h : L st) (h1 : chkD l acc.reverse = true := by kernel_rfl) {st0 : St} (h2 : freshA st0 acc = true := by kernel_rfl) : Run E N P ops [] acc st fun acc st' => chkD l acc.reverse = true ∧ freshA st0 acc = true ∧ L st' := run_nil ⟨h1, h2, h⟩
theorem tk {x : List Oper} {id : Nat} {y : Code} (h : ∀ L : St → Prop, (∀ st, AW E N P y Q st → L st) → Run E N P x.toArray x [] st fun acc st' => chkT acc.reverse = true ∧ freshA st acc = true ∧ L st') (hN : chkN N x = true := by kernel_rfl) : AW E N P (.seq (.region id x.toArray false) y) Q st := aw_textk hN h
theorem dk (hm : P.follows .mixedOrders = true) {x : List Oper} {id : Nat} {y : Code} (h : ∀ L : St → Prop, (∀ st, AW E N P y Q st → L st) → Run E N P x.toArray x [] st fun acc st' => chkD x acc.reverse = true ∧ freshA st acc = true ∧ L st') (hS : schS N x = true := by kernel_rfl) : AW E N P (.seq (.region id x.toArray true) y) Q st := aw_drawk hm hS h
theorem tl {x : List Oper} {id : Nat} (h : ∀ L : St → Prop, (∀ st, Q .normal st → L st) → Run E N P x.toArray x [] st fun acc st' => chkT acc.reverse = true ∧ freshA st acc = true ∧ L st') (hN : chkN N x = true := by kernel_rfl) : AW E N P (.region id x.toArray false) Q st := aw_text hN (h _ fun _ h => h)
theorem dl (hm : P.follows .mixedOrders = true) {x : List Oper} {id : Nat} (h : ∀ L : St → Prop, (∀ st, Q .normal st → L st) → Run E N P x.toArray x [] st fun acc st' => chkD x acc.reverse = true ∧ freshA st acc = true ∧ L st') (hS : schS N x = true := by kernel_rfl) : AW E N P (.region id x.toArray true) Q st := aw_draw hm hS (h _ fun _ h => h)
theorem sk {x y : Code} (h : ∀ K : St → Prop, (∀ st, AW E N P y Q st → K st) → AW E N P x (thenQ Q K) st) : AW E N P (.seq x y) Q st := aw_seqk h
theorem cnd {c : Operand} {x y : Code} {b : Bool} {A B : Prop} (hb : st.ev c = .c (.p (.v (.bool b)))) (h : (b = true → A) ∧ (b = false → B)) (ht : A → AW E N P x Q st) (hf : B → AW E N P y Q st) (hc : okC c = true := by rfl) : AW E N P (.cond c x y) Q st := aw_cond hb hc (fun e => ht (h.1 e)) (fun e => hf (h.2 e))
end
end Go.Proofs.Ythlaenafkihjiaa
/- The program's structs as Lean's. No condition. -/
namespace Go.Proofs.Ythlaenafkihjiaa
open Go.RowKit
set_option linter.unusedVariables false
set_option linter.unusedSimpArgs false
structure T_api_Params where
  fKind : Int
  fSize : Int
  fDepth : Int
  fSeed : Int
def e_api_Params (x : T_api_Params) : List PV := [.v (.int .i64 (x.fKind)), .v (.int .i64 (x.fSize)), .v (.int .i64 (x.fDepth)), .v (.int .u64 (x.fSeed))]
theorem nl_api_Params (x : T_api_Params) : (e_api_Params x).all noL = true := rfl
structure T_api_Item where
  fKey : ByteArray
  fWeight : Int
def e_api_Item (x : T_api_Item) : List PV := [.v (.string (x.fKey)), .v (.int .i64 (x.fWeight))]
theorem nl_api_Item (x : T_api_Item) : (e_api_Item x).all noL = true := rfl
structure T_api_Query where
  fKind : Int
  fKey : ByteArray
  fCount : Int
  fNum : Int
  fDen : Int
def e_api_Query (x : T_api_Query) : List PV := [.v (.int .i64 (x.fKind)), .v (.string (x.fKey)), .v (.int .i64 (x.fCount)), .v (.int .i64 (x.fNum)), .v (.int .i64 (x.fDen))]
theorem nl_api_Query (x : T_api_Query) : (e_api_Query x).all noL = true := rfl
structure T_api_Op where
  fKind : Int
  fName : ByteArray
  fOther : ByteArray
  fNames : (List ByteArray)
  fParams : T_api_Params
  fItems : (List T_api_Item)
  fCoins : (List Int)
  fExpected : Int
  fSource : Int
  fHandle : Int
  fIndex : Int
  fCursor : Int
  fCount : Int
  fQuery : T_api_Query
  fData : (List Int)
def e_api_Op (x : T_api_Op) : List PV := [.v (.int .i64 (x.fKind)), .v (.string (x.fName)), .v (.string (x.fOther)), .l 1 (List.map eS (x.fNames)), .v (.int .i64 (x.fParams.fKind)), .v (.int .i64 (x.fParams.fSize)), .v (.int .i64 (x.fParams.fDepth)), .v (.int .u64 (x.fParams.fSeed)), .l 2 (List.map e_api_Item (x.fItems)), .l 1 (List.map (eI .u8) (x.fCoins)), .v (.int .i64 (x.fExpected)), .v (.int .i64 (x.fSource)), .v (.int .i64 (x.fHandle)), .v (.int .i64 (x.fIndex)), .v (.int .i64 (x.fCursor)), .v (.int .i64 (x.fCount)), .v (.int .i64 (x.fQuery.fKind)), .v (.string (x.fQuery.fKey)), .v (.int .i64 (x.fQuery.fCount)), .v (.int .i64 (x.fQuery.fNum)), .v (.int .i64 (x.fQuery.fDen)), .l 1 (List.map (eI .u8) (x.fData))]
structure T_operation_writer where
  fb : (List Int)
def e_operation_writer (x : T_operation_writer) : List PV := [.l 1 (List.map (eI .u8) (x.fb))]
structure T_operation_reader where
  fb : (List Int)
  fbad : Bool
def e_operation_reader (x : T_operation_reader) : List PV := [.l 1 (List.map (eI .u8) (x.fb)), .v (.bool (x.fbad))]
structure T_A13_Bool where
  fe0 : Bool
  fe1 : Bool
  fe2 : Bool
  fe3 : Bool
  fe4 : Bool
  fe5 : Bool
  fe6 : Bool
  fe7 : Bool
  fe8 : Bool
  fe9 : Bool
  fe10 : Bool
  fe11 : Bool
  fe12 : Bool
def e_A13_Bool (x : T_A13_Bool) : List PV := [.v (.bool (x.fe0)), .v (.bool (x.fe1)), .v (.bool (x.fe2)), .v (.bool (x.fe3)), .v (.bool (x.fe4)), .v (.bool (x.fe5)), .v (.bool (x.fe6)), .v (.bool (x.fe7)), .v (.bool (x.fe8)), .v (.bool (x.fe9)), .v (.bool (x.fe10)), .v (.bool (x.fe11)), .v (.bool (x.fe12))]
theorem nl_A13_Bool (x : T_A13_Bool) : (e_A13_Bool x).all noL = true := rfl
end Go.Proofs.Ythlaenafkihjiaa
/- The table of the program's types. No condition. -/
namespace Go.Proofs.Ythlaenafkihjiaa
open Go.RowKit
set_option maxRecDepth 20000
theorem te_2 : teOf Try.prog 2 = some ⟨.int .i64, 1, 8, .int .i64 0⟩ := by kernel_rfl
theorem te_3 : teOf Try.prog 3 = some ⟨.int .i64, 1, 8, .int .i64 0⟩ := by kernel_rfl
theorem te_4 : teOf Try.prog 4 = some ⟨.bool, 1, 1, .bool false⟩ := by kernel_rfl
theorem te_5 : teOf Try.prog 5 = some ⟨.int .u8, 1, 1, .int .u8 0⟩ := by kernel_rfl
theorem te_6 : teOf Try.prog 6 = some ⟨.int .u8, 1, 1, .int .u8 0⟩ := by kernel_rfl
theorem te_7 : teOf Try.prog 7 = some ⟨.struct [(0, 2), (1, 3), (2, 4), (3, 6)], 4, 24, .agg #[.int .i64 0, .int .i64 0, .bool false, .int .u8 0]⟩ := by kernel_rfl
theorem te_8 : teOf Try.prog 8 = some ⟨.struct [(0, 2), (1, 3), (2, 4), (3, 6)], 4, 24, .agg #[.int .i64 0, .int .i64 0, .bool false, .int .u8 0]⟩ := by kernel_rfl
theorem te_9 : teOf Try.prog 9 = some ⟨.string, 1, 16, .string ByteArray.empty⟩ := by kernel_rfl
theorem te_10 : teOf Try.prog 10 = some ⟨.string, 1, 16, .string ByteArray.empty⟩ := by kernel_rfl
theorem te_11 : teOf Try.prog 11 = some ⟨.string, 1, 16, .string ByteArray.empty⟩ := by kernel_rfl
theorem te_12 : teOf Try.prog 12 = some ⟨.int .u64, 1, 8, .int .u64 0⟩ := by kernel_rfl
theorem te_13 : teOf Try.prog 13 = some ⟨.struct [(0, 9), (1, 12)], 2, 24, .agg #[.string ByteArray.empty, .int .u64 0]⟩ := by kernel_rfl
theorem te_14 : teOf Try.prog 14 = some ⟨.struct [(0, 9), (1, 12)], 2, 24, .agg #[.string ByteArray.empty, .int .u64 0]⟩ := by kernel_rfl
theorem te_15 : teOf Try.prog 15 = some ⟨.ptr 94, 1, 8, .pointer none⟩ := by kernel_rfl
theorem te_16 : teOf Try.prog 16 = some ⟨.ptr 97, 1, 8, .pointer none⟩ := by kernel_rfl
theorem te_17 : teOf Try.prog 17 = some ⟨.ptr 105, 1, 8, .pointer none⟩ := by kernel_rfl
theorem te_18 : teOf Try.prog 18 = some ⟨.struct [(0, 17)], 1, 8, .agg #[.pointer none]⟩ := by kernel_rfl
theorem te_19 : teOf Try.prog 19 = some ⟨.struct [(0, 17)], 1, 8, .agg #[.pointer none]⟩ := by kernel_rfl
theorem te_21 : teOf Try.prog 21 = some ⟨.int .i32, 1, 4, .int .i32 0⟩ := by kernel_rfl
theorem te_22 : teOf Try.prog 22 = some ⟨.slice 9, 1, 24, .slice none 0 0⟩ := by kernel_rfl
theorem te_23 : teOf Try.prog 23 = some ⟨.int .u64, 1, 8, .int .u64 0⟩ := by kernel_rfl
theorem te_24 : teOf Try.prog 24 = some ⟨.struct [(0, 3), (1, 3), (2, 3), (3, 23)], 4, 32, .agg #[.int .i64 0, .int .i64 0, .int .i64 0, .int .u64 0]⟩ := by kernel_rfl
theorem te_25 : teOf Try.prog 25 = some ⟨.struct [(0, 3), (1, 3), (2, 3), (3, 23)], 4, 32, .agg #[.int .i64 0, .int .i64 0, .int .i64 0, .int .u64 0]⟩ := by kernel_rfl
theorem te_26 : teOf Try.prog 26 = some ⟨.slice 34, 1, 24, .slice none 0 0⟩ := by kernel_rfl
theorem te_27 : teOf Try.prog 27 = some ⟨.slice 5, 1, 24, .slice none 0 0⟩ := by kernel_rfl
theorem te_28 : teOf Try.prog 28 = some ⟨.struct [(0, 3), (1, 9), (2, 3), (3, 3), (4, 3)], 5, 48, .agg #[.int .i64 0, .string ByteArray.empty, .int .i64 0, .int .i64 0, .int .i64 0]⟩ := by kernel_rfl
theorem te_29 : teOf Try.prog 29 = some ⟨.struct [(0, 3), (1, 9), (2, 3), (3, 3), (4, 3)], 5, 48, .agg #[.int .i64 0, .string ByteArray.empty, .int .i64 0, .int .i64 0, .int .i64 0]⟩ := by kernel_rfl
theorem te_30 : teOf Try.prog 30 = some ⟨.struct [(0, 3), (1, 9), (2, 9), (3, 22), (4, 25), (8, 26), (9, 27), (10, 3), (11, 3), (12, 3), (13, 3), (14, 3), (15, 3), (16, 29), (21, 27)], 22, 264, .agg #[.int .i64 0, .string ByteArray.empty, .string ByteArray.empty, .slice none 0 0, .int .i64 0, .int .i64 0, .int .i64 0, .int .u64 0, .slice none 0 0, .slice none 0 0, .int .i64 0, .int .i64 0, .int .i64 0, .int .i64 0, .int .i64 0, .int .i64 0, .int .i64 0, .string ByteArray.empty, .int .i64 0, .int .i64 0, .int .i64 0, .slice none 0 0]⟩ := by kernel_rfl
theorem te_31 : teOf Try.prog 31 = some ⟨.struct [(0, 3), (1, 9), (2, 9), (3, 22), (4, 25), (8, 26), (9, 27), (10, 3), (11, 3), (12, 3), (13, 3), (14, 3), (15, 3), (16, 29), (21, 27)], 22, 264, .agg #[.int .i64 0, .string ByteArray.empty, .string ByteArray.empty, .slice none 0 0, .int .i64 0, .int .i64 0, .int .i64 0, .int .u64 0, .slice none 0 0, .slice none 0 0, .int .i64 0, .int .i64 0, .int .i64 0, .int .i64 0, .int .i64 0, .int .i64 0, .int .i64 0, .string ByteArray.empty, .int .i64 0, .int .i64 0, .int .i64 0, .slice none 0 0]⟩ := by kernel_rfl
theorem te_33 : teOf Try.prog 33 = some ⟨.struct [(0, 9), (1, 3)], 2, 24, .agg #[.string ByteArray.empty, .int .i64 0]⟩ := by kernel_rfl
theorem te_34 : teOf Try.prog 34 = some ⟨.struct [(0, 9), (1, 3)], 2, 24, .agg #[.string ByteArray.empty, .int .i64 0]⟩ := by kernel_rfl
theorem te_35 : teOf Try.prog 35 = some ⟨.int .i64, 1, 8, .int .i64 0⟩ := by kernel_rfl
theorem te_43 : teOf Try.prog 43 = some ⟨.ptr 45, 1, 8, .pointer none⟩ := by kernel_rfl
theorem te_44 : teOf Try.prog 44 = some ⟨.struct [(0, 27)], 1, 24, .agg #[.slice none 0 0]⟩ := by kernel_rfl
theorem te_45 : teOf Try.prog 45 = some ⟨.struct [(0, 27)], 1, 24, .agg #[.slice none 0 0]⟩ := by kernel_rfl
theorem te_52 : teOf Try.prog 52 = some ⟨.slice 3, 1, 24, .slice none 0 0⟩ := by kernel_rfl
theorem te_54 : teOf Try.prog 54 = some ⟨.array 14 4, 14, 14, .agg #[.bool false, .bool false, .bool false, .bool false, .bool false, .bool false, .bool false, .bool false, .bool false, .bool false, .bool false, .bool false, .bool false, .bool false]⟩ := by kernel_rfl
theorem te_58 : teOf Try.prog 58 = some ⟨.array 13 4, 13, 13, .agg #[.bool false, .bool false, .bool false, .bool false, .bool false, .bool false, .bool false, .bool false, .bool false, .bool false, .bool false, .bool false, .bool false]⟩ := by kernel_rfl
theorem te_67 : teOf Try.prog 67 = some ⟨.ptr 69, 1, 8, .pointer none⟩ := by kernel_rfl
theorem te_68 : teOf Try.prog 68 = some ⟨.struct [(0, 27), (1, 4)], 2, 32, .agg #[.slice none 0 0, .bool false]⟩ := by kernel_rfl
theorem te_69 : teOf Try.prog 69 = some ⟨.struct [(0, 27), (1, 4)], 2, 32, .agg #[.slice none 0 0, .bool false]⟩ := by kernel_rfl
theorem te_75 : teOf Try.prog 75 = some ⟨.int .u32, 1, 4, .int .u32 0⟩ := by kernel_rfl
theorem te_77 : teOf Try.prog 77 = some ⟨.int .u64, 1, 8, .int .u64 0⟩ := by kernel_rfl
theorem te_93 : teOf Try.prog 93 = some ⟨.struct [(0, 17), (1, 17), (2, 17), (3, 9)], 4, 40, .agg #[.pointer none, .pointer none, .pointer none, .string ByteArray.empty]⟩ := by kernel_rfl
theorem te_94 : teOf Try.prog 94 = some ⟨.struct [(0, 17), (1, 17), (2, 17), (3, 9)], 4, 40, .agg #[.pointer none, .pointer none, .pointer none, .string ByteArray.empty]⟩ := by kernel_rfl
theorem te_95 : teOf Try.prog 95 = some ⟨.array 0 16, 0, 0, .agg #[]⟩ := by kernel_rfl
theorem te_96 : teOf Try.prog 96 = some ⟨.struct [(0, 95)], 0, 0, .agg #[]⟩ := by kernel_rfl
theorem te_97 : teOf Try.prog 97 = some ⟨.struct [(0, 95)], 0, 0, .agg #[]⟩ := by kernel_rfl
theorem te_98 : teOf Try.prog 98 = some ⟨.int .u8, 1, 1, .int .u8 0⟩ := by kernel_rfl
theorem te_99 : teOf Try.prog 99 = some ⟨.int .u8, 1, 1, .int .u8 0⟩ := by kernel_rfl
theorem te_101 : teOf Try.prog 101 = some ⟨.ptr 5, 1, 8, .pointer none⟩ := by kernel_rfl
theorem te_102 : teOf Try.prog 102 = some ⟨.int .i32, 1, 4, .int .i32 0⟩ := by kernel_rfl
theorem te_103 : teOf Try.prog 103 = some ⟨.int .i32, 1, 4, .int .i32 0⟩ := by kernel_rfl
theorem te_104 : teOf Try.prog 104 = some ⟨.struct [(0, 12), (1, 12), (2, 75), (3, 98), (4, 5), (5, 5), (6, 99), (7, 100), (8, 101), (9, 102), (10, 103)], 11, 48, .agg #[.int .u64 0, .int .u64 0, .int .u32 0, .int .u8 0, .int .u8 0, .int .u8 0, .int .u8 0, .nilFunc, .pointer none, .int .i32 0, .int .i32 0]⟩ := by kernel_rfl
theorem te_105 : teOf Try.prog 105 = some ⟨.struct [(0, 12), (1, 12), (2, 75), (3, 98), (4, 5), (5, 5), (6, 99), (7, 100), (8, 101), (9, 102), (10, 103)], 11, 48, .agg #[.int .u64 0, .int .u64 0, .int .u32 0, .int .u8 0, .int .u8 0, .int .u8 0, .int .u8 0, .nilFunc, .pointer none, .int .i32 0, .int .i32 0]⟩ := by kernel_rfl
def tbl : List (Nat × TE) := [(2, ⟨.int .i64, 1, 8, .int .i64 0⟩),
  (3, ⟨.int .i64, 1, 8, .int .i64 0⟩),
  (4, ⟨.bool, 1, 1, .bool false⟩),
  (5, ⟨.int .u8, 1, 1, .int .u8 0⟩),
  (6, ⟨.int .u8, 1, 1, .int .u8 0⟩),
  (7, ⟨.struct [(0, 2), (1, 3), (2, 4), (3, 6)], 4, 24, .agg #[.int .i64 0, .int .i64 0, .bool false, .int .u8 0]⟩),
  (8, ⟨.struct [(0, 2), (1, 3), (2, 4), (3, 6)], 4, 24, .agg #[.int .i64 0, .int .i64 0, .bool false, .int .u8 0]⟩),
  (9, ⟨.string, 1, 16, .string ByteArray.empty⟩),
  (10, ⟨.string, 1, 16, .string ByteArray.empty⟩),
  (11, ⟨.string, 1, 16, .string ByteArray.empty⟩),
  (12, ⟨.int .u64, 1, 8, .int .u64 0⟩),
  (13, ⟨.struct [(0, 9), (1, 12)], 2, 24, .agg #[.string ByteArray.empty, .int .u64 0]⟩),
  (14, ⟨.struct [(0, 9), (1, 12)], 2, 24, .agg #[.string ByteArray.empty, .int .u64 0]⟩),
  (15, ⟨.ptr 94, 1, 8, .pointer none⟩),
  (16, ⟨.ptr 97, 1, 8, .pointer none⟩),
  (17, ⟨.ptr 105, 1, 8, .pointer none⟩),
  (18, ⟨.struct [(0, 17)], 1, 8, .agg #[.pointer none]⟩),
  (19, ⟨.struct [(0, 17)], 1, 8, .agg #[.pointer none]⟩),
  (21, ⟨.int .i32, 1, 4, .int .i32 0⟩),
  (22, ⟨.slice 9, 1, 24, .slice none 0 0⟩),
  (23, ⟨.int .u64, 1, 8, .int .u64 0⟩),
  (24, ⟨.struct [(0, 3), (1, 3), (2, 3), (3, 23)], 4, 32, .agg #[.int .i64 0, .int .i64 0, .int .i64 0, .int .u64 0]⟩),
  (25, ⟨.struct [(0, 3), (1, 3), (2, 3), (3, 23)], 4, 32, .agg #[.int .i64 0, .int .i64 0, .int .i64 0, .int .u64 0]⟩),
  (26, ⟨.slice 34, 1, 24, .slice none 0 0⟩),
  (27, ⟨.slice 5, 1, 24, .slice none 0 0⟩),
  (28, ⟨.struct [(0, 3), (1, 9), (2, 3), (3, 3), (4, 3)], 5, 48, .agg #[.int .i64 0, .string ByteArray.empty, .int .i64 0, .int .i64 0, .int .i64 0]⟩),
  (29, ⟨.struct [(0, 3), (1, 9), (2, 3), (3, 3), (4, 3)], 5, 48, .agg #[.int .i64 0, .string ByteArray.empty, .int .i64 0, .int .i64 0, .int .i64 0]⟩),
  (30, ⟨.struct [(0, 3), (1, 9), (2, 9), (3, 22), (4, 25), (8, 26), (9, 27), (10, 3), (11, 3), (12, 3), (13, 3), (14, 3), (15, 3), (16, 29), (21, 27)], 22, 264, .agg #[.int .i64 0, .string ByteArray.empty, .string ByteArray.empty, .slice none 0 0, .int .i64 0, .int .i64 0, .int .i64 0, .int .u64 0, .slice none 0 0, .slice none 0 0, .int .i64 0, .int .i64 0, .int .i64 0, .int .i64 0, .int .i64 0, .int .i64 0, .int .i64 0, .string ByteArray.empty, .int .i64 0, .int .i64 0, .int .i64 0, .slice none 0 0]⟩),
  (31, ⟨.struct [(0, 3), (1, 9), (2, 9), (3, 22), (4, 25), (8, 26), (9, 27), (10, 3), (11, 3), (12, 3), (13, 3), (14, 3), (15, 3), (16, 29), (21, 27)], 22, 264, .agg #[.int .i64 0, .string ByteArray.empty, .string ByteArray.empty, .slice none 0 0, .int .i64 0, .int .i64 0, .int .i64 0, .int .u64 0, .slice none 0 0, .slice none 0 0, .int .i64 0, .int .i64 0, .int .i64 0, .int .i64 0, .int .i64 0, .int .i64 0, .int .i64 0, .string ByteArray.empty, .int .i64 0, .int .i64 0, .int .i64 0, .slice none 0 0]⟩),
  (33, ⟨.struct [(0, 9), (1, 3)], 2, 24, .agg #[.string ByteArray.empty, .int .i64 0]⟩),
  (34, ⟨.struct [(0, 9), (1, 3)], 2, 24, .agg #[.string ByteArray.empty, .int .i64 0]⟩),
  (35, ⟨.int .i64, 1, 8, .int .i64 0⟩),
  (43, ⟨.ptr 45, 1, 8, .pointer none⟩),
  (44, ⟨.struct [(0, 27)], 1, 24, .agg #[.slice none 0 0]⟩),
  (45, ⟨.struct [(0, 27)], 1, 24, .agg #[.slice none 0 0]⟩),
  (52, ⟨.slice 3, 1, 24, .slice none 0 0⟩),
  (54, ⟨.array 14 4, 14, 14, .agg #[.bool false, .bool false, .bool false, .bool false, .bool false, .bool false, .bool false, .bool false, .bool false, .bool false, .bool false, .bool false, .bool false, .bool false]⟩),
  (58, ⟨.array 13 4, 13, 13, .agg #[.bool false, .bool false, .bool false, .bool false, .bool false, .bool false, .bool false, .bool false, .bool false, .bool false, .bool false, .bool false, .bool false]⟩),
  (67, ⟨.ptr 69, 1, 8, .pointer none⟩),
  (68, ⟨.struct [(0, 27), (1, 4)], 2, 32, .agg #[.slice none 0 0, .bool false]⟩),
  (69, ⟨.struct [(0, 27), (1, 4)], 2, 32, .agg #[.slice none 0 0, .bool false]⟩),
  (75, ⟨.int .u32, 1, 4, .int .u32 0⟩),
  (77, ⟨.int .u64, 1, 8, .int .u64 0⟩),
  (93, ⟨.struct [(0, 17), (1, 17), (2, 17), (3, 9)], 4, 40, .agg #[.pointer none, .pointer none, .pointer none, .string ByteArray.empty]⟩),
  (94, ⟨.struct [(0, 17), (1, 17), (2, 17), (3, 9)], 4, 40, .agg #[.pointer none, .pointer none, .pointer none, .string ByteArray.empty]⟩),
  (95, ⟨.array 0 16, 0, 0, .agg #[]⟩),
  (96, ⟨.struct [(0, 95)], 0, 0, .agg #[]⟩),
  (97, ⟨.struct [(0, 95)], 0, 0, .agg #[]⟩),
  (98, ⟨.int .u8, 1, 1, .int .u8 0⟩),
  (99, ⟨.int .u8, 1, 1, .int .u8 0⟩),
  (101, ⟨.ptr 5, 1, 8, .pointer none⟩),
  (102, ⟨.int .i32, 1, 4, .int .i32 0⟩),
  (103, ⟨.int .i32, 1, 4, .int .i32 0⟩),
  (104, ⟨.struct [(0, 12), (1, 12), (2, 75), (3, 98), (4, 5), (5, 5), (6, 99), (7, 100), (8, 101), (9, 102), (10, 103)], 11, 48, .agg #[.int .u64 0, .int .u64 0, .int .u32 0, .int .u8 0, .int .u8 0, .int .u8 0, .int .u8 0, .nilFunc, .pointer none, .int .i32 0, .int .i32 0]⟩),
  (105, ⟨.struct [(0, 12), (1, 12), (2, 75), (3, 98), (4, 5), (5, 5), (6, 99), (7, 100), (8, 101), (9, 102), (10, 103)], 11, 48, .agg #[.int .u64 0, .int .u64 0, .int .u32 0, .int .u8 0, .int .u8 0, .int .u8 0, .int .u8 0, .nilFunc, .pointer none, .int .i32 0, .int .i32 0]⟩)]
theorem tbl_all : ∀ y ∈ tbl, teOf Try.prog y.1 = some y.2 :=
  (List.forall_mem_cons.2 ⟨te_2, (List.forall_mem_cons.2 ⟨te_3, (List.forall_mem_cons.2 ⟨te_4, (List.forall_mem_cons.2 ⟨te_5, (List.forall_mem_cons.2 ⟨te_6, (List.forall_mem_cons.2 ⟨te_7, (List.forall_mem_cons.2 ⟨te_8, (List.forall_mem_cons.2 ⟨te_9, (List.forall_mem_cons.2 ⟨te_10, (List.forall_mem_cons.2 ⟨te_11, (List.forall_mem_cons.2 ⟨te_12, (List.forall_mem_cons.2 ⟨te_13, (List.forall_mem_cons.2 ⟨te_14, (List.forall_mem_cons.2 ⟨te_15, (List.forall_mem_cons.2 ⟨te_16, (List.forall_mem_cons.2 ⟨te_17, (List.forall_mem_cons.2 ⟨te_18, (List.forall_mem_cons.2 ⟨te_19, (List.forall_mem_cons.2 ⟨te_21, (List.forall_mem_cons.2 ⟨te_22, (List.forall_mem_cons.2 ⟨te_23, (List.forall_mem_cons.2 ⟨te_24, (List.forall_mem_cons.2 ⟨te_25, (List.forall_mem_cons.2 ⟨te_26, (List.forall_mem_cons.2 ⟨te_27, (List.forall_mem_cons.2 ⟨te_28, (List.forall_mem_cons.2 ⟨te_29, (List.forall_mem_cons.2 ⟨te_30, (List.forall_mem_cons.2 ⟨te_31, (List.forall_mem_cons.2 ⟨te_33, (List.forall_mem_cons.2 ⟨te_34, (List.forall_mem_cons.2 ⟨te_35, (List.forall_mem_cons.2 ⟨te_43, (List.forall_mem_cons.2 ⟨te_44, (List.forall_mem_cons.2 ⟨te_45, (List.forall_mem_cons.2 ⟨te_52, (List.forall_mem_cons.2 ⟨te_54, (List.forall_mem_cons.2 ⟨te_58, (List.forall_mem_cons.2 ⟨te_67, (List.forall_mem_cons.2 ⟨te_68, (List.forall_mem_cons.2 ⟨te_69, (List.forall_mem_cons.2 ⟨te_75, (List.forall_mem_cons.2 ⟨te_77, (List.forall_mem_cons.2 ⟨te_93, (List.forall_mem_cons.2 ⟨te_94, (List.forall_mem_cons.2 ⟨te_95, (List.forall_mem_cons.2 ⟨te_96, (List.forall_mem_cons.2 ⟨te_97, (List.forall_mem_cons.2 ⟨te_98, (List.forall_mem_cons.2 ⟨te_99, (List.forall_mem_cons.2 ⟨te_101, (List.forall_mem_cons.2 ⟨te_102, (List.forall_mem_cons.2 ⟨te_103, (List.forall_mem_cons.2 ⟨te_104, (List.forall_mem_cons.2 ⟨te_105, (by simp)⟩)⟩)⟩)⟩)⟩)⟩)⟩)⟩)⟩)⟩)⟩)⟩)⟩)⟩)⟩)⟩)⟩)⟩)⟩)⟩)⟩)⟩)⟩)⟩)⟩)⟩)⟩)⟩)⟩)⟩)⟩)⟩)⟩)⟩)⟩)⟩)⟩)⟩)⟩)⟩)⟩)⟩)⟩)⟩)⟩)⟩)⟩)⟩)⟩)⟩)⟩)⟩)⟩)⟩)⟩)
def tb : Tb Try.prog := ⟨tbl, tb_of tbl_all⟩
theorem mixed : Try.prog.follows .mixedOrders = true := by kernel_rfl
end Go.Proofs.Ythlaenafkihjiaa
/- What functions compute, and that they do. No condition. -/
namespace Go.Proofs.Ythlaenafkihjiaa
open Go.RowKit
set_option linter.unusedVariables false
set_option linter.unusedSimpArgs false
set_option maxRecDepth 100000
set_option maxHeartbeats 4000000
def W_operation_uses (a0 : Int) (Q : ((List Int)) → Prop) : Prop :=
 (((((a0) == (1))) = true → Q (([(0), (3)]))) ∧ ((((a0) == (1))) = false → (((((a0) == (2))) = true → Q (([(0)]))) ∧ ((((a0) == (2))) = false → (((((a0) == (3))) = true → Q (([(0), (1)]))) ∧ ((((a0) == (3))) = false → jn (fun (p2 : Bool) => (((p2) = true → Q ((([] : List Int)))) ∧ ((p2) = false → (((((a0) == (5))) = true → Q (([(0), (12)]))) ∧ ((((a0) == (5))) = false → (((((a0) == (6))) = true → Q (([(0), (4), (5)]))) ∧ ((((a0) == (6))) = false → (((((a0) == (7))) = true → Q (([(0), (1), (5)]))) ∧ ((((a0) == (7))) = false → (((((a0) == (8))) = true → Q (([(0), (1), (5), (6), (7)]))) ∧ ((((a0) == (8))) = false → (((((a0) == (9))) = true → Q (([(2)]))) ∧ ((((a0) == (9))) = false → (((((a0) == (10))) = true → Q (([(8), (9), (12)]))) ∧ ((((a0) == (10))) = false → (((((a0) == (11))) = true → Q (([(8)]))) ∧ ((((a0) == (11))) = false → jn (fun (p3 : Bool) => (((p3) = true → Q (([(8), (9)]))) ∧ ((p3) = false → (((((a0) == (13))) = true → Q (([(10), (11)]))) ∧ ((((a0) == (13))) = false → (((((a0) == (14))) = true → Q (([(10)]))) ∧ ((((a0) == (14))) = false → (((((a0) == (16))) = true → Q (([(0), (13)]))) ∧ ((((a0) == (16))) = false → Q (([] : (List Int)))))))))))) (fun (J3 : Bool → Prop) => (((((a0) == (12))) = true → J3 ((((a0) == (12))))) ∧ ((((a0) == (12))) = false → J3 ((((a0) == (15)))))))))))))))))))))))) (fun (J2 : Bool → Prop) => (((((a0) == (4))) = true → J2 ((((a0) == (4))))) ∧ ((((a0) == (4))) = false → J2 ((((a0) == (17)))))))))))))
def R_operation_uses (a0 : Int) (r : (List Int)) : Prop := W_operation_uses a0 fun x => r = x
theorem e_operation_uses {a0 : Int} {Post : ((List Int)) → Prop} (h : W_operation_uses a0 Post) : ∃ r, R_operation_uses a0 r ∧ Post r := (show GM (W_operation_uses a0) (W_operation_uses a0) from GM.cond (GM.ret _) (GM.cond (GM.ret _) (GM.cond (GM.ret _) (GM.join (fun p2 => GM.cond (GM.ret _) (GM.cond (GM.ret _) (GM.cond (GM.ret _) (GM.cond (GM.ret _) (GM.cond (GM.ret _) (GM.cond (GM.ret _) (GM.cond (GM.ret _) (GM.cond (GM.ret _) (GM.join (fun p3 => GM.cond (GM.ret _) (GM.cond (GM.ret _) (GM.cond (GM.ret _) (GM.cond (GM.ret _) (GM.ret _))))) (fun _ _ J3 => GM.cond (J3 _) (J3 _))))))))))) (fun _ _ J2 => GM.cond (J2 _) (J2 _)))))) Post h
theorem c_operation_uses (a0 : Int) (r : (List Int)) (h : R_operation_uses a0 r) : Contract Try.prog 21 [.c (.v (.int .i64 (a0)))] [.c (.own 1 (List.map (eI .i64) (r)))] [] := by
  refine contract0 tb Try.func21 rfl (by kernel_rfl) rfl rfl (Nat.le_of_ble_eq_true rfl) rfl ?_
  intro E
  unfold R_operation_uses W_operation_uses at h
  refine aw_Q (fun Q hQ => ?_)
  refine tk fun L hL => ?_
  refine asn rfl rfl ?_
  refine rt (hL _ ?_)
  refine sk fun L1 hL1 => ?_
  refine tk fun L hL => ?_
  refine mv rfl ?_
  refine rt (hL _ ?_)
  refine aw_block ?_
  refine tk fun L hL => ?_
  refine u0 (opL_cmp (c := ((a0) == (1))) rfl rfl rfl rfl rfl) ?_
  refine asn rfl rfl ?_
  refine rt (hL _ ?_)
  refine cnd rfl h (fun h => ?_) fun h => ?_
  · refine tk fun L hL => ?_
    refine ul (opL_build_sl (T := tb) (rows := List.map (eI .i64) [(0), (3)]) rfl rfl rfl rfl rfl rfl rfl rfl rfl rfl rfl rfl rfl) ?_
    refine asn rfl rfl ?_
    refine rt (hL _ ?_)
    obtain rfl := h
    exact aw_ret (hQ _ _ ⟨.inr rfl, _, _, _, (.cons (.s rfl) .nil), (.cons (.c (.own rfl rfl)) .nil), rfl, rfl⟩)
  · refine tk fun L hL => ?_
    refine u0 (opL_cmp (c := ((a0) == (2))) rfl rfl rfl rfl rfl) ?_
    refine asn rfl rfl ?_
    refine rt (hL _ ?_)
    refine cnd rfl h (fun h => ?_) fun h => ?_
    · refine tk fun L hL => ?_
      refine ul (opL_build_sl (T := tb) (rows := List.map (eI .i64) [(0)]) rfl rfl rfl rfl rfl rfl rfl rfl rfl rfl rfl rfl rfl) ?_
      refine asn rfl rfl ?_
      refine rt (hL _ ?_)
      obtain rfl := h
      exact aw_ret (hQ _ _ ⟨.inr rfl, _, _, _, (.cons (.s rfl) .nil), (.cons (.c (.own rfl rfl)) .nil), rfl, rfl⟩)
    · refine tk fun L hL => ?_
      refine u0 (opL_cmp (c := ((a0) == (3))) rfl rfl rfl rfl rfl) ?_
      refine asn rfl rfl ?_
      refine rt (hL _ ?_)
      refine cnd rfl h (fun h => ?_) fun h => ?_
      · refine tk fun L hL => ?_
        refine ul (opL_build_sl (T := tb) (rows := List.map (eI .i64) [(0), (1)]) rfl rfl rfl rfl rfl rfl rfl rfl rfl rfl rfl rfl rfl) ?_
        refine asn rfl rfl ?_
        refine rt (hL _ ?_)
        obtain rfl := h
        exact aw_ret (hQ _ _ ⟨.inr rfl, _, _, _, (.cons (.s rfl) .nil), (.cons (.c (.own rfl rfl)) .nil), rfl, rfl⟩)
      · refine aw_jn (fun (p2 : Bool) => (⟨[(3, .c (.p (.v (.int .i64 (a0))))), (13, .c (.p (.v (.bool (p2)))))], []⟩ : St)) h (fun p2 h => ?_) (fun J2 L2 hL2 h => ?_)
        · refine cnd rfl h (fun h => ?_) fun h => ?_
          · refine tk fun L hL => ?_
            refine ul (o_build0 (T := tb) (f := (eI .i64)) rfl rfl rfl rfl rfl) ?_
            refine asn rfl rfl ?_
            refine rt (hL _ ?_)
            obtain rfl := h
            exact aw_ret (hQ _ _ ⟨.inr rfl, _, _, _, (.cons (.s rfl) .nil), (.cons (.c (.own rfl rfl)) .nil), rfl, rfl⟩)
          · refine tk fun L hL => ?_
            refine u0 (opL_cmp (c := ((a0) == (5))) rfl rfl rfl rfl rfl) ?_
            refine asn rfl rfl ?_
            refine rt (hL _ ?_)
            refine cnd rfl h (fun h => ?_) fun h => ?_
            · refine tk fun L hL => ?_
              refine ul (opL_build_sl (T := tb) (rows := List.map (eI .i64) [(0), (12)]) rfl rfl rfl rfl rfl rfl rfl rfl rfl rfl rfl rfl rfl) ?_
              refine asn rfl rfl ?_
              refine rt (hL _ ?_)
              obtain rfl := h
              exact aw_ret (hQ _ _ ⟨.inr rfl, _, _, _, (.cons (.s rfl) .nil), (.cons (.c (.own rfl rfl)) .nil), rfl, rfl⟩)
            · refine tk fun L hL => ?_
              refine u0 (opL_cmp (c := ((a0) == (6))) rfl rfl rfl rfl rfl) ?_
              refine asn rfl rfl ?_
              refine rt (hL _ ?_)
              refine cnd rfl h (fun h => ?_) fun h => ?_
              · refine tk fun L hL => ?_
                refine ul (opL_build_sl (T := tb) (rows := List.map (eI .i64) [(0), (4), (5)]) rfl rfl rfl rfl rfl rfl rfl rfl rfl rfl rfl rfl rfl) ?_
                refine asn rfl rfl ?_
                refine rt (hL _ ?_)
                obtain rfl := h
                exact aw_ret (hQ _ _ ⟨.inr rfl, _, _, _, (.cons (.s rfl) .nil), (.cons (.c (.own rfl rfl)) .nil), rfl, rfl⟩)
              · refine tk fun L hL => ?_
                refine u0 (opL_cmp (c := ((a0) == (7))) rfl rfl rfl rfl rfl) ?_
                refine asn rfl rfl ?_
                refine rt (hL _ ?_)
                refine cnd rfl h (fun h => ?_) fun h => ?_
                · refine tk fun L hL => ?_
                  refine ul (opL_build_sl (T := tb) (rows := List.map (eI .i64) [(0), (1), (5)]) rfl rfl rfl rfl rfl rfl rfl rfl rfl rfl rfl rfl rfl) ?_
                  refine asn rfl rfl ?_
                  refine rt (hL _ ?_)
                  obtain rfl := h
                  exact aw_ret (hQ _ _ ⟨.inr rfl, _, _, _, (.cons (.s rfl) .nil), (.cons (.c (.own rfl rfl)) .nil), rfl, rfl⟩)
                · refine tk fun L hL => ?_
                  refine u0 (opL_cmp (c := ((a0) == (8))) rfl rfl rfl rfl rfl) ?_
                  refine asn rfl rfl ?_
                  refine rt (hL _ ?_)
                  refine cnd rfl h (fun h => ?_) fun h => ?_
                  · refine tk fun L hL => ?_
                    refine ul (opL_build_sl (T := tb) (rows := List.map (eI .i64) [(0), (1), (5), (6), (7)]) rfl rfl rfl rfl rfl rfl rfl rfl rfl rfl rfl rfl rfl) ?_
                    refine asn rfl rfl ?_
                    refine rt (hL _ ?_)
                    obtain rfl := h
                    exact aw_ret (hQ _ _ ⟨.inr rfl, _, _, _, (.cons (.s rfl) .nil), (.cons (.c (.own rfl rfl)) .nil), rfl, rfl⟩)
                  · refine tk fun L hL => ?_
                    refine u0 (opL_cmp (c := ((a0) == (9))) rfl rfl rfl rfl rfl) ?_
                    refine asn rfl rfl ?_
                    refine rt (hL _ ?_)
                    refine cnd rfl h (fun h => ?_) fun h => ?_
                    · refine tk fun L hL => ?_
                      refine ul (opL_build_sl (T := tb) (rows := List.map (eI .i64) [(2)]) rfl rfl rfl rfl rfl rfl rfl rfl rfl rfl rfl rfl rfl) ?_
                      refine asn rfl rfl ?_
                      refine rt (hL _ ?_)
                      obtain rfl := h
                      exact aw_ret (hQ _ _ ⟨.inr rfl, _, _, _, (.cons (.s rfl) .nil), (.cons (.c (.own rfl rfl)) .nil), rfl, rfl⟩)
                    · refine tk fun L hL => ?_
                      refine u0 (opL_cmp (c := ((a0) == (10))) rfl rfl rfl rfl rfl) ?_
                      refine asn rfl rfl ?_
                      refine rt (hL _ ?_)
                      refine cnd rfl h (fun h => ?_) fun h => ?_
                      · refine tk fun L hL => ?_
                        refine ul (opL_build_sl (T := tb) (rows := List.map (eI .i64) [(8), (9), (12)]) rfl rfl rfl rfl rfl rfl rfl rfl rfl rfl rfl rfl rfl) ?_
                        refine asn rfl rfl ?_
                        refine rt (hL _ ?_)
                        obtain rfl := h
                        exact aw_ret (hQ _ _ ⟨.inr rfl, _, _, _, (.cons (.s rfl) .nil), (.cons (.c (.own rfl rfl)) .nil), rfl, rfl⟩)
                      · refine tk fun L hL => ?_
                        refine u0 (opL_cmp (c := ((a0) == (11))) rfl rfl rfl rfl rfl) ?_
                        refine asn rfl rfl ?_
                        refine rt (hL _ ?_)
                        refine cnd rfl h (fun h => ?_) fun h => ?_
                        · refine tk fun L hL => ?_
                          refine ul (opL_build_sl (T := tb) (rows := List.map (eI .i64) [(8)]) rfl rfl rfl rfl rfl rfl rfl rfl rfl rfl rfl rfl rfl) ?_
                          refine asn rfl rfl ?_
                          refine rt (hL _ ?_)
                          obtain rfl := h
                          exact aw_ret (hQ _ _ ⟨.inr rfl, _, _, _, (.cons (.s rfl) .nil), (.cons (.c (.own rfl rfl)) .nil), rfl, rfl⟩)
                        · refine aw_jn (fun (p3 : Bool) => (⟨[(3, .c (.p (.v (.int .i64 (a0))))), (38, .c (.p (.v (.bool (p3)))))], []⟩ : St)) h (fun p3 h => ?_) (fun J3 L3 hL3 h => ?_)
                          · refine cnd rfl h (fun h => ?_) fun h => ?_
                            · refine tk fun L hL => ?_
                              refine ul (opL_build_sl (T := tb) (rows := List.map (eI .i64) [(8), (9)]) rfl rfl rfl rfl rfl rfl rfl rfl rfl rfl rfl rfl rfl) ?_
                              refine asn rfl rfl ?_
                              refine rt (hL _ ?_)
                              obtain rfl := h
                              exact aw_ret (hQ _ _ ⟨.inr rfl, _, _, _, (.cons (.s rfl) .nil), (.cons (.c (.own rfl rfl)) .nil), rfl, rfl⟩)
                            · refine tk fun L hL => ?_
                              refine u0 (opL_cmp (c := ((a0) == (13))) rfl rfl rfl rfl rfl) ?_
                              refine asn rfl rfl ?_
                              refine rt (hL _ ?_)
                              refine cnd rfl h (fun h => ?_) fun h => ?_
                              · refine tk fun L hL => ?_
                                refine ul (opL_build_sl (T := tb) (rows := List.map (eI .i64) [(10), (11)]) rfl rfl rfl rfl rfl rfl rfl rfl rfl rfl rfl rfl rfl) ?_
                                refine asn rfl rfl ?_
                                refine rt (hL _ ?_)
                                obtain rfl := h
                                exact aw_ret (hQ _ _ ⟨.inr rfl, _, _, _, (.cons (.s rfl) .nil), (.cons (.c (.own rfl rfl)) .nil), rfl, rfl⟩)
                              · refine tk fun L hL => ?_
                                refine u0 (opL_cmp (c := ((a0) == (14))) rfl rfl rfl rfl rfl) ?_
                                refine asn rfl rfl ?_
                                refine rt (hL _ ?_)
                                refine cnd rfl h (fun h => ?_) fun h => ?_
                                · refine tk fun L hL => ?_
                                  refine ul (opL_build_sl (T := tb) (rows := List.map (eI .i64) [(10)]) rfl rfl rfl rfl rfl rfl rfl rfl rfl rfl rfl rfl rfl) ?_
                                  refine asn rfl rfl ?_
                                  refine rt (hL _ ?_)
                                  obtain rfl := h
                                  exact aw_ret (hQ _ _ ⟨.inr rfl, _, _, _, (.cons (.s rfl) .nil), (.cons (.c (.own rfl rfl)) .nil), rfl, rfl⟩)
                                · refine tk fun L hL => ?_
                                  refine u0 (opL_cmp (c := ((a0) == (16))) rfl rfl rfl rfl rfl) ?_
                                  refine asn rfl rfl ?_
                                  refine rt (hL _ ?_)
                                  refine cnd rfl h (fun h => ?_) fun h => ?_
                                  · refine tk fun L hL => ?_
                                    refine ul (opL_build_sl (T := tb) (rows := List.map (eI .i64) [(0), (13)]) rfl rfl rfl rfl rfl rfl rfl rfl rfl rfl rfl rfl rfl) ?_
                                    refine asn rfl rfl ?_
                                    refine rt (hL _ ?_)
                                    obtain rfl := h
                                    exact aw_ret (hQ _ _ ⟨.inr rfl, _, _, _, (.cons (.s rfl) .nil), (.cons (.c (.own rfl rfl)) .nil), rfl, rfl⟩)
                                  · refine aw_skip (hL1 _ ?_)
                                    refine tk fun L hL => ?_
                                    refine asn rfl rfl ?_
                                    refine rt (hL _ ?_)
                                    obtain rfl := h
                                    exact aw_ret (hQ _ _ ⟨.inr rfl, _, _, _, (.cons (.p rfl) .nil), (.cons (.c (.nilo _ (Nat.le_of_ble_eq_true rfl))) .nil), rfl, rfl⟩)
                          · refine tk fun L hL => ?_
                            refine u0 (opL_cmp (c := ((a0) == (12))) rfl rfl rfl rfl rfl) ?_
                            refine asn rfl rfl ?_
                            refine rt (hL _ ?_)
                            refine cnd rfl h (fun h => ?_) fun h => ?_
                            · refine aw_skip (hL3 _ _ h (Sub.nm [3, 38] [] rfl (by kernel_rfl)))
                            · refine tl fun L hL => ?_
                              refine u0 (opL_cmp (c := ((a0) == (15))) rfl rfl rfl rfl rfl) ?_
                              refine asn rfl rfl ?_
                              refine rt (hL _ (hL3 _ _ h (Sub.nm [3, 38] [] rfl (by kernel_rfl))))
        · refine tk fun L hL => ?_
          refine u0 (opL_cmp (c := ((a0) == (4))) rfl rfl rfl rfl rfl) ?_
          refine asn rfl rfl ?_
          refine rt (hL _ ?_)
          refine cnd rfl h (fun h => ?_) fun h => ?_
          · refine aw_skip (hL2 _ _ h (Sub.nm [3, 13] [] rfl (by kernel_rfl)))
          · refine tl fun L hL => ?_
            refine u0 (opL_cmp (c := ((a0) == (17))) rfl rfl rfl rfl rfl) ?_
            refine asn rfl rfl ?_
            refine rt (hL _ (hL2 _ _ h (Sub.nm [3, 13] [] rfl (by kernel_rfl))))
def W_names_lower (a0 : Int) (Q : Bool → Prop) : Prop :=
 Q (((bif decide ((a0) ≥ (97)) then decide ((a0) ≤ (122)) else false)))
def R_names_lower (a0 : Int) (r : Bool) : Prop := W_names_lower a0 fun x => r = x
theorem e_names_lower {a0 : Int} {Post : Bool → Prop} (h : W_names_lower a0 Post) : ∃ r, R_names_lower a0 r ∧ Post r := (show GM (W_names_lower a0) (W_names_lower a0) from GM.ret _) Post h
theorem c_names_lower (a0 : Int) (r : Bool) (h : R_names_lower a0 r) : Contract Try.prog 58 [.c (.v (.int .u8 (a0)))] [.c (.p (.v (.bool (r))))] [] := by
  refine contract0 tb Try.func58 rfl (by kernel_rfl) rfl rfl (Nat.le_of_ble_eq_true rfl) rfl ?_
  intro E
  unfold R_names_lower W_names_lower at h
  refine aw_Q (fun Q hQ => ?_)
  refine tk fun L hL => ?_
  refine asn rfl rfl ?_
  refine rt (hL _ ?_)
  refine tk fun L hL => ?_
  refine mv rfl ?_
  refine u0 (opL_cmp (c := decide ((a0) ≥ (97))) rfl rfl rfl rfl rfl) ?_
  refine mv rfl ?_
  refine run_g rfl rfl beq_t (fun hg => opL_move_c rfl rfl) ?_
  refine run_g rfl rfl beq_t (fun hg => opL_cmp (c := decide ((a0) ≤ (122))) (gt_t hg) rfl rfl rfl rfl) ?_
  refine u0 (opL_pick_gl (v := .bool (decide ((a0) ≤ (122)))) (w := .bool (false)) rfl rfl beq_t rfl bif_v rfl rfl rfl) ?_
  refine asn rfl rfl ?_
  refine rt (hL _ ?_)
  refine aw_sub (st' := ⟨[(2, .c (.p (.v (.bool ((bif decide ((a0) ≥ (97)) then decide ((a0) ≤ (122)) else false))))))], []⟩) (Sub.nm [2] [] rfl rfl) ?_
  obtain rfl := h
  exact aw_ret (hQ _ _ ⟨.inr rfl, _, _, _, (.cons (.p rfl) .nil), (.cons (.c (.p _)) .nil), rfl, rfl⟩)
def W_names_digit (a0 : Int) (Q : Bool → Prop) : Prop :=
 Q (((bif decide ((a0) ≥ (48)) then decide ((a0) ≤ (57)) else false)))
def R_names_digit (a0 : Int) (r : Bool) : Prop := W_names_digit a0 fun x => r = x
theorem e_names_digit {a0 : Int} {Post : Bool → Prop} (h : W_names_digit a0 Post) : ∃ r, R_names_digit a0 r ∧ Post r := (show GM (W_names_digit a0) (W_names_digit a0) from GM.ret _) Post h
theorem c_names_digit (a0 : Int) (r : Bool) (h : R_names_digit a0 r) : Contract Try.prog 59 [.c (.v (.int .u8 (a0)))] [.c (.p (.v (.bool (r))))] [] := by
  refine contract0 tb Try.func59 rfl (by kernel_rfl) rfl rfl (Nat.le_of_ble_eq_true rfl) rfl ?_
  intro E
  unfold R_names_digit W_names_digit at h
  refine aw_Q (fun Q hQ => ?_)
  refine tk fun L hL => ?_
  refine asn rfl rfl ?_
  refine rt (hL _ ?_)
  refine tk fun L hL => ?_
  refine mv rfl ?_
  refine u0 (opL_cmp (c := decide ((a0) ≥ (48))) rfl rfl rfl rfl rfl) ?_
  refine mv rfl ?_
  refine run_g rfl rfl beq_t (fun hg => opL_move_c rfl rfl) ?_
  refine run_g rfl rfl beq_t (fun hg => opL_cmp (c := decide ((a0) ≤ (57))) (gt_t hg) rfl rfl rfl rfl) ?_
  refine u0 (opL_pick_gl (v := .bool (decide ((a0) ≤ (57)))) (w := .bool (false)) rfl rfl beq_t rfl bif_v rfl rfl rfl) ?_
  refine asn rfl rfl ?_
  refine rt (hL _ ?_)
  refine aw_sub (st' := ⟨[(2, .c (.p (.v (.bool ((bif decide ((a0) ≥ (48)) then decide ((a0) ≤ (57)) else false))))))], []⟩) (Sub.nm [2] [] rfl rfl) ?_
  obtain rfl := h
  exact aw_ret (hQ _ _ ⟨.inr rfl, _, _, _, (.cons (.p rfl) .nil), (.cons (.c (.p _)) .nil), rfl, rfl⟩)
def W_names_IsName (a0 : ByteArray) (Q : Bool → Prop) : Prop :=
 ∃ (v2 : Int), ((!((bif decide ((((a0).size : Int)) < (1)) then true else decide ((((a0).size : Int)) > (16))))) = true → bx (a0) (0) v2) ∧ ∃ (v3 : Bool), ((!((bif decide ((((a0).size : Int)) < (1)) then true else decide ((((a0).size : Int)) > (16))))) = true → R_names_lower (v2) v3) ∧ ((((bif (bif decide ((((a0).size : Int)) < (1)) then true else decide ((((a0).size : Int)) > (16))) then true else !(v3))) = true → Q ((false))) ∧ (((bif (bif decide ((((a0).size : Int)) < (1)) then true else decide ((((a0).size : Int)) > (16))) then true else !(v3))) = false → jn (fun (p4 : Unit) => Q ((true))) (fun (J4 : Unit → Prop) => lp (fun (X5 : Int → Prop) (s5 : Int) => (((decide ((s5) < (((a0).size : Int)))) = true → ∃ (v8 : Int), bx (a0) (s5) v8 ∧ ∃ (v9 : Bool), R_names_lower (v8) v9 ∧ ∃ (v10 : Bool), ((!(v9)) = true → R_names_digit (v8) v10) ∧ ((((bif (bif (bif !(v9) then !(v10) else false) then ((v8) != (45)) else false) then ((v8) != (46)) else false)) = true → Q ((false))) ∧ (((bif (bif (bif !(v9) then !(v10) else false) then ((v8) != (45)) else false) then ((v8) != (46)) else false)) = false → X5 ((IntKind.i64.wrap ((s5) + (1))))))) ∧ ((decide ((s5) < (((a0).size : Int)))) = false → J4 (())))) ((0)))))
def R_names_IsName (a0 : ByteArray) (r : Bool) : Prop := W_names_IsName a0 fun x => r = x
theorem e_names_IsName {a0 : ByteArray} {Post : Bool → Prop} (h : W_names_IsName a0 Post) : ∃ r, R_names_IsName a0 r ∧ Post r := (show GM (W_names_IsName a0) (W_names_IsName a0) from GM.ex fun v2 => GM.ex fun v3 => GM.cond (GM.ret _) (GM.join (fun p4 => GM.ret _) (fun _ _ J4 => GM.loop (fun X Y Q s5 X5 h => ⟨fun hc => (Exists.elim ((h).1 hc) fun v8 hv8 => ⟨v8, hv8.1, (Exists.elim (hv8.2) fun v9 hv9 => ⟨v9, hv9.1, (Exists.elim (hv9.2) fun v10 hv10 => ⟨v10, hv10.1, ⟨fun hc => (hv10.2).1 hc, fun hc => X5 _ ((hv10.2).2 hc)⟩⟩)⟩)⟩), fun hc => (h).2 hc⟩) (fun _ _ X5 s5 => GM.cond (GM.ex fun v8 => GM.ex fun v9 => GM.ex fun v10 => GM.cond (GM.ret _) (X5 _)) (J4 _))))) Post h
theorem c_names_IsName (a0 : ByteArray) (r : Bool) (h : R_names_IsName a0 r) : Contract Try.prog 54 [.c (.v (.string (a0)))] [.c (.p (.v (.bool (r))))] [] := by
  refine contract0 tb Try.func54 rfl (by kernel_rfl) rfl rfl (Nat.le_of_ble_eq_true rfl) rfl ?_
  intro E
  unfold R_names_IsName W_names_IsName at h
  refine aw_Q (fun Q hQ => ?_)
  refine tk fun L hL => ?_
  refine asn rfl rfl ?_
  refine rt (hL _ ?_)
  refine sk fun L1 hL1 => ?_
  refine tk fun L hL => ?_
  refine mv rfl ?_
  refine u0 (opL_len_str (T := tb) rfl rfl rfl rfl) ?_
  refine u0 (opL_cmp (c := decide ((((a0).size : Int)) < (1))) rfl rfl rfl rfl rfl) ?_
  refine mv rfl ?_
  refine run_g rfl rfl beq_f (fun hg => opL_move_c rfl rfl) ?_
  refine run_g rfl rfl beq_f (fun hg => opL_len_str (T := tb) (gt_t hg) rfl rfl rfl) ?_
  refine run_g rfl rfl beq_f (fun hg => opL_cmp (c := decide ((((a0).size : Int)) > (16))) (gt_t hg) rfl rfl rfl rfl) ?_
  refine u0 (opL_pick_gr (v := .bool (true)) (w := .bool (decide ((((a0).size : Int)) > (16)))) rfl rfl beq_f rfl bif_v rfl rfl rfl) ?_
  refine mv rfl ?_
  refine run_g rfl rfl beq_f (fun hg => opL_move_c rfl rfl) ?_
  obtain ⟨v2, hv2, h⟩ := h
  refine run_g rfl rfl beq_f (fun hg => o_index_str (T := tb) (hv2 hg) (gt_t hg) rfl rfl rfl rfl rfl) ?_
  obtain ⟨v3, hv3, h⟩ := h
  refine run_g rfl rfl beq_f (fun hg => opL_call0 (c_names_lower _ _ (hv3 hg)) rfl rfl (.cons (toA_g hg (.c (.p _))) .nil) rfl rfl rfl) ?_
  refine run_g rfl rfl beq_f (fun hg => opL_not (gt_t hg) rfl rfl) ?_
  refine u0 (opL_pick_gr (v := .bool (true)) (w := .bool (!(v3))) rfl rfl beq_f rfl bif_v rfl rfl rfl) ?_
  refine rt (hL _ ?_)
  refine aw_sub (st' := ⟨[(0, .c (.p (.v (.string (a0))))), (18, .c (.p (.v (.bool ((bif (bif decide ((((a0).size : Int)) < (1)) then true else decide ((((a0).size : Int)) > (16))) then true else !(v3)))))))], []⟩) (Sub.nm [0, 18] [] rfl rfl) ?_
  refine cnd rfl h (fun h => ?_) fun h => ?_
  · refine tk fun L hL => ?_
    refine asn rfl rfl ?_
    refine rt (hL _ ?_)
    obtain rfl := h
    exact aw_ret (hQ _ _ ⟨.inr rfl, _, _, _, (.cons (.p rfl) .nil), (.cons (.c (.p _)) .nil), rfl, rfl⟩)
  · refine aw_skip (hL1 _ ?_)
    refine aw_jn (fun (p4 : Unit) => (⟨[], []⟩ : St)) h (fun p4 h => ?_) (fun J4 L4 hL4 h => ?_)
    · refine tk fun L hL => ?_
      refine asn rfl rfl ?_
      refine rt (hL _ ?_)
      obtain rfl := h
      exact aw_ret (hQ _ _ ⟨.inr rfl, _, _, _, (.cons (.p rfl) .nil), (.cons (.c (.p _)) .nil), rfl, rfl⟩)
    · refine tk fun L hL => ?_
      refine mv rfl ?_
      refine u0 (opL_len_str (T := tb) rfl rfl rfl rfl) ?_
      refine u0 (opL_move_c rfl rfl) ?_
      refine rt (hL _ ?_)
      refine aw_block ?_
      refine aw_lp (fun (s5 : Int) => (⟨[(0, .c (.p (.v (.string (a0))))), (20, .c (.p (.v (.int .i64 (((a0).size : Int)))))), (21, .c (.p (.v (.int .i64 (s5)))))], []⟩ : St)) h (Sub.nm [0, 20, 21] [] rfl (by kernel_rfl)) (fun X5 L5 hL5 s5 h => ?_)
      refine tk fun L hL => ?_
      refine u0 (opL_cmp (c := decide ((s5) < (((a0).size : Int)))) rfl rfl rfl rfl rfl) ?_
      refine rt (hL _ ?_)
      refine sk fun L6 hL6 => ?_
      refine cnd rfl h (fun h => ?_) fun h => ?_
      · refine aw_skip (hL6 _ ?_)
        refine sk fun L7 hL7 => ?_
        refine aw_block ?_
        refine tk fun L hL => ?_
        refine mv rfl ?_
        refine asn rfl rfl ?_
        refine rt (hL _ ?_)
        refine tk fun L hL => ?_
        refine mv rfl ?_
        refine mv rfl ?_
        obtain ⟨v8, hv8, h⟩ := h
        refine u0 (o_index_str (T := tb) hv8 rfl rfl rfl rfl rfl rfl) ?_
        refine asn rfl rfl ?_
        refine rt (hL _ ?_)
        refine tk fun L hL => ?_
        refine mv rfl ?_
        obtain ⟨v9, hv9, h⟩ := h
        refine u0 (opL_call0 (c_names_lower _ _ hv9) rfl rfl (.cons (.c (.p _)) .nil) rfl rfl rfl) ?_
        refine u0 (opL_not rfl rfl rfl) ?_
        refine mv rfl ?_
        refine run_g rfl rfl beq_t (fun hg => opL_move_c rfl rfl) ?_
        obtain ⟨v10, hv10, h⟩ := h
        refine run_g rfl rfl beq_t (fun hg => opL_call0 (c_names_digit _ _ (hv10 hg)) rfl rfl (.cons (toA_g hg (.c (.p _))) .nil) rfl rfl rfl) ?_
        refine run_g rfl rfl beq_t (fun hg => opL_not (gt_t hg) rfl rfl) ?_
        refine u0 (opL_pick_gl (v := .bool (!(v10))) (w := .bool (false)) rfl rfl beq_t rfl bif_v rfl rfl rfl) ?_
        refine mv rfl ?_
        refine run_g rfl rfl beq_t (fun hg => opL_move_c rfl rfl) ?_
        refine run_g rfl rfl beq_t (fun hg => opL_cmp (c := ((v8) != (45))) (gt_t hg) rfl rfl rfl rfl) ?_
        refine u0 (opL_pick_gl (v := .bool (((v8) != (45)))) (w := .bool (false)) rfl rfl beq_t rfl bif_v rfl rfl rfl) ?_
        refine mv rfl ?_
        refine run_g rfl rfl beq_t (fun hg => opL_move_c rfl rfl) ?_
        refine run_g rfl rfl beq_t (fun hg => opL_cmp (c := ((v8) != (46))) (gt_t hg) rfl rfl rfl rfl) ?_
        refine u0 (opL_pick_gl (v := .bool (((v8) != (46)))) (w := .bool (false)) rfl rfl beq_t rfl bif_v rfl rfl rfl) ?_
        refine rt (hL _ ?_)
        refine aw_sub (st' := ⟨[(0, .c (.p (.v (.string (a0))))), (20, .c (.p (.v (.int .i64 (((a0).size : Int)))))), (21, .c (.p (.v (.int .i64 (s5))))), (42, .c (.p (.v (.bool ((bif (bif (bif !(v9) then !(v10) else false) then ((v8) != (45)) else false) then ((v8) != (46)) else false))))))], []⟩) (Sub.nm [0, 20, 21, 42] [] rfl rfl) ?_
        refine cnd rfl h (fun h => ?_) fun h => ?_
        · refine tk fun L hL => ?_
          refine asn rfl rfl ?_
          refine rt (hL _ ?_)
          obtain rfl := h
          exact aw_ret (hQ _ _ ⟨.inr rfl, _, _, _, (.cons (.p rfl) .nil), (.cons (.c (.p _)) .nil), rfl, rfl⟩)
        · refine aw_skip (hL7 _ ?_)
          refine tl fun L hL => ?_
          refine u0 (opL_add rfl rfl rfl rfl rfl) ?_
          refine mv rfl ?_
          refine rt (hL _ (hL5 _ _ h (Sub.nm [0, 20, 21] [] rfl (by kernel_rfl))))
      · refine aw_exit (hL4 _ _ h (Sub.nm [] [] rfl (by kernel_rfl)))
def W_operation_name (a0 : ByteArray) (Q : Int → Prop) : Prop :=
 ∃ (v2 : Bool), R_names_IsName (a0) v2 ∧ (((!(v2)) = true → Q ((6))) ∧ ((!(v2)) = false → Q ((0))))
def R_operation_name (a0 : ByteArray) (r : Int) : Prop := W_operation_name a0 fun x => r = x
theorem e_operation_name {a0 : ByteArray} {Post : Int → Prop} (h : W_operation_name a0 Post) : ∃ r, R_operation_name a0 r ∧ Post r := (show GM (W_operation_name a0) (W_operation_name a0) from GM.ex fun v2 => GM.cond (GM.ret _) (GM.ret _)) Post h
theorem c_operation_name (a0 : ByteArray) (r : Int) (h : R_operation_name a0 r) : Contract Try.prog 39 [.c (.v (.string (a0)))] [.c (.p (.v (.int .i64 (r))))] [] := by
  refine contract0 tb Try.func39 rfl (by kernel_rfl) rfl rfl (Nat.le_of_ble_eq_true rfl) rfl ?_
  intro E
  unfold R_operation_name W_operation_name at h
  refine aw_Q (fun Q hQ => ?_)
  refine tk fun L hL => ?_
  refine asn rfl rfl ?_
  refine rt (hL _ ?_)
  refine sk fun L1 hL1 => ?_
  refine tk fun L hL => ?_
  refine mv rfl ?_
  obtain ⟨v2, hv2, h⟩ := h
  refine u0 (opL_call0 (c_names_IsName _ _ hv2) rfl rfl (.cons (.c (.p _)) .nil) rfl rfl rfl) ?_
  refine u0 (opL_not rfl rfl rfl) ?_
  refine rt (hL _ ?_)
  refine cnd rfl h (fun h => ?_) fun h => ?_
  · refine tk fun L hL => ?_
    refine asn rfl rfl ?_
    refine rt (hL _ ?_)
    obtain rfl := h
    exact aw_ret (hQ _ _ ⟨.inr rfl, _, _, _, (.cons (.p rfl) .nil), (.cons (.c (.p _)) .nil), rfl, rfl⟩)
  · refine aw_skip (hL1 _ ?_)
    refine tk fun L hL => ?_
    refine asn rfl rfl ?_
    refine rt (hL _ ?_)
    obtain rfl := h
    exact aw_ret (hQ _ _ ⟨.inr rfl, _, _, _, (.cons (.p rfl) .nil), (.cons (.c (.p _)) .nil), rfl, rfl⟩)
def W_operation_between (a0 : Int) (a1 : Int) (a2 : Int) (Q : Int → Prop) : Prop :=
 ((((bif decide ((a0) < (a1)) then true else decide ((a0) > (a2)))) = true → Q ((5))) ∧ (((bif decide ((a0) < (a1)) then true else decide ((a0) > (a2)))) = false → Q ((0))))
def R_operation_between (a0 : Int) (a1 : Int) (a2 : Int) (r : Int) : Prop := W_operation_between a0 a1 a2 fun x => r = x
theorem e_operation_between {a0 : Int} {a1 : Int} {a2 : Int} {Post : Int → Prop} (h : W_operation_between a0 a1 a2 Post) : ∃ r, R_operation_between a0 a1 a2 r ∧ Post r := (show GM (W_operation_between a0 a1 a2) (W_operation_between a0 a1 a2) from GM.cond (GM.ret _) (GM.ret _)) Post h
theorem c_operation_between (a0 : Int) (a1 : Int) (a2 : Int) (r : Int) (h : R_operation_between a0 a1 a2 r) : Contract Try.prog 44 [.c (.v (.int .i64 (a0))), .c (.v (.int .i64 (a1))), .c (.v (.int .i64 (a2)))] [.c (.p (.v (.int .i64 (r))))] [] := by
  refine contract0 tb Try.func44 rfl (by kernel_rfl) rfl rfl (Nat.le_of_ble_eq_true rfl) rfl ?_
  intro E
  unfold R_operation_between W_operation_between at h
  refine aw_Q (fun Q hQ => ?_)
  refine tk fun L hL => ?_
  refine asn rfl rfl ?_
  refine rt (hL _ ?_)
  refine sk fun L1 hL1 => ?_
  refine tk fun L hL => ?_
  refine mv rfl ?_
  refine mv rfl ?_
  refine u0 (opL_cmp (c := decide ((a0) < (a1))) rfl rfl rfl rfl rfl) ?_
  refine mv rfl ?_
  refine run_g rfl rfl beq_f (fun hg => opL_move_c rfl rfl) ?_
  refine run_g rfl rfl beq_f (fun hg => opL_move_c rfl rfl) ?_
  refine run_g rfl rfl beq_f (fun hg => opL_cmp (c := decide ((a0) > (a2))) (gt_t hg) (gt_t hg) rfl rfl rfl) ?_
  refine u0 (opL_pick_gr (v := .bool (true)) (w := .bool (decide ((a0) > (a2)))) rfl rfl beq_f rfl bif_v rfl rfl rfl) ?_
  refine rt (hL _ ?_)
  refine aw_sub (st' := ⟨[(14, .c (.p (.v (.bool ((bif decide ((a0) < (a1)) then true else decide ((a0) > (a2))))))))], []⟩) (Sub.nm [14] [] rfl rfl) ?_
  refine cnd rfl h (fun h => ?_) fun h => ?_
  · refine tk fun L hL => ?_
    refine asn rfl rfl ?_
    refine rt (hL _ ?_)
    obtain rfl := h
    exact aw_ret (hQ _ _ ⟨.inr rfl, _, _, _, (.cons (.p rfl) .nil), (.cons (.c (.p _)) .nil), rfl, rfl⟩)
  · refine aw_skip (hL1 _ ?_)
    refine tk fun L hL => ?_
    refine asn rfl rfl ?_
    refine rt (hL _ ?_)
    obtain rfl := h
    exact aw_ret (hQ _ _ ⟨.inr rfl, _, _, _, (.cons (.p rfl) .nil), (.cons (.c (.p _)) .nil), rfl, rfl⟩)
def W_operation_list (a0 : (List ByteArray)) (Q : Int → Prop) : Prop :=
 ∃ (v2 : Int), R_operation_between (((a0).length : Int)) (1) (16) v2 ∧ (((((v2) != (0))) = true → Q ((v2))) ∧ ((((v2) != (0))) = false → jn (fun (p3 : Unit) => Q ((0))) (fun (J3 : Unit → Prop) => lp (fun (X4 : Int → Prop) (s4 : Int) => (((decide ((s4) < (((a0).length : Int)))) = true → ∃ (v7 : ByteArray), ix (a0) (s4) v7 ∧ ∃ (v8 : Int), R_operation_name (v7) v8 ∧ (((((v8) != (0))) = true → Q ((v8))) ∧ ((((v8) != (0))) = false → X4 ((IntKind.i64.wrap ((s4) + (1))))))) ∧ ((decide ((s4) < (((a0).length : Int)))) = false → J3 (())))) ((0)))))
def R_operation_list (a0 : (List ByteArray)) (r : Int) : Prop := W_operation_list a0 fun x => r = x
theorem e_operation_list {a0 : (List ByteArray)} {Post : Int → Prop} (h : W_operation_list a0 Post) : ∃ r, R_operation_list a0 r ∧ Post r := (show GM (W_operation_list a0) (W_operation_list a0) from GM.ex fun v2 => GM.cond (GM.ret _) (GM.join (fun p3 => GM.ret _) (fun _ _ J3 => GM.loop (fun X Y Q s4 X4 h => ⟨fun hc => (Exists.elim ((h).1 hc) fun v7 hv7 => ⟨v7, hv7.1, (Exists.elim (hv7.2) fun v8 hv8 => ⟨v8, hv8.1, ⟨fun hc => (hv8.2).1 hc, fun hc => X4 _ ((hv8.2).2 hc)⟩⟩)⟩), fun hc => (h).2 hc⟩) (fun _ _ X4 s4 => GM.cond (GM.ex fun v7 => GM.ex fun v8 => GM.cond (GM.ret _) (X4 _)) (J3 _))))) Post h
theorem c_operation_list (a0 : (List ByteArray)) (r : Int) (h : R_operation_list a0 r) : Contract Try.prog 40 [.c (.l 1 (List.map eS (a0)))] [.c (.p (.v (.int .i64 (r))))] [] := by
  refine contract0 tb Try.func40 rfl (by kernel_rfl) rfl rfl (Nat.le_of_ble_eq_true rfl) rfl ?_
  intro E
  unfold R_operation_list W_operation_list at h
  refine aw_Q (fun Q hQ => ?_)
  refine tk fun L hL => ?_
  refine asn rfl rfl ?_
  refine rt (hL _ ?_)
  refine sk fun L1 hL1 => ?_
  refine tk fun L hL => ?_
  refine mv rfl ?_
  refine u0 (o_len_l (T := tb) rfl rfl rfl rfl) ?_
  obtain ⟨v2, hv2, h⟩ := h
  refine u0 (opL_call0 (c_operation_between _ _ _ _ hv2) rfl rfl (.cons (.c (.p _)) (.cons (.c (.p _)) (.cons (.c (.p _)) .nil))) rfl rfl rfl) ?_
  refine asn rfl rfl ?_
  refine rt (hL _ ?_)
  refine tk fun L hL => ?_
  refine mv rfl ?_
  refine u0 (opL_cmp (c := ((v2) != (0))) rfl rfl rfl rfl rfl) ?_
  refine rt (hL _ ?_)
  refine cnd rfl h (fun h => ?_) fun h => ?_
  · refine tk fun L hL => ?_
    refine mv rfl ?_
    refine asn rfl rfl ?_
    refine rt (hL _ ?_)
    obtain rfl := h
    exact aw_ret (hQ _ _ ⟨.inr rfl, _, _, _, (.cons (.p rfl) .nil), (.cons (.c (.p _)) .nil), rfl, rfl⟩)
  · refine aw_skip (hL1 _ ?_)
    refine aw_jn (fun (p3 : Unit) => (⟨[], []⟩ : St)) h (fun p3 h => ?_) (fun J3 L3 hL3 h => ?_)
    · refine tk fun L hL => ?_
      refine asn rfl rfl ?_
      refine rt (hL _ ?_)
      obtain rfl := h
      exact aw_ret (hQ _ _ ⟨.inr rfl, _, _, _, (.cons (.p rfl) .nil), (.cons (.c (.p _)) .nil), rfl, rfl⟩)
    · refine tk fun L hL => ?_
      refine mv rfl ?_
      refine u0 (o_len_l (T := tb) rfl rfl rfl rfl) ?_
      refine u0 (opL_move_c rfl rfl) ?_
      refine rt (hL _ ?_)
      refine aw_block ?_
      refine aw_lp (fun (s4 : Int) => (⟨[(13, .c (.p (.l 1 (List.map eS (a0))))), (14, .c (.p (.v (.int .i64 (((a0).length : Int)))))), (15, .c (.p (.v (.int .i64 (s4)))))], []⟩ : St)) h (Sub.nm [13, 14, 15] [] rfl (by kernel_rfl)) (fun X4 L4 hL4 s4 h => ?_)
      refine tk fun L hL => ?_
      refine u0 (opL_cmp (c := decide ((s4) < (((a0).length : Int)))) rfl rfl rfl rfl rfl) ?_
      refine rt (hL _ ?_)
      refine sk fun L5 hL5 => ?_
      refine cnd rfl h (fun h => ?_) fun h => ?_
      · refine aw_skip (hL5 _ ?_)
        refine sk fun L6 hL6 => ?_
        refine aw_block ?_
        refine tk fun L hL => ?_
        obtain ⟨v7, hv7, h⟩ := h
        refine u0 (o_idx_l (T := tb) hv7 rfl rfl rfl rfl rfl rfl rfl rfl) ?_
        refine u0 (opL_load_ep (T := tb) rfl rfl rfl rfl rfl) ?_
        refine asn rfl rfl ?_
        refine rt (hL _ ?_)
        refine tk fun L hL => ?_
        refine mv rfl ?_
        obtain ⟨v8, hv8, h⟩ := h
        refine u0 (opL_call0 (c_operation_name _ _ hv8) rfl rfl (.cons (.c (.p _)) .nil) rfl rfl rfl) ?_
        refine asn rfl rfl ?_
        refine rt (hL _ ?_)
        refine tk fun L hL => ?_
        refine mv rfl ?_
        refine u0 (opL_cmp (c := ((v8) != (0))) rfl rfl rfl rfl rfl) ?_
        refine rt (hL _ ?_)
        refine cnd rfl h (fun h => ?_) fun h => ?_
        · refine tk fun L hL => ?_
          refine mv rfl ?_
          refine asn rfl rfl ?_
          refine rt (hL _ ?_)
          obtain rfl := h
          exact aw_ret (hQ _ _ ⟨.inr rfl, _, _, _, (.cons (.p rfl) .nil), (.cons (.c (.p _)) .nil), rfl, rfl⟩)
        · refine aw_skip (hL6 _ ?_)
          refine tl fun L hL => ?_
          refine u0 (opL_add rfl rfl rfl rfl rfl) ?_
          refine mv rfl ?_
          refine rt (hL _ (hL4 _ _ h (Sub.nm [13, 14, 15] [] rfl (by kernel_rfl))))
      · refine aw_exit (hL3 _ _ h (Sub.nm [] [] rfl (by kernel_rfl)))
def W_sketch_inside (a0 : Int) (a1 : Int) (a2 : Int) (Q : Bool → Prop) : Prop :=
 Q (((bif decide ((a0) ≥ (a1)) then decide ((a0) ≤ (a2)) else false)))
def R_sketch_inside (a0 : Int) (a1 : Int) (a2 : Int) (r : Bool) : Prop := W_sketch_inside a0 a1 a2 fun x => r = x
theorem e_sketch_inside {a0 : Int} {a1 : Int} {a2 : Int} {Post : Bool → Prop} (h : W_sketch_inside a0 a1 a2 Post) : ∃ r, R_sketch_inside a0 a1 a2 r ∧ Post r := (show GM (W_sketch_inside a0 a1 a2) (W_sketch_inside a0 a1 a2) from GM.ret _) Post h
theorem c_sketch_inside (a0 : Int) (a1 : Int) (a2 : Int) (r : Bool) (h : R_sketch_inside a0 a1 a2 r) : Contract Try.prog 55 [.c (.v (.int .i64 (a0))), .c (.v (.int .i64 (a1))), .c (.v (.int .i64 (a2)))] [.c (.p (.v (.bool (r))))] [] := by
  refine contract0 tb Try.func55 rfl (by kernel_rfl) rfl rfl (Nat.le_of_ble_eq_true rfl) rfl ?_
  intro E
  unfold R_sketch_inside W_sketch_inside at h
  refine aw_Q (fun Q hQ => ?_)
  refine tk fun L hL => ?_
  refine asn rfl rfl ?_
  refine rt (hL _ ?_)
  refine tk fun L hL => ?_
  refine mv rfl ?_
  refine mv rfl ?_
  refine u0 (opL_cmp (c := decide ((a0) ≥ (a1))) rfl rfl rfl rfl rfl) ?_
  refine mv rfl ?_
  refine run_g rfl rfl beq_t (fun hg => opL_move_c rfl rfl) ?_
  refine run_g rfl rfl beq_t (fun hg => opL_move_c rfl rfl) ?_
  refine run_g rfl rfl beq_t (fun hg => opL_cmp (c := decide ((a0) ≤ (a2))) (gt_t hg) (gt_t hg) rfl rfl rfl) ?_
  refine u0 (opL_pick_gl (v := .bool (decide ((a0) ≤ (a2)))) (w := .bool (false)) rfl rfl beq_t rfl bif_v rfl rfl rfl) ?_
  refine asn rfl rfl ?_
  refine rt (hL _ ?_)
  refine aw_sub (st' := ⟨[(6, .c (.p (.v (.bool ((bif decide ((a0) ≥ (a1)) then decide ((a0) ≤ (a2)) else false))))))], []⟩) (Sub.nm [6] [] rfl rfl) ?_
  obtain rfl := h
  exact aw_ret (hQ _ _ ⟨.inr rfl, _, _, _, (.cons (.p rfl) .nil), (.cons (.c (.p _)) .nil), rfl, rfl⟩)
def W_sketch_ValidateParams (a0 : T_api_Params) (Q : Int → Prop) : Prop :=
 jn (fun (p1 : Bool × Bool × Bool × Bool) => (((!(p1.1)) = true → Q ((5))) ∧ ((!(p1.1)) = false → ((((bif (bif (bif !(p1.2.1) then ((a0.fSize) != (0)) else false) then true else (bif !(p1.2.2.1) then ((a0.fDepth) != (0)) else false)) then true else (bif !(p1.2.2.2) then ((a0.fSeed) != (0)) else false))) = true → Q ((10))) ∧ (((bif (bif (bif !(p1.2.1) then ((a0.fSize) != (0)) else false) then true else (bif !(p1.2.2.1) then ((a0.fDepth) != (0)) else false)) then true else (bif !(p1.2.2.2) then ((a0.fSeed) != (0)) else false))) = false → Q ((0))))))) (fun (J1 : Bool × Bool × Bool × Bool → Prop) => (((((a0.fKind) == (1))) = true → J1 ((true), (false), (false), (false))) ∧ ((((a0.fKind) == (1))) = false → (((((a0.fKind) == (2))) = true → ∃ (v2 : Bool), R_sketch_inside (a0.fDepth) (1) (8) v2 ∧ ∃ (v3 : Bool), ((v2) = true → R_sketch_inside (a0.fSize) (1) (64) v3) ∧ J1 (((bif v2 then v3 else false)), (true), (true), (true))) ∧ ((((a0.fKind) == (2))) = false → (((((a0.fKind) == (3))) = true → ∃ (v4 : Bool), R_sketch_inside (a0.fSize) (2) (8) v4 ∧ J1 ((v4), (true), (false), (true))) ∧ ((((a0.fKind) == (3))) = false → jn (fun (p5 : Bool) => (((p5) = true → ∃ (v6 : Bool), R_sketch_inside (a0.fSize) (1) (32) v6 ∧ J1 ((v6), (true), (false), (false))) ∧ ((p5) = false → (((((a0.fKind) == (6))) = true → ∃ (v7 : Bool), R_sketch_inside (a0.fSize) (2) (32) v7 ∧ J1 (((bif v7 then (((a0.fSize).tmod (2)) == (0)) else false)), (true), (false), (false))) ∧ ((((a0.fKind) == (6))) = false → Q ((8))))))) (fun (J5 : Bool → Prop) => (((((a0.fKind) == (4))) = true → J5 ((((a0.fKind) == (4))))) ∧ ((((a0.fKind) == (4))) = false → J5 ((((a0.fKind) == (5))))))))))))))
def R_sketch_ValidateParams (a0 : T_api_Params) (r : Int) : Prop := W_sketch_ValidateParams a0 fun x => r = x
theorem e_sketch_ValidateParams {a0 : T_api_Params} {Post : Int → Prop} (h : W_sketch_ValidateParams a0 Post) : ∃ r, R_sketch_ValidateParams a0 r ∧ Post r := (show GM (W_sketch_ValidateParams a0) (W_sketch_ValidateParams a0) from GM.join (fun p1 => GM.cond (GM.ret _) (GM.cond (GM.ret _) (GM.ret _))) (fun _ _ J1 => GM.cond (J1 _) (GM.cond (GM.ex fun v2 => GM.ex fun v3 => J1 _) (GM.cond (GM.ex fun v4 => J1 _) (GM.join (fun p5 => GM.cond (GM.ex fun v6 => J1 _) (GM.cond (GM.ex fun v7 => J1 _) (GM.ret _))) (fun _ _ J5 => GM.cond (J5 _) (J5 _))))))) Post h
theorem c_sketch_ValidateParams (a0 : T_api_Params) (r : Int) (h : R_sketch_ValidateParams a0 r) : Contract Try.prog 41 [.agg (e_api_Params a0)] [.c (.p (.v (.int .i64 (r))))] [] := by
  refine contract0 tb Try.func41 rfl (by kernel_rfl) rfl rfl (Nat.le_of_ble_eq_true rfl) rfl ?_
  intro E
  unfold R_sketch_ValidateParams W_sketch_ValidateParams at h
  refine aw_Q (fun Q hQ => ?_)
  refine tk fun L hL => ?_
  refine u1 (opL_box_a rfl rfl) ?_
  refine asn rfl rfl ?_
  refine rt (hL _ ?_)
  refine tk fun L hL => ?_
  refine asn rfl rfl ?_
  refine asn rfl rfl ?_
  refine asn rfl rfl ?_
  refine asn rfl rfl ?_
  refine rt (hL _ ?_)
  refine aw_jn (fun (p1 : Bool × Bool × Bool × Bool) => (⟨[(1, .c (.ptr (1, 0) 0 0)), (3, .c (.p (.v (.bool (p1.1))))), (4, .c (.p (.v (.bool (p1.2.1))))), (5, .c (.p (.v (.bool (p1.2.2.1))))), (6, .c (.p (.v (.bool (p1.2.2.2)))))], [((1, 0), some (.box (List.map CV.p (e_api_Params a0))))]⟩ : St)) h (fun p1 h => ?_) (fun J1 L1 hL1 h => ?_)
  · refine sk fun L8 hL8 => ?_
    refine tk fun L hL => ?_
    refine mv rfl ?_
    refine u0 (opL_not rfl rfl rfl) ?_
    refine rt (hL _ ?_)
    refine cnd rfl h (fun h => ?_) fun h => ?_
    · refine tk fun L hL => ?_
      refine asn rfl rfl ?_
      refine rt (hL _ ?_)
      obtain rfl := h
      exact aw_ret (hQ _ _ ⟨.inr rfl, _, _, _, (.cons (.p rfl) .nil), (.cons (.c (.p _)) .nil), rfl, rfl⟩)
    · refine aw_skip (hL8 _ ?_)
      refine sk fun L9 hL9 => ?_
      refine tk fun L hL => ?_
      refine mv rfl ?_
      refine u0 (opL_not rfl rfl rfl) ?_
      refine mv rfl ?_
      refine run_g rfl rfl beq_t (fun hg => opL_fieldp (T := tb) rfl rfl rfl rfl rfl rfl rfl rfl rfl) ?_
      refine run_g rfl rfl beq_t (fun hg => opL_load_box (T := tb) (gt_t hg) rfl rfl rfl rfl rfl) ?_
      refine run_g rfl rfl beq_t (fun hg => opL_cmp (c := ((a0.fSize) != (0))) (gt_t hg) rfl rfl rfl rfl) ?_
      refine u0 (opL_pick_gl (v := .bool (((a0.fSize) != (0)))) (w := .bool (false)) rfl rfl beq_t rfl bif_v rfl rfl rfl) ?_
      refine mv rfl ?_
      refine run_g rfl rfl beq_f (fun hg => opL_move_c rfl rfl) ?_
      refine run_g rfl rfl beq_f (fun hg => opL_not (gt_t hg) rfl rfl) ?_
      refine run_g rfl rfl beq_f (fun hg => opL_move_c (gt_t hg) rfl) ?_
      refine run_gn rfl rfl gand_t (fun hg => opL_fieldp (T := tb) rfl rfl rfl rfl rfl rfl rfl rfl rfl) ?_
      refine run_gn rfl rfl gand_t (fun hg => opL_load_box (T := tb) (gt_t hg) rfl rfl rfl rfl rfl) ?_
      refine run_gn rfl rfl gand_t (fun hg => opL_cmp (c := ((a0.fDepth) != (0))) (gt_t hg) rfl rfl rfl rfl) ?_
      refine run_g rfl rfl beq_f (fun hg => opL_pick_gl (v := .bool (((a0.fDepth) != (0)))) (w := .bool (false)) (gt_t hg) rfl (beq_tn hg) rfl bif_v rfl rfl rfl) ?_
      refine u0 (opL_pick_gr (v := .bool (true)) (w := .bool ((bif !(p1.2.2.1) then ((a0.fDepth) != (0)) else false))) rfl rfl beq_f rfl bif_v rfl rfl rfl) ?_
      refine mv rfl ?_
      refine run_g rfl rfl beq_f (fun hg => opL_move_c rfl rfl) ?_
      refine run_g rfl rfl beq_f (fun hg => opL_not (gt_t hg) rfl rfl) ?_
      refine run_g rfl rfl beq_f (fun hg => opL_move_c (gt_t hg) rfl) ?_
      refine run_gn rfl rfl gand_t (fun hg => opL_fieldp (T := tb) rfl rfl rfl rfl rfl rfl rfl rfl rfl) ?_
      refine run_gn rfl rfl gand_t (fun hg => opL_load_box (T := tb) (gt_t hg) rfl rfl rfl rfl rfl) ?_
      refine run_gn rfl rfl gand_t (fun hg => opL_cmp (c := ((a0.fSeed) != (0))) (gt_t hg) rfl rfl rfl rfl) ?_
      refine run_g rfl rfl beq_f (fun hg => opL_pick_gl (v := .bool (((a0.fSeed) != (0)))) (w := .bool (false)) (gt_t hg) rfl (beq_tn hg) rfl bif_v rfl rfl rfl) ?_
      refine u0 (opL_pick_gr (v := .bool (true)) (w := .bool ((bif !(p1.2.2.2) then ((a0.fSeed) != (0)) else false))) rfl rfl beq_f rfl bif_v rfl rfl rfl) ?_
      refine rt (hL _ ?_)
      refine aw_sub (st' := ⟨[(69, .c (.p (.v (.bool ((bif (bif (bif !(p1.2.1) then ((a0.fSize) != (0)) else false) then true else (bif !(p1.2.2.1) then ((a0.fDepth) != (0)) else false)) then true else (bif !(p1.2.2.2) then ((a0.fSeed) != (0)) else false)))))))], []⟩) (Sub.nm [69] [] rfl rfl) ?_
      refine cnd rfl h (fun h => ?_) fun h => ?_
      · refine tk fun L hL => ?_
        refine asn rfl rfl ?_
        refine rt (hL _ ?_)
        obtain rfl := h
        exact aw_ret (hQ _ _ ⟨.inr rfl, _, _, _, (.cons (.p rfl) .nil), (.cons (.c (.p _)) .nil), rfl, rfl⟩)
      · refine aw_skip (hL9 _ ?_)
        refine tk fun L hL => ?_
        refine asn rfl rfl ?_
        refine rt (hL _ ?_)
        obtain rfl := h
        exact aw_ret (hQ _ _ ⟨.inr rfl, _, _, _, (.cons (.p rfl) .nil), (.cons (.c (.p _)) .nil), rfl, rfl⟩)
  · refine tk fun L hL => ?_
    refine u0 (opL_fieldp (T := tb) rfl rfl rfl rfl rfl rfl rfl rfl rfl) ?_
    refine u0 (opL_load_box (T := tb) rfl rfl rfl rfl rfl rfl) ?_
    refine rt (hL _ ?_)
    refine aw_block ?_
    refine tk fun L hL => ?_
    refine u0 (opL_cmp (c := ((a0.fKind) == (1))) rfl rfl rfl rfl rfl) ?_
    refine asn rfl rfl ?_
    refine rt (hL _ ?_)
    refine cnd rfl h (fun h => ?_) fun h => ?_
    · refine tl fun L hL => ?_
      refine asn rfl rfl ?_
      refine rt (hL _ (hL1 _ _ h (Sub.nm [1, 3, 4, 5, 6] [((1, 0), (1, 0))] rfl (by kernel_rfl))))
    · refine tk fun L hL => ?_
      refine u0 (opL_cmp (c := ((a0.fKind) == (2))) rfl rfl rfl rfl rfl) ?_
      refine asn rfl rfl ?_
      refine rt (hL _ ?_)
      refine cnd rfl h (fun h => ?_) fun h => ?_
      · refine tk fun L hL => ?_
        refine u0 (opL_fieldp (T := tb) rfl rfl rfl rfl rfl rfl rfl rfl rfl) ?_
        refine u0 (opL_load_box (T := tb) rfl rfl rfl rfl rfl rfl) ?_
        obtain ⟨v2, hv2, h⟩ := h
        refine u0 (opL_call0 (c_sketch_inside _ _ _ _ hv2) rfl rfl (.cons (.c (.p _)) (.cons (.c (.p _)) (.cons (.c (.p _)) .nil))) rfl rfl rfl) ?_
        refine mv rfl ?_
        refine run_g rfl rfl beq_t (fun hg => opL_fieldp (T := tb) rfl rfl rfl rfl rfl rfl rfl rfl rfl) ?_
        refine run_g rfl rfl beq_t (fun hg => opL_load_box (T := tb) (gt_t hg) rfl rfl rfl rfl rfl) ?_
        obtain ⟨v3, hv3, h⟩ := h
        refine run_g rfl rfl beq_t (fun hg => opL_call0 (c_sketch_inside _ _ _ _ (hv3 hg)) rfl rfl (.cons (toA_g hg (.c (.p _))) (.cons (.c (.p _)) (.cons (.c (.p _)) .nil))) rfl rfl rfl) ?_
        refine u0 (opL_pick_gl (v := .bool (v3)) (w := .bool (false)) rfl rfl beq_t rfl bif_v rfl rfl rfl) ?_
        refine asn rfl rfl ?_
        refine rt (hL _ ?_)
        refine aw_sub (st' := ⟨[(1, .c (.ptr (1, 0) 0 0)), (3, .c (.p (.v (.bool ((bif v2 then v3 else false)))))), (4, .c (.p (.v (.bool (true)))))], [((1, 0), some (.box (List.map CV.p (e_api_Params a0))))]⟩) (Sub.nm [1, 3, 4] [((1, 0), (1, 0))] rfl rfl) ?_
        refine tl fun L hL => ?_
        refine asn rfl rfl ?_
        refine asn rfl rfl ?_
        refine rt (hL _ (hL1 _ _ h (Sub.nm [1, 3, 4, 5, 6] [((1, 0), (1, 0))] rfl (by kernel_rfl))))
      · refine tk fun L hL => ?_
        refine u0 (opL_cmp (c := ((a0.fKind) == (3))) rfl rfl rfl rfl rfl) ?_
        refine asn rfl rfl ?_
        refine rt (hL _ ?_)
        refine cnd rfl h (fun h => ?_) fun h => ?_
        · refine tk fun L hL => ?_
          refine u0 (opL_fieldp (T := tb) rfl rfl rfl rfl rfl rfl rfl rfl rfl) ?_
          refine u0 (opL_load_box (T := tb) rfl rfl rfl rfl rfl rfl) ?_
          obtain ⟨v4, hv4, h⟩ := h
          refine u0 (opL_call0 (c_sketch_inside _ _ _ _ hv4) rfl rfl (.cons (.c (.p _)) (.cons (.c (.p _)) (.cons (.c (.p _)) .nil))) rfl rfl rfl) ?_
          refine asn rfl rfl ?_
          refine rt (hL _ ?_)
          refine tl fun L hL => ?_
          refine asn rfl rfl ?_
          refine rt (hL _ (hL1 _ _ h (Sub.nm [1, 3, 4, 5, 6] [((1, 0), (1, 0))] rfl (by kernel_rfl))))
        · refine aw_jn (fun (p5 : Bool) => (⟨[(1, .c (.ptr (1, 0) 0 0)), (4, .c (.p (.v (.bool (true))))), (5, .c (.p (.v (.bool (false))))), (6, .c (.p (.v (.bool (false))))), (8, .c (.p (.v (.int .i64 (a0.fKind))))), (26, .c (.p (.v (.bool (p5)))))], [((1, 0), some (.box (List.map CV.p (e_api_Params a0))))]⟩ : St)) h (fun p5 h => ?_) (fun J5 L5 hL5 h => ?_)
          · refine cnd rfl h (fun h => ?_) fun h => ?_
            · refine tl fun L hL => ?_
              refine u0 (opL_fieldp (T := tb) rfl rfl rfl rfl rfl rfl rfl rfl rfl) ?_
              refine u0 (opL_load_box (T := tb) rfl rfl rfl rfl rfl rfl) ?_
              obtain ⟨v6, hv6, h⟩ := h
              refine u0 (opL_call0 (c_sketch_inside _ _ _ _ hv6) rfl rfl (.cons (.c (.p _)) (.cons (.c (.p _)) (.cons (.c (.p _)) .nil))) rfl rfl rfl) ?_
              refine asn rfl rfl ?_
              refine rt (hL _ (hL1 _ _ h (Sub.nm [1, 3, 4, 5, 6] [((1, 0), (1, 0))] rfl (by kernel_rfl))))
            · refine tk fun L hL => ?_
              refine u0 (opL_cmp (c := ((a0.fKind) == (6))) rfl rfl rfl rfl rfl) ?_
              refine asn rfl rfl ?_
              refine rt (hL _ ?_)
              refine cnd rfl h (fun h => ?_) fun h => ?_
              · refine tl fun L hL => ?_
                refine u0 (opL_fieldp (T := tb) rfl rfl rfl rfl rfl rfl rfl rfl rfl) ?_
                refine u0 (opL_load_box (T := tb) rfl rfl rfl rfl rfl rfl) ?_
                obtain ⟨v7, hv7, h⟩ := h
                refine u0 (opL_call0 (c_sketch_inside _ _ _ _ hv7) rfl rfl (.cons (.c (.p _)) (.cons (.c (.p _)) (.cons (.c (.p _)) .nil))) rfl rfl rfl) ?_
                refine mv rfl ?_
                refine run_g rfl rfl beq_t (fun hg => opL_fieldp (T := tb) rfl rfl rfl rfl rfl rfl rfl rfl rfl) ?_
                refine run_g rfl rfl beq_t (fun hg => opL_load_box (T := tb) (gt_t hg) rfl rfl rfl rfl rfl) ?_
                refine run_g rfl rfl beq_t (fun hg => o_rem (by decide) (gt_t hg) rfl rfl rfl) ?_
                refine run_g rfl rfl beq_t (fun hg => opL_cmp (c := (((a0.fSize).tmod (2)) == (0))) (gt_t hg) rfl rfl rfl rfl) ?_
                refine u0 (opL_pick_gl (v := .bool ((((a0.fSize).tmod (2)) == (0)))) (w := .bool (false)) rfl rfl beq_t rfl bif_v rfl rfl rfl) ?_
                refine asn rfl rfl ?_
                refine rt (hL _ (hL1 _ _ h (Sub.nm [1, 3, 4, 5, 6] [((1, 0), (1, 0))] rfl (by kernel_rfl))))
              · refine tk fun L hL => ?_
                refine asn rfl rfl ?_
                refine rt (hL _ ?_)
                obtain rfl := h
                exact aw_ret (hQ _ _ ⟨.inr rfl, _, _, _, (.cons (.p rfl) .nil), (.cons (.c (.p _)) .nil), rfl, rfl⟩)
          · refine tk fun L hL => ?_
            refine u0 (opL_cmp (c := ((a0.fKind) == (4))) rfl rfl rfl rfl rfl) ?_
            refine asn rfl rfl ?_
            refine rt (hL _ ?_)
            refine cnd rfl h (fun h => ?_) fun h => ?_
            · refine aw_skip (hL5 _ _ h (Sub.nm [1, 4, 5, 6, 8, 26] [((1, 0), (1, 0))] rfl (by kernel_rfl)))
            · refine tl fun L hL => ?_
              refine u0 (opL_cmp (c := ((a0.fKind) == (5))) rfl rfl rfl rfl rfl) ?_
              refine asn rfl rfl ?_
              refine rt (hL _ (hL5 _ _ h (Sub.nm [1, 4, 5, 6, 8, 26] [((1, 0), (1, 0))] rfl (by kernel_rfl))))
def W_names_IsKey (a0 : ByteArray) (Q : Bool → Prop) : Prop :=
 Q (((bif decide ((((a0).size : Int)) ≥ (1)) then decide ((((a0).size : Int)) ≤ (32)) else false)))
def R_names_IsKey (a0 : ByteArray) (r : Bool) : Prop := W_names_IsKey a0 fun x => r = x
theorem e_names_IsKey {a0 : ByteArray} {Post : Bool → Prop} (h : W_names_IsKey a0 Post) : ∃ r, R_names_IsKey a0 r ∧ Post r := (show GM (W_names_IsKey a0) (W_names_IsKey a0) from GM.ret _) Post h
theorem c_names_IsKey (a0 : ByteArray) (r : Bool) (h : R_names_IsKey a0 r) : Contract Try.prog 57 [.c (.v (.string (a0)))] [.c (.p (.v (.bool (r))))] [] := by
  refine contract0 tb Try.func57 rfl (by kernel_rfl) rfl rfl (Nat.le_of_ble_eq_true rfl) rfl ?_
  intro E
  unfold R_names_IsKey W_names_IsKey at h
  refine aw_Q (fun Q hQ => ?_)
  refine tk fun L hL => ?_
  refine asn rfl rfl ?_
  refine rt (hL _ ?_)
  refine tk fun L hL => ?_
  refine mv rfl ?_
  refine u0 (opL_len_str (T := tb) rfl rfl rfl rfl) ?_
  refine u0 (opL_cmp (c := decide ((((a0).size : Int)) ≥ (1))) rfl rfl rfl rfl rfl) ?_
  refine mv rfl ?_
  refine run_g rfl rfl beq_t (fun hg => opL_move_c rfl rfl) ?_
  refine run_g rfl rfl beq_t (fun hg => opL_len_str (T := tb) (gt_t hg) rfl rfl rfl) ?_
  refine run_g rfl rfl beq_t (fun hg => opL_cmp (c := decide ((((a0).size : Int)) ≤ (32))) (gt_t hg) rfl rfl rfl rfl) ?_
  refine u0 (opL_pick_gl (v := .bool (decide ((((a0).size : Int)) ≤ (32)))) (w := .bool (false)) rfl rfl beq_t rfl bif_v rfl rfl rfl) ?_
  refine asn rfl rfl ?_
  refine rt (hL _ ?_)
  refine aw_sub (st' := ⟨[(2, .c (.p (.v (.bool ((bif decide ((((a0).size : Int)) ≥ (1)) then decide ((((a0).size : Int)) ≤ (32)) else false))))))], []⟩) (Sub.nm [2] [] rfl rfl) ?_
  obtain rfl := h
  exact aw_ret (hQ _ _ ⟨.inr rfl, _, _, _, (.cons (.p rfl) .nil), (.cons (.c (.p _)) .nil), rfl, rfl⟩)
def W_names_ValidateItem (a0 : T_api_Item) (Q : Int → Prop) : Prop :=
 ∃ (v2 : Bool), R_names_IsKey (a0.fKey) v2 ∧ (((!(v2)) = true → Q ((7))) ∧ ((!(v2)) = false → ((((bif decide ((a0.fWeight) < (1)) then true else decide ((a0.fWeight) > (4294967295)))) = true → Q ((5))) ∧ (((bif decide ((a0.fWeight) < (1)) then true else decide ((a0.fWeight) > (4294967295)))) = false → Q ((0))))))
def R_names_ValidateItem (a0 : T_api_Item) (r : Int) : Prop := W_names_ValidateItem a0 fun x => r = x
theorem e_names_ValidateItem {a0 : T_api_Item} {Post : Int → Prop} (h : W_names_ValidateItem a0 Post) : ∃ r, R_names_ValidateItem a0 r ∧ Post r := (show GM (W_names_ValidateItem a0) (W_names_ValidateItem a0) from GM.ex fun v2 => GM.cond (GM.ret _) (GM.cond (GM.ret _) (GM.ret _))) Post h
theorem c_names_ValidateItem (a0 : T_api_Item) (r : Int) (h : R_names_ValidateItem a0 r) : Contract Try.prog 56 [.agg (e_api_Item a0)] [.c (.p (.v (.int .i64 (r))))] [] := by
  refine contract0 tb Try.func56 rfl (by kernel_rfl) rfl rfl (Nat.le_of_ble_eq_true rfl) rfl ?_
  intro E
  unfold R_names_ValidateItem W_names_ValidateItem at h
  refine aw_Q (fun Q hQ => ?_)
  refine tk fun L hL => ?_
  refine u1 (opL_box_a rfl rfl) ?_
  refine asn rfl rfl ?_
  refine rt (hL _ ?_)
  refine sk fun L1 hL1 => ?_
  refine tk fun L hL => ?_
  refine u0 (opL_fieldp (T := tb) rfl rfl rfl rfl rfl rfl rfl rfl rfl) ?_
  refine u0 (opL_load_box (T := tb) rfl rfl rfl rfl rfl rfl) ?_
  obtain ⟨v2, hv2, h⟩ := h
  refine u0 (opL_call0 (c_names_IsKey _ _ hv2) rfl rfl (.cons (.c (.p _)) .nil) rfl rfl rfl) ?_
  refine u0 (opL_not rfl rfl rfl) ?_
  refine rt (hL _ ?_)
  refine cnd rfl h (fun h => ?_) fun h => ?_
  · refine tk fun L hL => ?_
    refine asn rfl rfl ?_
    refine rt (hL _ ?_)
    obtain rfl := h
    exact aw_ret (hQ _ _ ⟨.inr rfl, _, _, _, (.cons (.p rfl) .nil), (.cons (.c (.p _)) .nil), rfl, rfl⟩)
  · refine aw_skip (hL1 _ ?_)
    refine sk fun L3 hL3 => ?_
    refine tk fun L hL => ?_
    refine u0 (opL_fieldp (T := tb) rfl rfl rfl rfl rfl rfl rfl rfl rfl) ?_
    refine u0 (opL_load_box (T := tb) rfl rfl rfl rfl rfl rfl) ?_
    refine u0 (opL_cmp (c := decide ((a0.fWeight) < (1))) rfl rfl rfl rfl rfl) ?_
    refine mv rfl ?_
    refine run_g rfl rfl beq_f (fun hg => opL_fieldp (T := tb) rfl rfl rfl rfl rfl rfl rfl rfl rfl) ?_
    refine run_g rfl rfl beq_f (fun hg => opL_load_box (T := tb) (gt_t hg) rfl rfl rfl rfl rfl) ?_
    refine run_g rfl rfl beq_f (fun hg => opL_cmp (c := decide ((a0.fWeight) > (4294967295))) (gt_t hg) rfl rfl rfl rfl) ?_
    refine u0 (opL_pick_gr (v := .bool (true)) (w := .bool (decide ((a0.fWeight) > (4294967295)))) rfl rfl beq_f rfl bif_v rfl rfl rfl) ?_
    refine rt (hL _ ?_)
    refine aw_sub (st' := ⟨[(14, .c (.p (.v (.bool ((bif decide ((a0.fWeight) < (1)) then true else decide ((a0.fWeight) > (4294967295))))))))], []⟩) (Sub.nm [14] [] rfl rfl) ?_
    refine cnd rfl h (fun h => ?_) fun h => ?_
    · refine tk fun L hL => ?_
      refine asn rfl rfl ?_
      refine rt (hL _ ?_)
      obtain rfl := h
      exact aw_ret (hQ _ _ ⟨.inr rfl, _, _, _, (.cons (.p rfl) .nil), (.cons (.c (.p _)) .nil), rfl, rfl⟩)
    · refine aw_skip (hL3 _ ?_)
      refine tk fun L hL => ?_
      refine asn rfl rfl ?_
      refine rt (hL _ ?_)
      obtain rfl := h
      exact aw_ret (hQ _ _ ⟨.inr rfl, _, _, _, (.cons (.p rfl) .nil), (.cons (.c (.p _)) .nil), rfl, rfl⟩)
def W_operation_items (a0 : (List T_api_Item)) (Q : Int → Prop) : Prop :=
 ∃ (v2 : Int), R_operation_between (((a0).length : Int)) (1) (64) v2 ∧ (((((v2) != (0))) = true → Q ((v2))) ∧ ((((v2) != (0))) = false → jn (fun (p3 : Unit) => Q ((0))) (fun (J3 : Unit → Prop) => lp (fun (X4 : Int → Prop) (s4 : Int) => (((decide ((s4) < (((a0).length : Int)))) = true → ∃ (v7 : T_api_Item), ix (a0) (s4) v7 ∧ ∃ (v8 : Int), R_names_ValidateItem v7 v8 ∧ (((((v8) != (0))) = true → Q ((v8))) ∧ ((((v8) != (0))) = false → X4 ((IntKind.i64.wrap ((s4) + (1))))))) ∧ ((decide ((s4) < (((a0).length : Int)))) = false → J3 (())))) ((0)))))
def R_operation_items (a0 : (List T_api_Item)) (r : Int) : Prop := W_operation_items a0 fun x => r = x
theorem e_operation_items {a0 : (List T_api_Item)} {Post : Int → Prop} (h : W_operation_items a0 Post) : ∃ r, R_operation_items a0 r ∧ Post r := (show GM (W_operation_items a0) (W_operation_items a0) from GM.ex fun v2 => GM.cond (GM.ret _) (GM.join (fun p3 => GM.ret _) (fun _ _ J3 => GM.loop (fun X Y Q s4 X4 h => ⟨fun hc => (Exists.elim ((h).1 hc) fun v7 hv7 => ⟨v7, hv7.1, (Exists.elim (hv7.2) fun v8 hv8 => ⟨v8, hv8.1, ⟨fun hc => (hv8.2).1 hc, fun hc => X4 _ ((hv8.2).2 hc)⟩⟩)⟩), fun hc => (h).2 hc⟩) (fun _ _ X4 s4 => GM.cond (GM.ex fun v7 => GM.ex fun v8 => GM.cond (GM.ret _) (X4 _)) (J3 _))))) Post h
theorem c_operation_items (a0 : (List T_api_Item)) (r : Int) (h : R_operation_items a0 r) : Contract Try.prog 42 [.c (.l 2 (List.map e_api_Item (a0)))] [.c (.p (.v (.int .i64 (r))))] [] := by
  refine contract0 tb Try.func42 rfl (by kernel_rfl) rfl rfl (Nat.le_of_ble_eq_true rfl) rfl ?_
  intro E
  unfold R_operation_items W_operation_items at h
  refine aw_Q (fun Q hQ => ?_)
  refine tk fun L hL => ?_
  refine asn rfl rfl ?_
  refine rt (hL _ ?_)
  refine sk fun L1 hL1 => ?_
  refine tk fun L hL => ?_
  refine mv rfl ?_
  refine u0 (o_len_l (T := tb) rfl rfl rfl rfl) ?_
  obtain ⟨v2, hv2, h⟩ := h
  refine u0 (opL_call0 (c_operation_between _ _ _ _ hv2) rfl rfl (.cons (.c (.p _)) (.cons (.c (.p _)) (.cons (.c (.p _)) .nil))) rfl rfl rfl) ?_
  refine asn rfl rfl ?_
  refine rt (hL _ ?_)
  refine tk fun L hL => ?_
  refine mv rfl ?_
  refine u0 (opL_cmp (c := ((v2) != (0))) rfl rfl rfl rfl rfl) ?_
  refine rt (hL _ ?_)
  refine cnd rfl h (fun h => ?_) fun h => ?_
  · refine tk fun L hL => ?_
    refine mv rfl ?_
    refine asn rfl rfl ?_
    refine rt (hL _ ?_)
    obtain rfl := h
    exact aw_ret (hQ _ _ ⟨.inr rfl, _, _, _, (.cons (.p rfl) .nil), (.cons (.c (.p _)) .nil), rfl, rfl⟩)
  · refine aw_skip (hL1 _ ?_)
    refine aw_jn (fun (p3 : Unit) => (⟨[], []⟩ : St)) h (fun p3 h => ?_) (fun J3 L3 hL3 h => ?_)
    · refine tk fun L hL => ?_
      refine asn rfl rfl ?_
      refine rt (hL _ ?_)
      obtain rfl := h
      exact aw_ret (hQ _ _ ⟨.inr rfl, _, _, _, (.cons (.p rfl) .nil), (.cons (.c (.p _)) .nil), rfl, rfl⟩)
    · refine tk fun L hL => ?_
      refine mv rfl ?_
      refine u0 (o_len_l (T := tb) rfl rfl rfl rfl) ?_
      refine u0 (opL_move_c rfl rfl) ?_
      refine rt (hL _ ?_)
      refine aw_block ?_
      refine aw_lp (fun (s4 : Int) => (⟨[(13, .c (.p (.l 2 (List.map e_api_Item (a0))))), (14, .c (.p (.v (.int .i64 (((a0).length : Int)))))), (15, .c (.p (.v (.int .i64 (s4)))))], []⟩ : St)) h (Sub.nm [13, 14, 15] [] rfl (by kernel_rfl)) (fun X4 L4 hL4 s4 h => ?_)
      refine tk fun L hL => ?_
      refine u0 (opL_cmp (c := decide ((s4) < (((a0).length : Int)))) rfl rfl rfl rfl rfl) ?_
      refine rt (hL _ ?_)
      refine sk fun L5 hL5 => ?_
      refine cnd rfl h (fun h => ?_) fun h => ?_
      · refine aw_skip (hL5 _ ?_)
        refine sk fun L6 hL6 => ?_
        refine aw_block ?_
        refine tk fun L hL => ?_
        obtain ⟨v7, hv7, h⟩ := h
        refine u0 (o_idx_l (T := tb) hv7 rfl rfl rfl rfl rfl rfl rfl rfl) ?_
        refine u0 (opL_loads_ep (T := tb) rfl rfl rfl rfl rfl rfl rfl) ?_
        refine u1 (opL_alloc (T := tb) rfl rfl rfl) ?_
        refine un (opL_st_a (T := tb) rfl rfl rfl rfl rfl rfl rfl rfl rfl) ?_
        refine rt (hL _ ?_)
        refine tk fun L hL => ?_
        refine u0 (opL_loads_box (T := tb) rfl rfl rfl rfl rfl rfl rfl) ?_
        obtain ⟨v8, hv8, h⟩ := h
        refine u0 (opL_call0 (c_names_ValidateItem _ _ hv8) rfl rfl (.cons (.agg (.cons (.p _) (.cons (.p _) .nil))) .nil) rfl rfl rfl) ?_
        refine asn rfl rfl ?_
        refine rt (hL _ ?_)
        refine tk fun L hL => ?_
        refine mv rfl ?_
        refine u0 (opL_cmp (c := ((v8) != (0))) rfl rfl rfl rfl rfl) ?_
        refine rt (hL _ ?_)
        refine cnd rfl h (fun h => ?_) fun h => ?_
        · refine tk fun L hL => ?_
          refine mv rfl ?_
          refine asn rfl rfl ?_
          refine rt (hL _ ?_)
          obtain rfl := h
          exact aw_ret (hQ _ _ ⟨.inr rfl, _, _, _, (.cons (.p rfl) .nil), (.cons (.c (.p _)) .nil), rfl, rfl⟩)
        · refine aw_skip (hL6 _ ?_)
          refine tl fun L hL => ?_
          refine u0 (opL_add rfl rfl rfl rfl rfl) ?_
          refine mv rfl ?_
          refine rt (hL _ (hL4 _ _ h (Sub.nm [13, 14, 15] [] rfl (by kernel_rfl))))
      · refine aw_exit (hL3 _ _ h (Sub.nm [] [] rfl (by kernel_rfl)))
def W_operation_short (a0 : (List Int)) (a1 : Int) (Q : Int → Prop) : Prop :=
 (((decide ((((a0).length : Int)) > (a1))) = true → Q ((11))) ∧ ((decide ((((a0).length : Int)) > (a1))) = false → Q ((0))))
def R_operation_short (a0 : (List Int)) (a1 : Int) (r : Int) : Prop := W_operation_short a0 a1 fun x => r = x
theorem e_operation_short {a0 : (List Int)} {a1 : Int} {Post : Int → Prop} (h : W_operation_short a0 a1 Post) : ∃ r, R_operation_short a0 a1 r ∧ Post r := (show GM (W_operation_short a0 a1) (W_operation_short a0 a1) from GM.cond (GM.ret _) (GM.ret _)) Post h
theorem c_operation_short (a0 : (List Int)) (a1 : Int) (r : Int) (h : R_operation_short a0 a1 r) : Contract Try.prog 43 [.c (.l 1 (List.map (eI .u8) (a0))), .c (.v (.int .i64 (a1)))] [.c (.p (.v (.int .i64 (r))))] [] := by
  refine contract0 tb Try.func43 rfl (by kernel_rfl) rfl rfl (Nat.le_of_ble_eq_true rfl) rfl ?_
  intro E
  unfold R_operation_short W_operation_short at h
  refine aw_Q (fun Q hQ => ?_)
  refine tk fun L hL => ?_
  refine asn rfl rfl ?_
  refine rt (hL _ ?_)
  refine sk fun L1 hL1 => ?_
  refine tk fun L hL => ?_
  refine mv rfl ?_
  refine u0 (o_len_l (T := tb) rfl rfl rfl rfl) ?_
  refine mv rfl ?_
  refine u0 (opL_cmp (c := decide ((((a0).length : Int)) > (a1))) rfl rfl rfl rfl rfl) ?_
  refine rt (hL _ ?_)
  refine cnd rfl h (fun h => ?_) fun h => ?_
  · refine tk fun L hL => ?_
    refine asn rfl rfl ?_
    refine rt (hL _ ?_)
    obtain rfl := h
    exact aw_ret (hQ _ _ ⟨.inr rfl, _, _, _, (.cons (.p rfl) .nil), (.cons (.c (.p _)) .nil), rfl, rfl⟩)
  · refine aw_skip (hL1 _ ?_)
    refine tk fun L hL => ?_
    refine asn rfl rfl ?_
    refine rt (hL _ ?_)
    obtain rfl := h
    exact aw_ret (hQ _ _ ⟨.inr rfl, _, _, _, (.cons (.p rfl) .nil), (.cons (.c (.p _)) .nil), rfl, rfl⟩)
def W_query_Validate (a0 : T_api_Query) (Q : Int → Prop) : Prop :=
 ((((bif decide ((a0.fKind) < (1)) then true else decide ((a0.fKind) > (7)))) = true → Q ((8))) ∧ (((bif decide ((a0.fKind) < (1)) then true else decide ((a0.fKind) > (7)))) = false → ∃ (v3 : Bool), (((bif ((a0.fKind) == (2)) then true else ((a0.fKind) == (6)))) = true → R_names_IsKey (a0.fKey) v3) ∧ ((((bif (bif ((a0.fKind) == (2)) then true else ((a0.fKind) == (6))) then !(v3) else false)) = true → Q ((7))) ∧ (((bif (bif ((a0.fKind) == (2)) then true else ((a0.fKind) == (6))) then !(v3) else false)) = false → ((((bif ((a0.fKind) == (5)) then (bif decide ((a0.fCount) < (0)) then true else decide ((a0.fCount) > (32))) else false)) = true → Q ((5))) ∧ (((bif ((a0.fKind) == (5)) then (bif decide ((a0.fCount) < (0)) then true else decide ((a0.fCount) > (32))) else false)) = false → ((((bif ((a0.fKind) == (7)) then (bif (bif (bif decide ((a0.fDen) < (1)) then true else decide ((a0.fDen) > (1000000))) then true else decide ((a0.fNum) < (0))) then true else decide ((a0.fNum) > (a0.fDen))) else false)) = true → Q ((5))) ∧ (((bif ((a0.fKind) == (7)) then (bif (bif (bif decide ((a0.fDen) < (1)) then true else decide ((a0.fDen) > (1000000))) then true else decide ((a0.fNum) < (0))) then true else decide ((a0.fNum) > (a0.fDen))) else false)) = false → ((((bif (bif (bif !((bif ((a0.fKind) == (2)) then true else ((a0.fKind) == (6)))) then (!((a0.fKey).toList == ((⟨#[]⟩ : ByteArray)).toList)) else false) then true else (bif !(((a0.fKind) == (5))) then ((a0.fCount) != (0)) else false)) then true else (bif !(((a0.fKind) == (7))) then (bif ((a0.fNum) != (0)) then true else ((a0.fDen) != (0))) else false))) = true → Q ((18))) ∧ (((bif (bif (bif !((bif ((a0.fKind) == (2)) then true else ((a0.fKind) == (6)))) then (!((a0.fKey).toList == ((⟨#[]⟩ : ByteArray)).toList)) else false) then true else (bif !(((a0.fKind) == (5))) then ((a0.fCount) != (0)) else false)) then true else (bif !(((a0.fKind) == (7))) then (bif ((a0.fNum) != (0)) then true else ((a0.fDen) != (0))) else false))) = false → Q ((0))))))))))))
def R_query_Validate (a0 : T_api_Query) (r : Int) : Prop := W_query_Validate a0 fun x => r = x
theorem e_query_Validate {a0 : T_api_Query} {Post : Int → Prop} (h : W_query_Validate a0 Post) : ∃ r, R_query_Validate a0 r ∧ Post r := (show GM (W_query_Validate a0) (W_query_Validate a0) from GM.cond (GM.ret _) (GM.ex fun v3 => GM.cond (GM.ret _) (GM.cond (GM.ret _) (GM.cond (GM.ret _) (GM.cond (GM.ret _) (GM.ret _)))))) Post h
theorem c_query_Validate (a0 : T_api_Query) (r : Int) (h : R_query_Validate a0 r) : Contract Try.prog 45 [.agg (e_api_Query a0)] [.c (.p (.v (.int .i64 (r))))] [] := by
  refine contract0 tb Try.func45 rfl (by kernel_rfl) rfl rfl (Nat.le_of_ble_eq_true rfl) rfl ?_
  intro E
  unfold R_query_Validate W_query_Validate at h
  refine aw_Q (fun Q hQ => ?_)
  refine tk fun L hL => ?_
  refine u1 (opL_box_a rfl rfl) ?_
  refine asn rfl rfl ?_
  refine rt (hL _ ?_)
  refine sk fun L1 hL1 => ?_
  refine tk fun L hL => ?_
  refine u0 (opL_fieldp (T := tb) rfl rfl rfl rfl rfl rfl rfl rfl rfl) ?_
  refine u0 (opL_load_box (T := tb) rfl rfl rfl rfl rfl rfl) ?_
  refine u0 (opL_cmp (c := decide ((a0.fKind) < (1))) rfl rfl rfl rfl rfl) ?_
  refine mv rfl ?_
  refine run_g rfl rfl beq_f (fun hg => opL_fieldp (T := tb) rfl rfl rfl rfl rfl rfl rfl rfl rfl) ?_
  refine run_g rfl rfl beq_f (fun hg => opL_load_box (T := tb) (gt_t hg) rfl rfl rfl rfl rfl) ?_
  refine run_g rfl rfl beq_f (fun hg => opL_cmp (c := decide ((a0.fKind) > (7))) (gt_t hg) rfl rfl rfl rfl) ?_
  refine u0 (opL_pick_gr (v := .bool (true)) (w := .bool (decide ((a0.fKind) > (7)))) rfl rfl beq_f rfl bif_v rfl rfl rfl) ?_
  refine rt (hL _ ?_)
  refine aw_sub (st' := ⟨[(1, .c (.ptr (1, 0) 0 0)), (13, .c (.p (.v (.bool ((bif decide ((a0.fKind) < (1)) then true else decide ((a0.fKind) > (7))))))))], [((1, 0), some (.box (List.map CV.p (e_api_Query a0))))]⟩) (Sub.nm [1, 13] [((1, 0), (1, 0))] rfl rfl) ?_
  refine cnd rfl h (fun h => ?_) fun h => ?_
  · refine tk fun L hL => ?_
    refine asn rfl rfl ?_
    refine rt (hL _ ?_)
    obtain rfl := h
    exact aw_ret (hQ _ _ ⟨.inr rfl, _, _, _, (.cons (.p rfl) .nil), (.cons (.c (.p _)) .nil), rfl, rfl⟩)
  · refine aw_skip (hL1 _ ?_)
    refine tk fun L hL => ?_
    refine u0 (opL_fieldp (T := tb) rfl rfl rfl rfl rfl rfl rfl rfl rfl) ?_
    refine u0 (opL_load_box (T := tb) rfl rfl rfl rfl rfl rfl) ?_
    refine u0 (opL_cmp (c := ((a0.fKind) == (2))) rfl rfl rfl rfl rfl) ?_
    refine mv rfl ?_
    refine run_g rfl rfl beq_f (fun hg => opL_fieldp (T := tb) rfl rfl rfl rfl rfl rfl rfl rfl rfl) ?_
    refine run_g rfl rfl beq_f (fun hg => opL_load_box (T := tb) (gt_t hg) rfl rfl rfl rfl rfl) ?_
    refine run_g rfl rfl beq_f (fun hg => opL_cmp (c := ((a0.fKind) == (6))) (gt_t hg) rfl rfl rfl rfl) ?_
    refine u0 (opL_pick_gr (v := .bool (true)) (w := .bool (((a0.fKind) == (6)))) rfl rfl beq_f rfl bif_v rfl rfl rfl) ?_
    refine asn rfl rfl ?_
    refine rt (hL _ ?_)
    refine aw_sub (st' := ⟨[(1, .c (.ptr (1, 0) 0 0)), (3, .c (.p (.v (.bool ((bif ((a0.fKind) == (2)) then true else ((a0.fKind) == (6))))))))], [((1, 0), some (.box (List.map CV.p (e_api_Query a0))))]⟩) (Sub.nm [1, 3] [((1, 0), (1, 0))] rfl rfl) ?_
    refine dk mixed (fun L hL => ?_)
    refine u0 (opL_fieldp (T := tb) rfl rfl rfl rfl rfl rfl rfl rfl rfl) ?_
    refine u0 (opL_load_box (T := tb) rfl rfl rfl rfl rfl rfl) ?_
    refine u0 (opL_cmp (c := ((a0.fKind) == (5))) rfl rfl rfl rfl rfl) ?_
    refine u0 (opL_fieldp (T := tb) rfl rfl rfl rfl rfl rfl rfl rfl rfl) ?_
    refine u0 (opL_load_box (T := tb) rfl rfl rfl rfl rfl rfl) ?_
    refine u0 (opL_cmp (c := ((a0.fKind) == (7))) rfl rfl rfl rfl rfl) ?_
    refine asn rfl rfl ?_
    refine asn rfl rfl ?_
    refine rd (hL _ ?_)
    refine sk fun L2 hL2 => ?_
    refine aw_block ?_
    refine tk fun L hL => ?_
    refine mv rfl ?_
    refine mv rfl ?_
    refine run_g rfl rfl beq_t (fun hg => opL_fieldp (T := tb) rfl rfl rfl rfl rfl rfl rfl rfl rfl) ?_
    refine run_g rfl rfl beq_t (fun hg => opL_load_box (T := tb) (gt_t hg) rfl rfl rfl rfl rfl) ?_
    obtain ⟨v3, hv3, h⟩ := h
    refine run_g rfl rfl beq_t (fun hg => opL_call0 (c_names_IsKey _ _ (hv3 hg)) rfl rfl (.cons (toA_g hg (.c (.p _))) .nil) rfl rfl rfl) ?_
    refine run_g rfl rfl beq_t (fun hg => opL_not (gt_t hg) rfl rfl) ?_
    refine u0 (opL_pick_gl (v := .bool (!(v3))) (w := .bool (false)) rfl rfl beq_t rfl bif_v rfl rfl rfl) ?_
    refine asn rfl rfl ?_
    refine rt (hL _ ?_)
    refine aw_sub (st' := ⟨[(1, .c (.ptr (1, 0) 0 0)), (3, .c (.p (.v (.bool ((bif ((a0.fKind) == (2)) then true else ((a0.fKind) == (6)))))))), (4, .c (.p (.v (.bool (((a0.fKind) == (5))))))), (5, .c (.p (.v (.bool (((a0.fKind) == (7))))))), (28, .c (.p (.v (.bool ((bif (bif ((a0.fKind) == (2)) then true else ((a0.fKind) == (6))) then !(v3) else false))))))], [((1, 0), some (.box (List.map CV.p (e_api_Query a0))))]⟩) (Sub.nm [1, 3, 4, 5, 28] [((1, 0), (1, 0))] rfl rfl) ?_
    refine cnd rfl h (fun h => ?_) fun h => ?_
    · refine tk fun L hL => ?_
      refine asn rfl rfl ?_
      refine rt (hL _ ?_)
      obtain rfl := h
      exact aw_ret (hQ _ _ ⟨.inr rfl, _, _, _, (.cons (.p rfl) .nil), (.cons (.c (.p _)) .nil), rfl, rfl⟩)
    · refine tk fun L hL => ?_
      refine mv rfl ?_
      refine mv rfl ?_
      refine run_g rfl rfl beq_t (fun hg => opL_fieldp (T := tb) rfl rfl rfl rfl rfl rfl rfl rfl rfl) ?_
      refine run_g rfl rfl beq_t (fun hg => opL_load_box (T := tb) (gt_t hg) rfl rfl rfl rfl rfl) ?_
      refine run_g rfl rfl beq_t (fun hg => opL_cmp (c := decide ((a0.fCount) < (0))) (gt_t hg) rfl rfl rfl rfl) ?_
      refine run_g rfl rfl beq_t (fun hg => opL_move_c (gt_t hg) rfl) ?_
      refine run_gn rfl rfl gand_f (fun hg => opL_fieldp (T := tb) rfl rfl rfl rfl rfl rfl rfl rfl rfl) ?_
      refine run_gn rfl rfl gand_f (fun hg => opL_load_box (T := tb) (gt_t hg) rfl rfl rfl rfl rfl) ?_
      refine run_gn rfl rfl gand_f (fun hg => opL_cmp (c := decide ((a0.fCount) > (32))) (gt_t hg) rfl rfl rfl rfl) ?_
      refine run_g rfl rfl beq_t (fun hg => opL_pick_gr (v := .bool (true)) (w := .bool (decide ((a0.fCount) > (32)))) (gt_t hg) rfl (beq_fn hg) rfl bif_v rfl rfl rfl) ?_
      refine u0 (opL_pick_gl (v := .bool ((bif decide ((a0.fCount) < (0)) then true else decide ((a0.fCount) > (32))))) (w := .bool (false)) rfl rfl beq_t rfl bif_v rfl rfl rfl) ?_
      refine asn rfl rfl ?_
      refine rt (hL _ ?_)
      refine aw_sub (st' := ⟨[(1, .c (.ptr (1, 0) 0 0)), (3, .c (.p (.v (.bool ((bif ((a0.fKind) == (2)) then true else ((a0.fKind) == (6)))))))), (4, .c (.p (.v (.bool (((a0.fKind) == (5))))))), (5, .c (.p (.v (.bool (((a0.fKind) == (7))))))), (36, .c (.p (.v (.bool ((bif ((a0.fKind) == (5)) then (bif decide ((a0.fCount) < (0)) then true else decide ((a0.fCount) > (32))) else false))))))], [((1, 0), some (.box (List.map CV.p (e_api_Query a0))))]⟩) (Sub.nm [1, 3, 4, 5, 36] [((1, 0), (1, 0))] rfl rfl) ?_
      refine cnd rfl h (fun h => ?_) fun h => ?_
      · refine tk fun L hL => ?_
        refine asn rfl rfl ?_
        refine rt (hL _ ?_)
        obtain rfl := h
        exact aw_ret (hQ _ _ ⟨.inr rfl, _, _, _, (.cons (.p rfl) .nil), (.cons (.c (.p _)) .nil), rfl, rfl⟩)
      · refine tk fun L hL => ?_
        refine mv rfl ?_
        refine mv rfl ?_
        refine run_g rfl rfl beq_t (fun hg => opL_fieldp (T := tb) rfl rfl rfl rfl rfl rfl rfl rfl rfl) ?_
        refine run_g rfl rfl beq_t (fun hg => opL_load_box (T := tb) (gt_t hg) rfl rfl rfl rfl rfl) ?_
        refine run_g rfl rfl beq_t (fun hg => opL_cmp (c := decide ((a0.fDen) < (1))) (gt_t hg) rfl rfl rfl rfl) ?_
        refine run_g rfl rfl beq_t (fun hg => opL_move_c (gt_t hg) rfl) ?_
        refine run_gn rfl rfl gand_f (fun hg => opL_fieldp (T := tb) rfl rfl rfl rfl rfl rfl rfl rfl rfl) ?_
        refine run_gn rfl rfl gand_f (fun hg => opL_load_box (T := tb) (gt_t hg) rfl rfl rfl rfl rfl) ?_
        refine run_gn rfl rfl gand_f (fun hg => opL_cmp (c := decide ((a0.fDen) > (1000000))) (gt_t hg) rfl rfl rfl rfl) ?_
        refine run_g rfl rfl beq_t (fun hg => opL_pick_gr (v := .bool (true)) (w := .bool (decide ((a0.fDen) > (1000000)))) (gt_t hg) rfl (beq_fn hg) rfl bif_v rfl rfl rfl) ?_
        refine run_g rfl rfl beq_t (fun hg => opL_move_c (gt_t hg) rfl) ?_
        refine run_gn rfl rfl gand_f (fun hg => opL_fieldp (T := tb) rfl rfl rfl rfl rfl rfl rfl rfl rfl) ?_
        refine run_gn rfl rfl gand_f (fun hg => opL_load_box (T := tb) (gt_t hg) rfl rfl rfl rfl rfl) ?_
        refine run_gn rfl rfl gand_f (fun hg => opL_cmp (c := decide ((a0.fNum) < (0))) (gt_t hg) rfl rfl rfl rfl) ?_
        refine run_g rfl rfl beq_t (fun hg => opL_pick_gr (v := .bool (true)) (w := .bool (decide ((a0.fNum) < (0)))) (gt_t hg) rfl (beq_fn hg) rfl bif_v rfl rfl rfl) ?_
        refine run_g rfl rfl beq_t (fun hg => opL_move_c (gt_t hg) rfl) ?_
        refine run_gn rfl rfl gand_f (fun hg => opL_fieldp (T := tb) rfl rfl rfl rfl rfl rfl rfl rfl rfl) ?_
        refine run_gn rfl rfl gand_f (fun hg => opL_load_box (T := tb) (gt_t hg) rfl rfl rfl rfl rfl) ?_
        refine run_gn rfl rfl gand_f (fun hg => opL_fieldp (T := tb) rfl rfl rfl rfl rfl rfl rfl rfl rfl) ?_
        refine run_gn rfl rfl gand_f (fun hg => opL_load_box (T := tb) (gt_t hg) rfl rfl rfl rfl rfl) ?_
        refine run_gn rfl rfl gand_f (fun hg => opL_cmp (c := decide ((a0.fNum) > (a0.fDen))) (gt_t hg) (gt_t hg) rfl rfl rfl) ?_
        refine run_g rfl rfl beq_t (fun hg => opL_pick_gr (v := .bool (true)) (w := .bool (decide ((a0.fNum) > (a0.fDen)))) (gt_t hg) rfl (beq_fn hg) rfl bif_v rfl rfl rfl) ?_
        refine u0 (opL_pick_gl (v := .bool ((bif (bif (bif decide ((a0.fDen) < (1)) then true else decide ((a0.fDen) > (1000000))) then true else decide ((a0.fNum) < (0))) then true else decide ((a0.fNum) > (a0.fDen))))) (w := .bool (false)) rfl rfl beq_t rfl bif_v rfl rfl rfl) ?_
        refine asn rfl rfl ?_
        refine rt (hL _ ?_)
        refine aw_sub (st' := ⟨[(1, .c (.ptr (1, 0) 0 0)), (3, .c (.p (.v (.bool ((bif ((a0.fKind) == (2)) then true else ((a0.fKind) == (6)))))))), (4, .c (.p (.v (.bool (((a0.fKind) == (5))))))), (5, .c (.p (.v (.bool (((a0.fKind) == (7))))))), (48, .c (.p (.v (.bool ((bif ((a0.fKind) == (7)) then (bif (bif (bif decide ((a0.fDen) < (1)) then true else decide ((a0.fDen) > (1000000))) then true else decide ((a0.fNum) < (0))) then true else decide ((a0.fNum) > (a0.fDen))) else false))))))], [((1, 0), some (.box (List.map CV.p (e_api_Query a0))))]⟩) (Sub.nm [1, 3, 4, 5, 48] [((1, 0), (1, 0))] rfl rfl) ?_
        refine cnd rfl h (fun h => ?_) fun h => ?_
        · refine tk fun L hL => ?_
          refine asn rfl rfl ?_
          refine rt (hL _ ?_)
          obtain rfl := h
          exact aw_ret (hQ _ _ ⟨.inr rfl, _, _, _, (.cons (.p rfl) .nil), (.cons (.c (.p _)) .nil), rfl, rfl⟩)
        · refine tk fun L hL => ?_
          refine mv rfl ?_
          refine u0 (opL_not rfl rfl rfl) ?_
          refine mv rfl ?_
          refine run_g rfl rfl beq_t (fun hg => opL_fieldp (T := tb) rfl rfl rfl rfl rfl rfl rfl rfl rfl) ?_
          refine run_g rfl rfl beq_t (fun hg => opL_load_box (T := tb) (gt_t hg) rfl rfl rfl rfl rfl) ?_
          refine run_g rfl rfl beq_t (fun hg => opL_str (c := (!((a0.fKey).toList == ((⟨#[]⟩ : ByteArray)).toList))) (gt_t hg) rfl rfl rfl rfl) ?_
          refine u0 (opL_pick_gl (v := .bool ((!((a0.fKey).toList == ((⟨#[]⟩ : ByteArray)).toList)))) (w := .bool (false)) rfl rfl beq_t rfl bif_v rfl rfl rfl) ?_
          refine mv rfl ?_
          refine run_g rfl rfl beq_f (fun hg => opL_move_c rfl rfl) ?_
          refine run_g rfl rfl beq_f (fun hg => opL_not (gt_t hg) rfl rfl) ?_
          refine run_g rfl rfl beq_f (fun hg => opL_move_c (gt_t hg) rfl) ?_
          refine run_gn rfl rfl gand_t (fun hg => opL_fieldp (T := tb) rfl rfl rfl rfl rfl rfl rfl rfl rfl) ?_
          refine run_gn rfl rfl gand_t (fun hg => opL_load_box (T := tb) (gt_t hg) rfl rfl rfl rfl rfl) ?_
          refine run_gn rfl rfl gand_t (fun hg => opL_cmp (c := ((a0.fCount) != (0))) (gt_t hg) rfl rfl rfl rfl) ?_
          refine run_g rfl rfl beq_f (fun hg => opL_pick_gl (v := .bool (((a0.fCount) != (0)))) (w := .bool (false)) (gt_t hg) rfl (beq_tn hg) rfl bif_v rfl rfl rfl) ?_
          refine u0 (opL_pick_gr (v := .bool (true)) (w := .bool ((bif !(((a0.fKind) == (5))) then ((a0.fCount) != (0)) else false))) rfl rfl beq_f rfl bif_v rfl rfl rfl) ?_
          refine mv rfl ?_
          refine run_g rfl rfl beq_f (fun hg => opL_move_c rfl rfl) ?_
          refine run_g rfl rfl beq_f (fun hg => opL_not (gt_t hg) rfl rfl) ?_
          refine run_g rfl rfl beq_f (fun hg => opL_move_c (gt_t hg) rfl) ?_
          refine run_gn rfl rfl gand_t (fun hg => opL_fieldp (T := tb) rfl rfl rfl rfl rfl rfl rfl rfl rfl) ?_
          refine run_gn rfl rfl gand_t (fun hg => opL_load_box (T := tb) (gt_t hg) rfl rfl rfl rfl rfl) ?_
          refine run_gn rfl rfl gand_t (fun hg => opL_cmp (c := ((a0.fNum) != (0))) (gt_t hg) rfl rfl rfl rfl) ?_
          refine run_gn rfl rfl gand_t (fun hg => opL_move_c (gt_t hg) rfl) ?_
          refine run_gn rfl rfl gand_f (fun hg => opL_fieldp (T := tb) rfl rfl rfl rfl rfl rfl rfl rfl rfl) ?_
          refine run_gn rfl rfl gand_f (fun hg => opL_load_box (T := tb) (gt_t hg) rfl rfl rfl rfl rfl) ?_
          refine run_gn rfl rfl gand_f (fun hg => opL_cmp (c := ((a0.fDen) != (0))) (gt_t hg) rfl rfl rfl rfl) ?_
          refine run_gn rfl rfl gand_t (fun hg => opL_pick_gr (v := .bool (true)) (w := .bool (((a0.fDen) != (0)))) (gt_t hg) rfl (beq_fn hg) rfl bif_v rfl rfl rfl) ?_
          refine run_g rfl rfl beq_f (fun hg => opL_pick_gl (v := .bool ((bif ((a0.fNum) != (0)) then true else ((a0.fDen) != (0))))) (w := .bool (false)) (gt_t hg) rfl (beq_tn hg) rfl bif_v rfl rfl rfl) ?_
          refine u0 (opL_pick_gr (v := .bool (true)) (w := .bool ((bif !(((a0.fKind) == (7))) then (bif ((a0.fNum) != (0)) then true else ((a0.fDen) != (0))) else false))) rfl rfl beq_f rfl bif_v rfl rfl rfl) ?_
          refine asn rfl rfl ?_
          refine rt (hL _ ?_)
          refine aw_sub (st' := ⟨[(72, .c (.p (.v (.bool ((bif (bif (bif !((bif ((a0.fKind) == (2)) then true else ((a0.fKind) == (6)))) then (!((a0.fKey).toList == ((⟨#[]⟩ : ByteArray)).toList)) else false) then true else (bif !(((a0.fKind) == (5))) then ((a0.fCount) != (0)) else false)) then true else (bif !(((a0.fKind) == (7))) then (bif ((a0.fNum) != (0)) then true else ((a0.fDen) != (0))) else false)))))))], []⟩) (Sub.nm [72] [] rfl rfl) ?_
          refine cnd rfl h (fun h => ?_) fun h => ?_
          · refine tk fun L hL => ?_
            refine asn rfl rfl ?_
            refine rt (hL _ ?_)
            obtain rfl := h
            exact aw_ret (hQ _ _ ⟨.inr rfl, _, _, _, (.cons (.p rfl) .nil), (.cons (.c (.p _)) .nil), rfl, rfl⟩)
          · refine aw_skip (hL2 _ ?_)
            refine tk fun L hL => ?_
            refine asn rfl rfl ?_
            refine rt (hL _ ?_)
            obtain rfl := h
            exact aw_ret (hQ _ _ ⟨.inr rfl, _, _, _, (.cons (.p rfl) .nil), (.cons (.c (.p _)) .nil), rfl, rfl⟩)
def W_operation_check (a0 : T_api_Op) (a1 : Int) (Q : Int → Prop) : Prop :=
 (((((a1) == (0))) = true → ∃ (v2 : Int), R_operation_name (a0.fName) v2 ∧ Q ((v2))) ∧ ((((a1) == (0))) = false → (((((a1) == (1))) = true → ∃ (v3 : Int), R_operation_name (a0.fOther) v3 ∧ Q ((v3))) ∧ ((((a1) == (1))) = false → (((((a1) == (2))) = true → ∃ (v4 : Int), R_operation_list (a0.fNames) v4 ∧ Q ((v4))) ∧ ((((a1) == (2))) = false → (((((a1) == (3))) = true → ∃ (v5 : Int), R_sketch_ValidateParams a0.fParams v5 ∧ Q ((v5))) ∧ ((((a1) == (3))) = false → (((((a1) == (4))) = true → ∃ (v6 : Int), R_operation_items (a0.fItems) v6 ∧ Q ((v6))) ∧ ((((a1) == (4))) = false → (((((a1) == (5))) = true → ∃ (v7 : Int), R_operation_short (a0.fCoins) (64) v7 ∧ Q ((v7))) ∧ ((((a1) == (5))) = false → (((((a1) == (6))) = true → ∃ (v8 : Int), R_operation_between (a0.fExpected) (1) (1048576) v8 ∧ Q ((v8))) ∧ ((((a1) == (6))) = false → (((((a1) == (7))) = true → ∃ (v9 : Int), R_operation_between (a0.fSource) (1) (1048576) v9 ∧ Q ((v9))) ∧ ((((a1) == (7))) = false → (((((a1) == (8))) = true → ∃ (v10 : Int), R_operation_between (a0.fHandle) (0) (3) v10 ∧ Q ((v10))) ∧ ((((a1) == (8))) = false → (((((a1) == (9))) = true → ∃ (v11 : Int), R_operation_between (a0.fIndex) (0) (15) v11 ∧ Q ((v11))) ∧ ((((a1) == (9))) = false → (((((a1) == (10))) = true → ∃ (v12 : Int), R_operation_between (a0.fCursor) (0) (3) v12 ∧ Q ((v12))) ∧ ((((a1) == (10))) = false → (((((a1) == (11))) = true → ∃ (v13 : Int), R_operation_between (a0.fCount) (0) (32) v13 ∧ Q ((v13))) ∧ ((((a1) == (11))) = false → (((((a1) == (12))) = true → ∃ (v14 : Int), R_query_Validate a0.fQuery v14 ∧ Q ((v14))) ∧ ((((a1) == (12))) = false → ∃ (v15 : Int), R_operation_short (a0.fData) (65536) v15 ∧ Q ((v15))))))))))))))))))))))))))))
def R_operation_check (a0 : T_api_Op) (a1 : Int) (r : Int) : Prop := W_operation_check a0 a1 fun x => r = x
theorem e_operation_check {a0 : T_api_Op} {a1 : Int} {Post : Int → Prop} (h : W_operation_check a0 a1 Post) : ∃ r, R_operation_check a0 a1 r ∧ Post r := (show GM (W_operation_check a0 a1) (W_operation_check a0 a1) from GM.cond (GM.ex fun v2 => GM.ret _) (GM.cond (GM.ex fun v3 => GM.ret _) (GM.cond (GM.ex fun v4 => GM.ret _) (GM.cond (GM.ex fun v5 => GM.ret _) (GM.cond (GM.ex fun v6 => GM.ret _) (GM.cond (GM.ex fun v7 => GM.ret _) (GM.cond (GM.ex fun v8 => GM.ret _) (GM.cond (GM.ex fun v9 => GM.ret _) (GM.cond (GM.ex fun v10 => GM.ret _) (GM.cond (GM.ex fun v11 => GM.ret _) (GM.cond (GM.ex fun v12 => GM.ret _) (GM.cond (GM.ex fun v13 => GM.ret _) (GM.cond (GM.ex fun v14 => GM.ret _) (GM.ex fun v15 => GM.ret _)))))))))))))) Post h
theorem c_operation_check (a0 : T_api_Op) (a1 : Int) (r : Int) (h : R_operation_check a0 a1 r) : Contract Try.prog 22 [.agg (e_api_Op a0), .c (.v (.int .i64 (a1)))] [.c (.p (.v (.int .i64 (r))))] [] := by
  refine contract0 tb Try.func22 rfl (by kernel_rfl) rfl rfl (Nat.le_of_ble_eq_true rfl) rfl ?_
  intro E
  unfold R_operation_check W_operation_check at h
  refine aw_Q (fun Q hQ => ?_)
  refine tk fun L hL => ?_
  refine u1 (opL_box_a rfl rfl) ?_
  refine asn rfl rfl ?_
  refine rt (hL _ ?_)
  refine sk fun L1 hL1 => ?_
  refine tk fun L hL => ?_
  refine mv rfl ?_
  refine rt (hL _ ?_)
  refine aw_block ?_
  refine tk fun L hL => ?_
  refine u0 (opL_cmp (c := ((a1) == (0))) rfl rfl rfl rfl rfl) ?_
  refine asn rfl rfl ?_
  refine rt (hL _ ?_)
  refine cnd rfl h (fun h => ?_) fun h => ?_
  · refine tk fun L hL => ?_
    refine u0 (opL_fieldp (T := tb) rfl rfl rfl rfl rfl rfl rfl rfl rfl) ?_
    refine u0 (opL_load_box (T := tb) rfl rfl rfl rfl rfl rfl) ?_
    obtain ⟨v2, hv2, h⟩ := h
    refine u0 (opL_call0 (c_operation_name _ _ hv2) rfl rfl (.cons (.c (.p _)) .nil) rfl rfl rfl) ?_
    refine asn rfl rfl ?_
    refine rt (hL _ ?_)
    obtain rfl := h
    exact aw_ret (hQ _ _ ⟨.inr rfl, _, _, _, (.cons (.p rfl) .nil), (.cons (.c (.p _)) .nil), rfl, rfl⟩)
  · refine tk fun L hL => ?_
    refine u0 (opL_cmp (c := ((a1) == (1))) rfl rfl rfl rfl rfl) ?_
    refine asn rfl rfl ?_
    refine rt (hL _ ?_)
    refine cnd rfl h (fun h => ?_) fun h => ?_
    · refine tk fun L hL => ?_
      refine u0 (opL_fieldp (T := tb) rfl rfl rfl rfl rfl rfl rfl rfl rfl) ?_
      refine u0 (opL_load_box (T := tb) rfl rfl rfl rfl rfl rfl) ?_
      obtain ⟨v3, hv3, h⟩ := h
      refine u0 (opL_call0 (c_operation_name _ _ hv3) rfl rfl (.cons (.c (.p _)) .nil) rfl rfl rfl) ?_
      refine asn rfl rfl ?_
      refine rt (hL _ ?_)
      obtain rfl := h
      exact aw_ret (hQ _ _ ⟨.inr rfl, _, _, _, (.cons (.p rfl) .nil), (.cons (.c (.p _)) .nil), rfl, rfl⟩)
    · refine tk fun L hL => ?_
      refine u0 (opL_cmp (c := ((a1) == (2))) rfl rfl rfl rfl rfl) ?_
      refine asn rfl rfl ?_
      refine rt (hL _ ?_)
      refine cnd rfl h (fun h => ?_) fun h => ?_
      · refine tk fun L hL => ?_
        refine u0 (opL_fieldp (T := tb) rfl rfl rfl rfl rfl rfl rfl rfl rfl) ?_
        refine u0 (opL_load_box (T := tb) rfl rfl rfl rfl rfl rfl) ?_
        obtain ⟨v4, hv4, h⟩ := h
        refine u0 (opL_call0 (c_operation_list _ _ hv4) rfl rfl (.cons (.c (.p _)) .nil) rfl rfl rfl) ?_
        refine asn rfl rfl ?_
        refine rt (hL _ ?_)
        obtain rfl := h
        exact aw_ret (hQ _ _ ⟨.inr rfl, _, _, _, (.cons (.p rfl) .nil), (.cons (.c (.p _)) .nil), rfl, rfl⟩)
      · refine tk fun L hL => ?_
        refine u0 (opL_cmp (c := ((a1) == (3))) rfl rfl rfl rfl rfl) ?_
        refine asn rfl rfl ?_
        refine rt (hL _ ?_)
        refine cnd rfl h (fun h => ?_) fun h => ?_
        · refine tk fun L hL => ?_
          refine u0 (opL_fieldp (T := tb) rfl rfl rfl rfl rfl rfl rfl rfl rfl) ?_
          refine u0 (opL_loads_box (T := tb) rfl rfl rfl rfl rfl rfl rfl) ?_
          obtain ⟨v5, hv5, h⟩ := h
          refine u0 (opL_call0 (c_sketch_ValidateParams _ _ hv5) rfl rfl (.cons (.agg (.cons (.p _) (.cons (.p _) (.cons (.p _) (.cons (.p _) .nil))))) .nil) rfl rfl rfl) ?_
          refine asn rfl rfl ?_
          refine rt (hL _ ?_)
          obtain rfl := h
          exact aw_ret (hQ _ _ ⟨.inr rfl, _, _, _, (.cons (.p rfl) .nil), (.cons (.c (.p _)) .nil), rfl, rfl⟩)
        · refine tk fun L hL => ?_
          refine u0 (opL_cmp (c := ((a1) == (4))) rfl rfl rfl rfl rfl) ?_
          refine asn rfl rfl ?_
          refine rt (hL _ ?_)
          refine cnd rfl h (fun h => ?_) fun h => ?_
          · refine tk fun L hL => ?_
            refine u0 (opL_fieldp (T := tb) rfl rfl rfl rfl rfl rfl rfl rfl rfl) ?_
            refine u0 (opL_load_box (T := tb) rfl rfl rfl rfl rfl rfl) ?_
            obtain ⟨v6, hv6, h⟩ := h
            refine u0 (opL_call0 (c_operation_items _ _ hv6) rfl rfl (.cons (.c (.p _)) .nil) rfl rfl rfl) ?_
            refine asn rfl rfl ?_
            refine rt (hL _ ?_)
            obtain rfl := h
            exact aw_ret (hQ _ _ ⟨.inr rfl, _, _, _, (.cons (.p rfl) .nil), (.cons (.c (.p _)) .nil), rfl, rfl⟩)
          · refine tk fun L hL => ?_
            refine u0 (opL_cmp (c := ((a1) == (5))) rfl rfl rfl rfl rfl) ?_
            refine asn rfl rfl ?_
            refine rt (hL _ ?_)
            refine cnd rfl h (fun h => ?_) fun h => ?_
            · refine tk fun L hL => ?_
              refine u0 (opL_fieldp (T := tb) rfl rfl rfl rfl rfl rfl rfl rfl rfl) ?_
              refine u0 (opL_load_box (T := tb) rfl rfl rfl rfl rfl rfl) ?_
              obtain ⟨v7, hv7, h⟩ := h
              refine u0 (opL_call0 (c_operation_short _ _ _ hv7) rfl rfl (.cons (.c (.p _)) (.cons (.c (.p _)) .nil)) rfl rfl rfl) ?_
              refine asn rfl rfl ?_
              refine rt (hL _ ?_)
              obtain rfl := h
              exact aw_ret (hQ _ _ ⟨.inr rfl, _, _, _, (.cons (.p rfl) .nil), (.cons (.c (.p _)) .nil), rfl, rfl⟩)
            · refine tk fun L hL => ?_
              refine u0 (opL_cmp (c := ((a1) == (6))) rfl rfl rfl rfl rfl) ?_
              refine asn rfl rfl ?_
              refine rt (hL _ ?_)
              refine cnd rfl h (fun h => ?_) fun h => ?_
              · refine tk fun L hL => ?_
                refine u0 (opL_fieldp (T := tb) rfl rfl rfl rfl rfl rfl rfl rfl rfl) ?_
                refine u0 (opL_load_box (T := tb) rfl rfl rfl rfl rfl rfl) ?_
                obtain ⟨v8, hv8, h⟩ := h
                refine u0 (opL_call0 (c_operation_between _ _ _ _ hv8) rfl rfl (.cons (.c (.p _)) (.cons (.c (.p _)) (.cons (.c (.p _)) .nil))) rfl rfl rfl) ?_
                refine asn rfl rfl ?_
                refine rt (hL _ ?_)
                obtain rfl := h
                exact aw_ret (hQ _ _ ⟨.inr rfl, _, _, _, (.cons (.p rfl) .nil), (.cons (.c (.p _)) .nil), rfl, rfl⟩)
              · refine tk fun L hL => ?_
                refine u0 (opL_cmp (c := ((a1) == (7))) rfl rfl rfl rfl rfl) ?_
                refine asn rfl rfl ?_
                refine rt (hL _ ?_)
                refine cnd rfl h (fun h => ?_) fun h => ?_
                · refine tk fun L hL => ?_
                  refine u0 (opL_fieldp (T := tb) rfl rfl rfl rfl rfl rfl rfl rfl rfl) ?_
                  refine u0 (opL_load_box (T := tb) rfl rfl rfl rfl rfl rfl) ?_
                  obtain ⟨v9, hv9, h⟩ := h
                  refine u0 (opL_call0 (c_operation_between _ _ _ _ hv9) rfl rfl (.cons (.c (.p _)) (.cons (.c (.p _)) (.cons (.c (.p _)) .nil))) rfl rfl rfl) ?_
                  refine asn rfl rfl ?_
                  refine rt (hL _ ?_)
                  obtain rfl := h
                  exact aw_ret (hQ _ _ ⟨.inr rfl, _, _, _, (.cons (.p rfl) .nil), (.cons (.c (.p _)) .nil), rfl, rfl⟩)
                · refine tk fun L hL => ?_
                  refine u0 (opL_cmp (c := ((a1) == (8))) rfl rfl rfl rfl rfl) ?_
                  refine asn rfl rfl ?_
                  refine rt (hL _ ?_)
                  refine cnd rfl h (fun h => ?_) fun h => ?_
                  · refine tk fun L hL => ?_
                    refine u0 (opL_fieldp (T := tb) rfl rfl rfl rfl rfl rfl rfl rfl rfl) ?_
                    refine u0 (opL_load_box (T := tb) rfl rfl rfl rfl rfl rfl) ?_
                    obtain ⟨v10, hv10, h⟩ := h
                    refine u0 (opL_call0 (c_operation_between _ _ _ _ hv10) rfl rfl (.cons (.c (.p _)) (.cons (.c (.p _)) (.cons (.c (.p _)) .nil))) rfl rfl rfl) ?_
                    refine asn rfl rfl ?_
                    refine rt (hL _ ?_)
                    refine aw_sub (st' := ⟨[(4, .c (.p (.v (.int .i64 (v10)))))], []⟩) (Sub.nm [4] [] rfl rfl) ?_
                    obtain rfl := h
                    exact aw_ret (hQ _ _ ⟨.inr rfl, _, _, _, (.cons (.p rfl) .nil), (.cons (.c (.p _)) .nil), rfl, rfl⟩)
                  · refine tk fun L hL => ?_
                    refine u0 (opL_cmp (c := ((a1) == (9))) rfl rfl rfl rfl rfl) ?_
                    refine asn rfl rfl ?_
                    refine rt (hL _ ?_)
                    refine cnd rfl h (fun h => ?_) fun h => ?_
                    · refine tk fun L hL => ?_
                      refine u0 (opL_fieldp (T := tb) rfl rfl rfl rfl rfl rfl rfl rfl rfl) ?_
                      refine u0 (opL_load_box (T := tb) rfl rfl rfl rfl rfl rfl) ?_
                      obtain ⟨v11, hv11, h⟩ := h
                      refine u0 (opL_call0 (c_operation_between _ _ _ _ hv11) rfl rfl (.cons (.c (.p _)) (.cons (.c (.p _)) (.cons (.c (.p _)) .nil))) rfl rfl rfl) ?_
                      refine asn rfl rfl ?_
                      refine rt (hL _ ?_)
                      refine aw_sub (st' := ⟨[(4, .c (.p (.v (.int .i64 (v11)))))], []⟩) (Sub.nm [4] [] rfl rfl) ?_
                      obtain rfl := h
                      exact aw_ret (hQ _ _ ⟨.inr rfl, _, _, _, (.cons (.p rfl) .nil), (.cons (.c (.p _)) .nil), rfl, rfl⟩)
                    · refine tk fun L hL => ?_
                      refine u0 (opL_cmp (c := ((a1) == (10))) rfl rfl rfl rfl rfl) ?_
                      refine asn rfl rfl ?_
                      refine rt (hL _ ?_)
                      refine aw_sub (st' := ⟨[(2, .c (.ptr (2, 0) 0 0)), (5, .c (.p (.v (.int .i64 (a1))))), (56, .c (.p (.v (.bool (((a1) == (10)))))))], [((2, 0), some (.box (List.map CV.p (e_api_Op a0))))]⟩) (Sub.nm [2, 5, 56] [((2, 0), (2, 0))] rfl rfl) ?_
                      refine cnd rfl h (fun h => ?_) fun h => ?_
                      · refine tk fun L hL => ?_
                        refine u0 (opL_fieldp (T := tb) rfl rfl rfl rfl rfl rfl rfl rfl rfl) ?_
                        refine u0 (opL_load_box (T := tb) rfl rfl rfl rfl rfl rfl) ?_
                        obtain ⟨v12, hv12, h⟩ := h
                        refine u0 (opL_call0 (c_operation_between _ _ _ _ hv12) rfl rfl (.cons (.c (.p _)) (.cons (.c (.p _)) (.cons (.c (.p _)) .nil))) rfl rfl rfl) ?_
                        refine asn rfl rfl ?_
                        refine rt (hL _ ?_)
                        obtain rfl := h
                        exact aw_ret (hQ _ _ ⟨.inr rfl, _, _, _, (.cons (.p rfl) .nil), (.cons (.c (.p _)) .nil), rfl, rfl⟩)
                      · refine tk fun L hL => ?_
                        refine u0 (opL_cmp (c := ((a1) == (11))) rfl rfl rfl rfl rfl) ?_
                        refine asn rfl rfl ?_
                        refine rt (hL _ ?_)
                        refine cnd rfl h (fun h => ?_) fun h => ?_
                        · refine tk fun L hL => ?_
                          refine u0 (opL_fieldp (T := tb) rfl rfl rfl rfl rfl rfl rfl rfl rfl) ?_
                          refine u0 (opL_load_box (T := tb) rfl rfl rfl rfl rfl rfl) ?_
                          obtain ⟨v13, hv13, h⟩ := h
                          refine u0 (opL_call0 (c_operation_between _ _ _ _ hv13) rfl rfl (.cons (.c (.p _)) (.cons (.c (.p _)) (.cons (.c (.p _)) .nil))) rfl rfl rfl) ?_
                          refine asn rfl rfl ?_
                          refine rt (hL _ ?_)
                          obtain rfl := h
                          exact aw_ret (hQ _ _ ⟨.inr rfl, _, _, _, (.cons (.p rfl) .nil), (.cons (.c (.p _)) .nil), rfl, rfl⟩)
                        · refine tk fun L hL => ?_
                          refine u0 (opL_cmp (c := ((a1) == (12))) rfl rfl rfl rfl rfl) ?_
                          refine asn rfl rfl ?_
                          refine rt (hL _ ?_)
                          refine cnd rfl h (fun h => ?_) fun h => ?_
                          · refine tk fun L hL => ?_
                            refine u0 (opL_fieldp (T := tb) rfl rfl rfl rfl rfl rfl rfl rfl rfl) ?_
                            refine u0 (opL_loads_box (T := tb) rfl rfl rfl rfl rfl rfl rfl) ?_
                            obtain ⟨v14, hv14, h⟩ := h
                            refine u0 (opL_call0 (c_query_Validate _ _ hv14) rfl rfl (.cons (.agg (.cons (.p _) (.cons (.p _) (.cons (.p _) (.cons (.p _) (.cons (.p _) .nil)))))) .nil) rfl rfl rfl) ?_
                            refine asn rfl rfl ?_
                            refine rt (hL _ ?_)
                            obtain rfl := h
                            exact aw_ret (hQ _ _ ⟨.inr rfl, _, _, _, (.cons (.p rfl) .nil), (.cons (.c (.p _)) .nil), rfl, rfl⟩)
                          · refine aw_skip (hL1 _ ?_)
                            refine tk fun L hL => ?_
                            refine u0 (opL_fieldp (T := tb) rfl rfl rfl rfl rfl rfl rfl rfl rfl) ?_
                            refine u0 (opL_load_box (T := tb) rfl rfl rfl rfl rfl rfl) ?_
                            obtain ⟨v15, hv15, h⟩ := h
                            refine u0 (opL_call0 (c_operation_short _ _ _ hv15) rfl rfl (.cons (.c (.p _)) (.cons (.c (.p _)) .nil)) rfl rfl rfl) ?_
                            refine asn rfl rfl ?_
                            refine rt (hL _ ?_)
                            obtain rfl := h
                            exact aw_ret (hQ _ _ ⟨.inr rfl, _, _, _, (.cons (.p rfl) .nil), (.cons (.c (.p _)) .nil), rfl, rfl⟩)
def W_operation_zero (a0 : T_api_Op) (a1 : Int) (Q : Bool → Prop) : Prop :=
 (((((a1) == (0))) = true → Q ((((a0.fName).toList == ((⟨#[]⟩ : ByteArray)).toList)))) ∧ ((((a1) == (0))) = false → (((((a1) == (1))) = true → Q ((((a0.fOther).toList == ((⟨#[]⟩ : ByteArray)).toList)))) ∧ ((((a1) == (1))) = false → (((((a1) == (2))) = true → Q ((((((a0.fNames).length : Int)) == (0))))) ∧ ((((a1) == (2))) = false → (((((a1) == (3))) = true → Q (((((a0.fParams.fKind) == (0)) && (((a0.fParams.fSize) == (0)) && (((a0.fParams.fDepth) == (0)) && (((a0.fParams.fSeed) == (0)) && true))))))) ∧ ((((a1) == (3))) = false → (((((a1) == (4))) = true → Q ((((((a0.fItems).length : Int)) == (0))))) ∧ ((((a1) == (4))) = false → (((((a1) == (5))) = true → Q ((((((a0.fCoins).length : Int)) == (0))))) ∧ ((((a1) == (5))) = false → (((((a1) == (6))) = true → Q ((((a0.fExpected) == (0))))) ∧ ((((a1) == (6))) = false → (((((a1) == (7))) = true → Q ((((a0.fSource) == (0))))) ∧ ((((a1) == (7))) = false → (((((a1) == (8))) = true → Q ((((a0.fHandle) == (0))))) ∧ ((((a1) == (8))) = false → (((((a1) == (9))) = true → Q ((((a0.fIndex) == (0))))) ∧ ((((a1) == (9))) = false → (((((a1) == (10))) = true → Q ((((a0.fCursor) == (0))))) ∧ ((((a1) == (10))) = false → (((((a1) == (11))) = true → Q ((((a0.fCount) == (0))))) ∧ ((((a1) == (11))) = false → (((((a1) == (12))) = true → Q (((((a0.fQuery.fKind) == (0)) && (((a0.fQuery.fKey).toList == (ByteArray.empty).toList) && (((a0.fQuery.fCount) == (0)) && (((a0.fQuery.fNum) == (0)) && (((a0.fQuery.fDen) == (0)) && true)))))))) ∧ ((((a1) == (12))) = false → Q ((((((a0.fData).length : Int)) == (0))))))))))))))))))))))))))))))
def R_operation_zero (a0 : T_api_Op) (a1 : Int) (r : Bool) : Prop := W_operation_zero a0 a1 fun x => r = x
theorem e_operation_zero {a0 : T_api_Op} {a1 : Int} {Post : Bool → Prop} (h : W_operation_zero a0 a1 Post) : ∃ r, R_operation_zero a0 a1 r ∧ Post r := (show GM (W_operation_zero a0 a1) (W_operation_zero a0 a1) from GM.cond (GM.ret _) (GM.cond (GM.ret _) (GM.cond (GM.ret _) (GM.cond (GM.ret _) (GM.cond (GM.ret _) (GM.cond (GM.ret _) (GM.cond (GM.ret _) (GM.cond (GM.ret _) (GM.cond (GM.ret _) (GM.cond (GM.ret _) (GM.cond (GM.ret _) (GM.cond (GM.ret _) (GM.cond (GM.ret _) (GM.ret _)))))))))))))) Post h
theorem c_operation_zero (a0 : T_api_Op) (a1 : Int) (r : Bool) (h : R_operation_zero a0 a1 r) : Contract Try.prog 23 [.agg (e_api_Op a0), .c (.v (.int .i64 (a1)))] [.c (.p (.v (.bool (r))))] [] := by
  refine contract0 tb Try.func23 rfl (by kernel_rfl) rfl rfl (Nat.le_of_ble_eq_true rfl) rfl ?_
  intro E
  unfold R_operation_zero W_operation_zero at h
  refine aw_Q (fun Q hQ => ?_)
  refine tk fun L hL => ?_
  refine u1 (opL_box_a rfl rfl) ?_
  refine asn rfl rfl ?_
  refine rt (hL _ ?_)
  refine sk fun L1 hL1 => ?_
  refine tk fun L hL => ?_
  refine mv rfl ?_
  refine rt (hL _ ?_)
  refine aw_block ?_
  refine tk fun L hL => ?_
  refine u0 (opL_cmp (c := ((a1) == (0))) rfl rfl rfl rfl rfl) ?_
  refine asn rfl rfl ?_
  refine rt (hL _ ?_)
  refine cnd rfl h (fun h => ?_) fun h => ?_
  · refine tk fun L hL => ?_
    refine u0 (opL_fieldp (T := tb) rfl rfl rfl rfl rfl rfl rfl rfl rfl) ?_
    refine u0 (opL_load_box (T := tb) rfl rfl rfl rfl rfl rfl) ?_
    refine u0 (opL_str (c := ((a0.fName).toList == ((⟨#[]⟩ : ByteArray)).toList)) rfl rfl rfl rfl rfl) ?_
    refine asn rfl rfl ?_
    refine rt (hL _ ?_)
    obtain rfl := h
    exact aw_ret (hQ _ _ ⟨.inr rfl, _, _, _, (.cons (.p rfl) .nil), (.cons (.c (.p _)) .nil), rfl, rfl⟩)
  · refine tk fun L hL => ?_
    refine u0 (opL_cmp (c := ((a1) == (1))) rfl rfl rfl rfl rfl) ?_
    refine asn rfl rfl ?_
    refine rt (hL _ ?_)
    refine cnd rfl h (fun h => ?_) fun h => ?_
    · refine tk fun L hL => ?_
      refine u0 (opL_fieldp (T := tb) rfl rfl rfl rfl rfl rfl rfl rfl rfl) ?_
      refine u0 (opL_load_box (T := tb) rfl rfl rfl rfl rfl rfl) ?_
      refine u0 (opL_str (c := ((a0.fOther).toList == ((⟨#[]⟩ : ByteArray)).toList)) rfl rfl rfl rfl rfl) ?_
      refine asn rfl rfl ?_
      refine rt (hL _ ?_)
      obtain rfl := h
      exact aw_ret (hQ _ _ ⟨.inr rfl, _, _, _, (.cons (.p rfl) .nil), (.cons (.c (.p _)) .nil), rfl, rfl⟩)
    · refine tk fun L hL => ?_
      refine u0 (opL_cmp (c := ((a1) == (2))) rfl rfl rfl rfl rfl) ?_
      refine asn rfl rfl ?_
      refine rt (hL _ ?_)
      refine cnd rfl h (fun h => ?_) fun h => ?_
      · refine tk fun L hL => ?_
        refine u0 (opL_fieldp (T := tb) rfl rfl rfl rfl rfl rfl rfl rfl rfl) ?_
        refine u0 (opL_load_box (T := tb) rfl rfl rfl rfl rfl rfl) ?_
        refine u0 (o_len_l (T := tb) rfl rfl rfl rfl) ?_
        refine u0 (opL_cmp (c := ((((a0.fNames).length : Int)) == (0))) rfl rfl rfl rfl rfl) ?_
        refine asn rfl rfl ?_
        refine rt (hL _ ?_)
        obtain rfl := h
        exact aw_ret (hQ _ _ ⟨.inr rfl, _, _, _, (.cons (.p rfl) .nil), (.cons (.c (.p _)) .nil), rfl, rfl⟩)
      · refine tk fun L hL => ?_
        refine u0 (opL_cmp (c := ((a1) == (3))) rfl rfl rfl rfl rfl) ?_
        refine asn rfl rfl ?_
        refine rt (hL _ ?_)
        refine cnd rfl h (fun h => ?_) fun h => ?_
        · refine tk fun L hL => ?_
          refine u0 (opL_fieldp (T := tb) rfl rfl rfl rfl rfl rfl rfl rfl rfl) ?_
          refine u0 (opL_loads_box (T := tb) rfl rfl rfl rfl rfl rfl rfl) ?_
          refine u0 (opL_build_s (T := tb) rfl rfl rfl rfl rfl rfl rfl) ?_
          refine u0 (o_eqls (us := [.int .i64 (a0.fParams.fKind), .int .i64 (a0.fParams.fSize), .int .i64 (a0.fParams.fDepth), .int .u64 (a0.fParams.fSeed)]) (vs := [.int .i64 (0), .int .i64 (0), .int .i64 (0), .int .u64 (0)]) (c := (((a0.fParams.fKind) == (0)) && (((a0.fParams.fSize) == (0)) && (((a0.fParams.fDepth) == (0)) && (((a0.fParams.fSeed) == (0)) && true))))) rfl rfl (by kernel_rfl) rfl rfl rfl rfl rfl rfl) ?_
          refine asn rfl rfl ?_
          refine rt (hL _ ?_)
          obtain rfl := h
          exact aw_ret (hQ _ _ ⟨.inr rfl, _, _, _, (.cons (.p rfl) .nil), (.cons (.c (.p _)) .nil), rfl, rfl⟩)
        · refine tk fun L hL => ?_
          refine u0 (opL_cmp (c := ((a1) == (4))) rfl rfl rfl rfl rfl) ?_
          refine asn rfl rfl ?_
          refine rt (hL _ ?_)
          refine cnd rfl h (fun h => ?_) fun h => ?_
          · refine tk fun L hL => ?_
            refine u0 (opL_fieldp (T := tb) rfl rfl rfl rfl rfl rfl rfl rfl rfl) ?_
            refine u0 (opL_load_box (T := tb) rfl rfl rfl rfl rfl rfl) ?_
            refine u0 (o_len_l (T := tb) rfl rfl rfl rfl) ?_
            refine u0 (opL_cmp (c := ((((a0.fItems).length : Int)) == (0))) rfl rfl rfl rfl rfl) ?_
            refine asn rfl rfl ?_
            refine rt (hL _ ?_)
            obtain rfl := h
            exact aw_ret (hQ _ _ ⟨.inr rfl, _, _, _, (.cons (.p rfl) .nil), (.cons (.c (.p _)) .nil), rfl, rfl⟩)
          · refine tk fun L hL => ?_
            refine u0 (opL_cmp (c := ((a1) == (5))) rfl rfl rfl rfl rfl) ?_
            refine asn rfl rfl ?_
            refine rt (hL _ ?_)
            refine cnd rfl h (fun h => ?_) fun h => ?_
            · refine tk fun L hL => ?_
              refine u0 (opL_fieldp (T := tb) rfl rfl rfl rfl rfl rfl rfl rfl rfl) ?_
              refine u0 (opL_load_box (T := tb) rfl rfl rfl rfl rfl rfl) ?_
              refine u0 (o_len_l (T := tb) rfl rfl rfl rfl) ?_
              refine u0 (opL_cmp (c := ((((a0.fCoins).length : Int)) == (0))) rfl rfl rfl rfl rfl) ?_
              refine asn rfl rfl ?_
              refine rt (hL _ ?_)
              obtain rfl := h
              exact aw_ret (hQ _ _ ⟨.inr rfl, _, _, _, (.cons (.p rfl) .nil), (.cons (.c (.p _)) .nil), rfl, rfl⟩)
            · refine tk fun L hL => ?_
              refine u0 (opL_cmp (c := ((a1) == (6))) rfl rfl rfl rfl rfl) ?_
              refine asn rfl rfl ?_
              refine rt (hL _ ?_)
              refine cnd rfl h (fun h => ?_) fun h => ?_
              · refine tk fun L hL => ?_
                refine u0 (opL_fieldp (T := tb) rfl rfl rfl rfl rfl rfl rfl rfl rfl) ?_
                refine u0 (opL_load_box (T := tb) rfl rfl rfl rfl rfl rfl) ?_
                refine u0 (opL_cmp (c := ((a0.fExpected) == (0))) rfl rfl rfl rfl rfl) ?_
                refine asn rfl rfl ?_
                refine rt (hL _ ?_)
                obtain rfl := h
                exact aw_ret (hQ _ _ ⟨.inr rfl, _, _, _, (.cons (.p rfl) .nil), (.cons (.c (.p _)) .nil), rfl, rfl⟩)
              · refine tk fun L hL => ?_
                refine u0 (opL_cmp (c := ((a1) == (7))) rfl rfl rfl rfl rfl) ?_
                refine asn rfl rfl ?_
                refine rt (hL _ ?_)
                refine cnd rfl h (fun h => ?_) fun h => ?_
                · refine tk fun L hL => ?_
                  refine u0 (opL_fieldp (T := tb) rfl rfl rfl rfl rfl rfl rfl rfl rfl) ?_
                  refine u0 (opL_load_box (T := tb) rfl rfl rfl rfl rfl rfl) ?_
                  refine u0 (opL_cmp (c := ((a0.fSource) == (0))) rfl rfl rfl rfl rfl) ?_
                  refine asn rfl rfl ?_
                  refine rt (hL _ ?_)
                  obtain rfl := h
                  exact aw_ret (hQ _ _ ⟨.inr rfl, _, _, _, (.cons (.p rfl) .nil), (.cons (.c (.p _)) .nil), rfl, rfl⟩)
                · refine tk fun L hL => ?_
                  refine u0 (opL_cmp (c := ((a1) == (8))) rfl rfl rfl rfl rfl) ?_
                  refine asn rfl rfl ?_
                  refine rt (hL _ ?_)
                  refine cnd rfl h (fun h => ?_) fun h => ?_
                  · refine tk fun L hL => ?_
                    refine u0 (opL_fieldp (T := tb) rfl rfl rfl rfl rfl rfl rfl rfl rfl) ?_
                    refine u0 (opL_load_box (T := tb) rfl rfl rfl rfl rfl rfl) ?_
                    refine u0 (opL_cmp (c := ((a0.fHandle) == (0))) rfl rfl rfl rfl rfl) ?_
                    refine asn rfl rfl ?_
                    refine rt (hL _ ?_)
                    refine aw_sub (st' := ⟨[(4, .c (.p (.v (.bool (((a0.fHandle) == (0)))))))], []⟩) (Sub.nm [4] [] rfl rfl) ?_
                    obtain rfl := h
                    exact aw_ret (hQ _ _ ⟨.inr rfl, _, _, _, (.cons (.p rfl) .nil), (.cons (.c (.p _)) .nil), rfl, rfl⟩)
                  · refine tk fun L hL => ?_
                    refine u0 (opL_cmp (c := ((a1) == (9))) rfl rfl rfl rfl rfl) ?_
                    refine asn rfl rfl ?_
                    refine rt (hL _ ?_)
                    refine cnd rfl h (fun h => ?_) fun h => ?_
                    · refine tk fun L hL => ?_
                      refine u0 (opL_fieldp (T := tb) rfl rfl rfl rfl rfl rfl rfl rfl rfl) ?_
                      refine u0 (opL_load_box (T := tb) rfl rfl rfl rfl rfl rfl) ?_
                      refine u0 (opL_cmp (c := ((a0.fIndex) == (0))) rfl rfl rfl rfl rfl) ?_
                      refine asn rfl rfl ?_
                      refine rt (hL _ ?_)
                      refine aw_sub (st' := ⟨[(4, .c (.p (.v (.bool (((a0.fIndex) == (0)))))))], []⟩) (Sub.nm [4] [] rfl rfl) ?_
                      obtain rfl := h
                      exact aw_ret (hQ _ _ ⟨.inr rfl, _, _, _, (.cons (.p rfl) .nil), (.cons (.c (.p _)) .nil), rfl, rfl⟩)
                    · refine tk fun L hL => ?_
                      refine u0 (opL_cmp (c := ((a1) == (10))) rfl rfl rfl rfl rfl) ?_
                      refine asn rfl rfl ?_
                      refine rt (hL _ ?_)
                      refine aw_sub (st' := ⟨[(2, .c (.ptr (2, 0) 0 0)), (5, .c (.p (.v (.int .i64 (a1))))), (60, .c (.p (.v (.bool (((a1) == (10)))))))], [((2, 0), some (.box (List.map CV.p (e_api_Op a0))))]⟩) (Sub.nm [2, 5, 60] [((2, 0), (2, 0))] rfl rfl) ?_
                      refine cnd rfl h (fun h => ?_) fun h => ?_
                      · refine tk fun L hL => ?_
                        refine u0 (opL_fieldp (T := tb) rfl rfl rfl rfl rfl rfl rfl rfl rfl) ?_
                        refine u0 (opL_load_box (T := tb) rfl rfl rfl rfl rfl rfl) ?_
                        refine u0 (opL_cmp (c := ((a0.fCursor) == (0))) rfl rfl rfl rfl rfl) ?_
                        refine asn rfl rfl ?_
                        refine rt (hL _ ?_)
                        obtain rfl := h
                        exact aw_ret (hQ _ _ ⟨.inr rfl, _, _, _, (.cons (.p rfl) .nil), (.cons (.c (.p _)) .nil), rfl, rfl⟩)
                      · refine tk fun L hL => ?_
                        refine u0 (opL_cmp (c := ((a1) == (11))) rfl rfl rfl rfl rfl) ?_
                        refine asn rfl rfl ?_
                        refine rt (hL _ ?_)
                        refine cnd rfl h (fun h => ?_) fun h => ?_
                        · refine tk fun L hL => ?_
                          refine u0 (opL_fieldp (T := tb) rfl rfl rfl rfl rfl rfl rfl rfl rfl) ?_
                          refine u0 (opL_load_box (T := tb) rfl rfl rfl rfl rfl rfl) ?_
                          refine u0 (opL_cmp (c := ((a0.fCount) == (0))) rfl rfl rfl rfl rfl) ?_
                          refine asn rfl rfl ?_
                          refine rt (hL _ ?_)
                          obtain rfl := h
                          exact aw_ret (hQ _ _ ⟨.inr rfl, _, _, _, (.cons (.p rfl) .nil), (.cons (.c (.p _)) .nil), rfl, rfl⟩)
                        · refine tk fun L hL => ?_
                          refine u0 (opL_cmp (c := ((a1) == (12))) rfl rfl rfl rfl rfl) ?_
                          refine asn rfl rfl ?_
                          refine rt (hL _ ?_)
                          refine cnd rfl h (fun h => ?_) fun h => ?_
                          · refine tk fun L hL => ?_
                            refine u0 (opL_fieldp (T := tb) rfl rfl rfl rfl rfl rfl rfl rfl rfl) ?_
                            refine u0 (opL_loads_box (T := tb) rfl rfl rfl rfl rfl rfl rfl) ?_
                            refine u0 (opL_build_s (T := tb) rfl rfl rfl rfl rfl rfl rfl) ?_
                            refine u0 (o_eqls (us := [.int .i64 (a0.fQuery.fKind), .string (a0.fQuery.fKey), .int .i64 (a0.fQuery.fCount), .int .i64 (a0.fQuery.fNum), .int .i64 (a0.fQuery.fDen)]) (vs := [.int .i64 (0), .string (ByteArray.empty), .int .i64 (0), .int .i64 (0), .int .i64 (0)]) (c := (((a0.fQuery.fKind) == (0)) && (((a0.fQuery.fKey).toList == (ByteArray.empty).toList) && (((a0.fQuery.fCount) == (0)) && (((a0.fQuery.fNum) == (0)) && (((a0.fQuery.fDen) == (0)) && true)))))) rfl rfl (by kernel_rfl) rfl rfl rfl rfl rfl rfl) ?_
                            refine asn rfl rfl ?_
                            refine rt (hL _ ?_)
                            obtain rfl := h
                            exact aw_ret (hQ _ _ ⟨.inr rfl, _, _, _, (.cons (.p rfl) .nil), (.cons (.c (.p _)) .nil), rfl, rfl⟩)
                          · refine aw_skip (hL1 _ ?_)
                            refine tk fun L hL => ?_
                            refine u0 (opL_fieldp (T := tb) rfl rfl rfl rfl rfl rfl rfl rfl rfl) ?_
                            refine u0 (opL_load_box (T := tb) rfl rfl rfl rfl rfl rfl) ?_
                            refine u0 (o_len_l (T := tb) rfl rfl rfl rfl) ?_
                            refine u0 (opL_cmp (c := ((((a0.fData).length : Int)) == (0))) rfl rfl rfl rfl rfl) ?_
                            refine asn rfl rfl ?_
                            refine rt (hL _ ?_)
                            obtain rfl := h
                            exact aw_ret (hQ _ _ ⟨.inr rfl, _, _, _, (.cons (.p rfl) .nil), (.cons (.c (.p _)) .nil), rfl, rfl⟩)
end Go.Proofs.Ythlaenafkihjiaa
/- The printed texts that Validate needs. -/
/- A block of cells that may be written: what it holds, and how it is kept. No condition. -/
namespace Go.Proofs.Ythlaenafkihjiaa
open Go.RowKit
set_option linter.unusedVariables false
set_option linter.unusedSimpArgs false
/-- The block b holds the cells cs. -/
def Blk (b : Nat) (cs : Array Value) (t : TypeId) (w : World) : Prop := w.heap[b]? = some (.cells cs t (0, 0))
theorem Blk.lt {b : Nat} {cs : Array Value} {t : TypeId} {w : World} (h : Blk b cs t w) : b < w.heap.size := by
  unfold Blk at h
  exact (Array.getElem?_eq_some_iff.mp h).1
theorem Blk.cell {b : Nat} {cs : Array Value} {t : TypeId} {w : World} (h : Blk b cs t w) (i : Nat) {v : Value} (hi : cs[i]? = some v) : w.cell? ⟨b, i, none⟩ = some v := by
  unfold Blk at h
  simp [World.cell?, h, hi]
theorem Blk.froz {b : Nat} {cs : Array Value} {t : TypeId} {w : World} (h : Blk b cs t w) (i : Nat) : w.frozen? ⟨b, i, none⟩ = false := by
  unfold Blk at h
  simp [World.frozen?, h]
theorem Blk.keep {b : Nat} {cs : Array Value} {t : TypeId} {w w' : World} (h : Blk b cs t w) (g : w.grownBy w' none) : Blk b cs t w' := by
  have := g.block b h.lt (by simp)
  unfold Blk at *
  rw [this]; exact h
theorem Blk.rdr {b R : Nat} {cs : Array Value} {t : TypeId} {w w' : World} (h : Blk b cs t w) (g : w.grownBy w' (some R)) (hne : b ≠ R) : Blk b cs t w' := by
  have := g.block b h.lt (by simp; omega)
  unfold Blk at *
  rw [this]; exact h
theorem Blk.new (w : World) (cs : Array Value) (t : TypeId) : Blk w.heap.size cs t (w.alloc (.cells cs t)) := by
  unfold Blk
  show (w.heap.push (.cells cs t))[w.heap.size]? = _
  simp
theorem Blk.newAt (w : World) (n : Nat) (cs : Array Value) (t : TypeId) (h : w.heap.size = n) : Blk n cs t (w.alloc (.cells cs t)) := by
  subst h; exact Blk.new w cs t
theorem Blk.set_ne {b b' : Nat} {cs : Array Value} {t : TypeId} {w : World} (h : Blk b cs t w) (o : Nat) (v : Value) (hne : b ≠ b') : Blk b cs t (w.setCell ⟨b', o, none⟩ v) := by
  unfold Blk at *
  simp only [World.setCell, Array.getElem?_modify, if_neg (Ne.symm hne)]; exact h
theorem Blk.set {b : Nat} {cs : Array Value} {t : TypeId} {w : World} (h : Blk b cs t w) (o : Nat) (v : Value) : Blk b (cs.setIfInBounds o v) t (w.setCell ⟨b, o, none⟩ v) := by
  unfold Blk at *
  simp [World.setCell, Array.getElem?_modify, h]
theorem Blk.drew {b : Nat} {cs : Array Value} {t : TypeId} {w : World} (h : Blk b cs t w) : Blk b cs t w.drew := h
theorem Blk.at2 {b : Nat} {x y : Value} {t : TypeId} {w : World} (h : Blk b #[x, y] t w) : w.cell? ⟨b, 0, none⟩ = some x ∧ w.cell? ⟨b, 1, none⟩ = some y ∧ ∀ o, w.frozen? ⟨b, o, none⟩ = false :=
  ⟨h.cell 0 rfl, h.cell 1 rfl, fun o => h.froz o⟩
theorem Blk.at3 {b : Nat} {x y z : Value} {t : TypeId} {w : World} (h : Blk b #[x, y, z] t w) : w.cell? ⟨b, 0, none⟩ = some x ∧ w.cell? ⟨b, 1, none⟩ = some y ∧ w.cell? ⟨b, 2, none⟩ = some z ∧ ∀ o, w.frozen? ⟨b, o, none⟩ = false :=
  ⟨h.cell 0 rfl, h.cell 1 rfl, h.cell 2 rfl, fun o => h.froz o⟩
theorem Blk.at5 {b : Nat} {p q x y z : Value} {t : TypeId} {w : World} (h : Blk b #[p, q, x, y, z] t w) :
    w.cell? ⟨b, 0, none⟩ = some p ∧ w.cell? ⟨b, 1, none⟩ = some q ∧ w.cell? ⟨b, 2, none⟩ = some x ∧ w.cell? ⟨b, 3, none⟩ = some y ∧ w.cell? ⟨b, 4, none⟩ = some z ∧ ∀ o, w.frozen? ⟨b, o, none⟩ = false :=
  ⟨h.cell 0 rfl, h.cell 1 rfl, h.cell 2 rfl, h.cell 3 rfl, h.cell 4 rfl, fun o => h.froz o⟩
theorem grown_setB {w0 w : World} (h : w0.grownBy w none) {b o : Nat} (v : Value) (hb : w0.heap.size ≤ b) : w0.grownBy (w.setCell ⟨b, o, none⟩ v) none := grown_set h v hb
/-- The block g begins with the integers l and may be written. -/
def Row (k : IntKind) (t : TypeId) (g : Nat) (l : List Int) (w : World) : Prop := ∃ cur : Array Value, Blk g cur t w ∧ l.length ≤ cur.size ∧ ∀ i, i < l.length → cur[i]? = some (.int k (gI l i))
theorem Row.keep {k : IntKind} {t : TypeId} {g : Nat} {l : List Int} {w w' : World} (h : Row k t g l w) (hg : w.grownBy w' none) : Row k t g l w' := by
  obtain ⟨cur, h1, h2⟩ := h
  exact ⟨cur, h1.keep hg, h2⟩
theorem Row.drew {k : IntKind} {t : TypeId} {g : Nat} {l : List Int} {w : World} (h : Row k t g l w) : Row k t g l w.drew := h
theorem Row.lt {k : IntKind} {t : TypeId} {g : Nat} {l : List Int} {w : World} (h : Row k t g l w) : g < w.heap.size := by
  obtain ⟨cur, h1, h2⟩ := h
  exact h1.lt
theorem Row.set_ne {k : IntKind} {t : TypeId} {g b' : Nat} {l : List Int} {w : World} (h : Row k t g l w) (o : Nat) (v : Value) (hne : g ≠ b') : Row k t g l (w.setCell ⟨b', o, none⟩ v) := by
  obtain ⟨cur, h1, h2⟩ := h
  exact ⟨cur, h1.set_ne o v hne, h2⟩
theorem Row.cell {k : IntKind} {t : TypeId} {g : Nat} {l : List Int} {w : World} (h : Row k t g l w) {i : Nat} (hi : i < l.length) : w.cell? ⟨g, i, none⟩ = some (.int k (gI l i)) := by
  obtain ⟨cur, h1, h2, h3⟩ := h
  exact h1.cell i (h3 i hi)
theorem Row.froz {k : IntKind} {t : TypeId} {g : Nat} {l : List Int} {w : World} (h : Row k t g l w) (i : Nat) : w.frozen? ⟨g, i, none⟩ = false := by
  obtain ⟨cur, h1, _⟩ := h
  exact h1.froz i
theorem Row.set {k : IntKind} {t : TypeId} {g : Nat} {l : List Int} {w : World} (h : Row k t g l w) (i : Nat) (x : Int) : Row k t g (l.set i x) (w.setCell ⟨g, i, none⟩ (.int k x)) := by
  obtain ⟨cur, h1, h2, h3⟩ := h
  refine ⟨_, h1.set i (.int k x), by simpa using h2, fun j hj => ?_⟩
  simp only [List.length_set] at hj
  rw [Array.getElem?_setIfInBounds]
  by_cases e : i = j
  · subst e
    rw [if_pos rfl, if_pos (by omega)]
    simp [gI, List.getD_eq_getElem?_getD, List.getElem?_set, hj]
  · rw [if_neg e, h3 j hj]
    simp [gI, List.getD_eq_getElem?_getD, List.getElem?_set, e]
theorem Row.ints {k : IntKind} {t : TypeId} {g : Nat} {l : List Int} {w : World} (h : Row k t g l w) {cap : Nat} (h1 : l.length ≤ cap) (h2 : cap ≤ maxLen) (hw : ∀ n ∈ l, (Lit.int k n).wf = true) : Ints k w (.slice (some ⟨g, 0, none⟩) l.length cap) l :=
  ⟨_, cap, rfl, h1, h2, hw, .inr ⟨g, 0, rfl, h.lt, fun i hi => by simpa using h.cell hi⟩⟩
/-- What the call owns, as a row; a row of no elements may have no block. -/
theorem row_of_own {k : IntKind} {t : TypeId} {w : World} {B : Nat} {v : Value} {l : List Int} (h : w.ownsRow B t 1 v l.length (l.map (.int k))) (hl : 0 < l.length) : ∃ g cap, v = .slice (some ⟨g, 0, none⟩) l.length cap ∧ B ≤ g ∧ Row k t g l w ∧ l.length ≤ cap ∧ cap ≤ maxLen := by
  rcases h.2 with ⟨rfl, hn⟩ | ⟨g, cap, cur, rfl, hb, hg, hc, hm, hs, ht⟩
  · omega
  · refine ⟨g, cap, rfl, hb, ⟨cur, hg, by omega, fun i hi => ?_⟩, hc, hm⟩
    have h1 : (cur.toList.take (l.length * 1))[i]? = (l.map (Value.int k))[i]? := by rw [ht]
    rw [List.getElem?_take, if_pos (by omega)] at h1
    rw [← Array.getElem?_toList, h1, gI_eq hi]
    simp [hi]
/-- Behind w nothing but the blocks p and q has changed. -/
def Two (p q : Nat) (w w' : World) : Prop := w'.os = w.os ∧ w'.tape = w.tape ∧ w'.output = w.output ∧ w.heap.size ≤ w'.heap.size ∧ ∀ k, k < w.heap.size → k ≠ p → k ≠ q → w'.heap[k]? = w.heap[k]?
theorem Two.refl (p q : Nat) (w : World) : Two p q w w := ⟨rfl, rfl, rfl, Nat.le_refl _, fun _ _ _ _ => rfl⟩
theorem Two.size {p q : Nat} {w w' : World} (h : Two p q w w') : w.heap.size ≤ w'.heap.size := h.2.2.2.1
theorem Two.grown {p q : Nat} {w w1 w2 : World} (h : Two p q w w1) (g : w1.grownBy w2 none) : Two p q w w2 := by
  obtain ⟨h1, h2, h3, h4, h5⟩ := h
  exact ⟨g.os.trans h1, g.tape.trans h2, g.output.trans h3, Nat.le_trans h4 g.size, fun k hk hp hq => (g.block k (Nat.lt_of_lt_of_le hk h4) (by simp)).trans (h5 k hk hp hq)⟩
theorem Two.drew {p q : Nat} {w w1 : World} (h : Two p q w w1) : Two p q w w1.drew := h
theorem Two.setp {p q : Nat} {w w1 : World} (h : Two p q w w1) (o : Nat) (v : Value) : Two p q w (w1.setCell ⟨p, o, none⟩ v) := by
  obtain ⟨h1, h2, h3, h4, h5⟩ := h
  exact ⟨h1, h2, h3, by simpa using h4, fun k hk hp hq => (Below.heap_setCell _ _ _ k (by simpa using hp)).trans (h5 k hk hp hq)⟩
theorem Two.setq {p q : Nat} {w w1 : World} (h : Two p q w w1) (o : Nat) (v : Value) : Two p q w (w1.setCell ⟨q, o, none⟩ v) := by
  obtain ⟨h1, h2, h3, h4, h5⟩ := h
  exact ⟨h1, h2, h3, by simpa using h4, fun k hk hp hq => (Below.heap_setCell _ _ _ k (by simpa using hq)).trans (h5 k hk hp hq)⟩
theorem Two.up {p q : Nat} {w0 w w' : World} (h : Two p q w w') (g : w0.grownBy w none) (hp : w0.heap.size ≤ p) (hq : w0.heap.size ≤ q) : w0.grownBy w' none := by
  obtain ⟨h1, h2, h3, h4, h5⟩ := h
  exact ⟨h1.trans g.os, h2.trans g.tape, h3.trans g.output, Nat.le_trans g.size h4, fun k hk _ => (h5 k (Nat.lt_of_lt_of_le hk g.size) (by omega) (by omega)).trans (g.block k hk (by simp))⟩
theorem Blk.two {b p q : Nat} {cs : Array Value} {t : TypeId} {w w' : World} (h : Blk b cs t w) (g : Two p q w w') (hp : b ≠ p) (hq : b ≠ q) : Blk b cs t w' := by
  have := g.2.2.2.2 b h.lt hp hq
  unfold Blk at *
  rw [this]; exact h
end Go.Proofs.Ythlaenafkihjiaa
/- The walks of Single, uses and of their references. Conditions: Go's ints. -/
namespace Go.Proofs.Ythlaenafkihjiaa
open Go.RowKit Go.ChangeShapes Go.WideShapes
set_option linter.unusedVariables false
set_option linter.unusedSimpArgs false
/-- The fields of a kind. -/
def useL (k : Int) : List Int :=
  if k = 1 then [0, 3] else if k = 2 then [0] else if k = 3 then [0, 1] else if k = 5 then [0, 12] else if k = 6 then [0, 4, 5] else if k = 7 then [0, 1, 5] else if k = 8 then [0, 1, 5, 6, 7]
  else if k = 9 then [2] else if k = 10 then [8, 9, 12] else if k = 11 then [8] else if k = 12 ∨ k = 15 then [8, 9] else if k = 13 then [10, 11] else if k = 14 then [10] else if k = 16 then [0, 13] else []
def kindB (k : Int) : Prop := 1 ≤ k ∧ k ≤ 17
instance (k : Int) : Decidable (kindB k) := by unfold kindB; infer_instance
def sngB (k : Int) : Bool := decide (kindB k ∧ ¬ (k = 6 ∨ k = 7 ∨ k = 8 ∨ k = 9 ∨ k = 15 ∨ k = 16 ∨ k = 17))
theorem kind17 {k : Int} (h : kindB k) : k = 1 ∨ k = 2 ∨ k = 3 ∨ k = 4 ∨ k = 5 ∨ k = 6 ∨ k = 7 ∨ k = 8 ∨ k = 9 ∨ k = 10 ∨ k = 11 ∨ k = 12 ∨ k = 13 ∨ k = 14 ∨ k = 15 ∨ k = 16 ∨ k = 17 := by
  obtain ⟨h1, h2⟩ := h; omega
theorem kind_no {k : Int} (h : ¬ kindB k) : (k == 1) = false ∧ (k == 2) = false ∧ (k == 3) = false ∧ (k == 4) = false ∧ (k == 5) = false ∧ (k == 6) = false ∧ (k == 7) = false ∧ (k == 8) = false ∧ (k == 9) = false ∧ (k == 10) = false ∧ (k == 11) = false ∧ (k == 12) = false ∧ (k == 13) = false ∧ (k == 14) = false ∧ (k == 15) = false ∧ (k == 16) = false ∧ (k == 17) = false := by
  unfold kindB at h
  refine ⟨?_, ?_, ?_, ?_, ?_, ?_, ?_, ?_, ?_, ?_, ?_, ?_, ?_, ?_, ?_, ?_, ?_⟩ <;> exact beq_eq_false_iff_ne.2 (by omega)
theorem eq_nilIn {P : Program} {T e : TypeId} (hT : P.underlying T = some (.slice e)) (d : Nat) (a : Addr) (n c : Nat) (w : World) : Sem.run P (Op.equalIn (d + 1) T (.slice (some a) n c) (.slice none 0 0)) w = .ok false w := by
  simp [Op.equalIn, run_underlying hT]
theorem neq_nil {P : Program} {T e : TypeId} (hT : P.underlying T = some (.slice e)) (a : Addr) (n c : Nat) (w : World) : Sem.run P (binOp .neq T (.slice (some a) n c) (.slice none 0 0)) w = .ok (.bool true) w := by
  have h := eq_nilIn hT 9999 a n c w
  show Sem.run P (do let b ← Op.equalIn (9999 + 1) T (.slice (some a) n c) (.slice none 0 0); pure (Value.bool (!b)) : Sem Value) w = _
  generalize Op.equalIn (9999 + 1) T (.slice (some a) n c) (.slice none 0 0) = q at *
  simp [h]
theorem eql_nil {P : Program} {T e : TypeId} (hT : P.underlying T = some (.slice e)) (a : Addr) (n c : Nat) (w : World) : Sem.run P (binOp .eql T (.slice (some a) n c) (.slice none 0 0)) w = .ok (.bool false) w := by
  have h := eq_nilIn hT 9999 a n c w
  show Sem.run P (do let b ← Op.equalIn (9999 + 1) T (.slice (some a) n c) (.slice none 0 0); pure (Value.bool b) : Sem Value) w = _
  generalize Op.equalIn (9999 + 1) T (.slice (some a) n c) (.slice none 0 0) = q at *
  simp [h]
theorem eq_nilIn0 {P : Program} {T e : TypeId} (hT : P.underlying T = some (.slice e)) (d : Nat) (w : World) : Sem.run P (Op.equalIn (d + 1) T (.slice none 0 0) (.slice none 0 0)) w = .ok true w := by
  simp [Op.equalIn, run_underlying hT]
theorem neq_nil0 {P : Program} {T e : TypeId} (hT : P.underlying T = some (.slice e)) (w : World) : Sem.run P (binOp .neq T (.slice none 0 0) (.slice none 0 0)) w = .ok (.bool false) w := by
  have h := eq_nilIn0 hT 9999 w
  show Sem.run P (do let b ← Op.equalIn (9999 + 1) T (.slice none 0 0) (.slice none 0 0); pure (Value.bool (!b)) : Sem Value) w = _
  generalize Op.equalIn (9999 + 1) T (.slice none 0 0) (.slice none 0 0) = q at *
  simp [h]
theorem eql_nil0 {P : Program} {T e : TypeId} (hT : P.underlying T = some (.slice e)) (w : World) : Sem.run P (binOp .eql T (.slice none 0 0) (.slice none 0 0)) w = .ok (.bool true) w := by
  have h := eq_nilIn0 hT 9999 w
  show Sem.run P (do let b ← Op.equalIn (9999 + 1) T (.slice none 0 0) (.slice none 0 0); pure (Value.bool b) : Sem Value) w = _
  generalize Op.equalIn (9999 + 1) T (.slice none 0 0) (.slice none 0 0) = q at *
  simp [h]
theorem own_litN (w : World) (e : TypeId) (l : List Int) (cs : Array Value) (n : Nat) (h : cs.toList = l.map (.int .i64)) (hl : l.length = n) (hn : n ≤ 100) : (w.alloc (.cells cs e)).ownsRow w.heap.size e 1 (.slice (some ⟨w.heap.size, 0, none⟩) n n) n (l.map (.int .i64)) := by
  have hs : cs.size = n * 1 := by rw [← Array.length_toList, h, List.length_map, hl, Nat.mul_one]
  have := World.ownsRow_lit (e := e) w cs n (Nat.le_refl _) (by unfold maxLen; omega) (by omega)
  rw [h] at this
  exact this
set_option maxRecDepth 100000 in
set_option maxHeartbeats 1600000 in
theorem uses_any (k : Int) (w : World) (hk : kindB k) :
    Calls Try.prog 21 #[.int .i64 k] w fun e w' => ∃ a, e = .returned (.slice (some a) (useL k).length (useL k).length) ∧ Ints .i64 w' (.slice (some a) (useL k).length (useL k).length) (useL k) ∧ w.grownBy w' none := by
  rcases kind17 hk with rfl | rfl | rfl | rfl | rfl | rfl | rfl | rfl | rfl | rfl | rfl | rfl | rfl | rfl | rfl | rfl | rfl
  all_goals
    go_enter Try.func21, Try.ntmps21
    go_wp2
    go_ret
    exact ⟨_, rfl, ints_of_own (own_litN w _ _ _ _ rfl rfl (by decide)) (by decide), grown_alloc _ _⟩
set_option maxRecDepth 100000 in
theorem uses_no (k : Int) (w : World) (hk : ¬ kindB k) :
    Calls Try.prog 21 #[.int .i64 k] w fun e w' => e = .returned (.slice none 0 0) ∧ w = w' := by
  obtain ⟨k1, k2, k3, k4, k5, k6, k7, k8, k9, k10, k11, k12, k13, k14, k15, k16, k17⟩ := kind_no hk
  clear hk
  go_enter Try.func21, Try.ntmps21
  go_wp2
  go_ret
  exact ⟨rfl, rfl⟩
set_option maxRecDepth 100000 in
set_option maxHeartbeats 1600000 in
theorem single_any (k : Int) (w : World) :
    Calls Try.prog 10 #[.int .i64 k] w fun e w' => e = .returned (.bool (sngB k)) ∧ w.grownBy w' none := by
  by_cases hk : kindB k
  · have CU := Lib.hid (fun w => uses_any k w hk)
    have hnn := fun a n c w => neq_nil (P := Try.prog) Try.underlying52 a n c w
    rcases kind17 hk with rfl | rfl | rfl | rfl | rfl | rfl | rfl | rfl | rfl | rfl | rfl | rfl | rfl | rfl | rfl | rfl | rfl
    all_goals
      clear hk
      go_enter Try.func10, Try.ntmps10
      go_wp2_with fail
      first
        | (go_ret; exact ⟨rfl, grown_refl _⟩)
        | (refine (CU.out _).mono ?_
           rintro e w1 ⟨a, rfl, -, g1⟩
           go_wp2
           go_ret
           exact ⟨rfl, g1⟩)
  · have CU := Lib.hid (fun w => uses_no k w hk)
    have hnn := fun w => neq_nil0 (P := Try.prog) Try.underlying52 w
    have HF : Hid (sngB k = false) := by show _ = _; unfold sngB; rw [decide_eq_false]; exact fun h => hk h.1
    obtain ⟨k1, k2, k3, k4, k5, k6, k7, k8, k9, k10, k11, k12, k13, k14, k15, k16, k17⟩ := kind_no hk
    clear hk
    go_enter Try.func10, Try.ntmps10
    go_wp2_with fail
    refine (CU.out _).mono ?_
    rintro e w1 ⟨rfl, rfl⟩
    go_wp2
    go_ret
    rw [HF.out]
    exact ⟨rfl, grown_refl _⟩
theorem contains_take {L : List Int} {k : Int} {i : Nat} (h : i < L.length) (hn : gI L i ≠ k) (ht : (L.take i).contains k = false) : (L.take (i + 1)).contains k = false := by
  rw [take_succ_gI h]
  simp only [List.contains_eq_mem, List.mem_append, List.mem_singleton, decide_eq_false_iff_not] at ht ⊢
  rintro (h | h)
  · exact ht h
  · exact hn h.symm
set_option maxRecDepth 100000 in
set_option maxHeartbeats 800000 in
theorem inr_any (k : Int) (v : Value) (L : List Int) (w : World) (hv : Ints .i64 w v L) (hl : L.length ≤ 1000) :
    Calls Try.prog 30 #[.int .i64 k, v] w fun e w' => e = .returned (.bool (L.contains k)) ∧ w = w' := by
  obtain ⟨a, cap, rfl, h1, h2, -, h4⟩ := hv
  unfold maxLen at h2
  have HC : Hid (∀ i, i < L.length → gI L i = k → L.contains k = true) := fun i hi e => by
    rw [List.contains_eq_mem, decide_eq_true_eq, ← e]; exact gI_mem hi
  have HE : Hid ((L.take L.length).contains k = false → L.contains k = false) := fun h => by rwa [List.take_length] at h
  have HT : Hid (∀ i, i < L.length → gI L i ≠ k → (L.take i).contains k = false → (L.take (i + 1)).contains k = false) := fun i hi hn ht => contains_take hi hn ht
  have hz : Hid ((L.take 0).contains k = false) := by show _ = _; simp
  have H4 := Lib.hid h4
  generalize L.contains k = B at *
  clear h4
  go_enter Try.func30, Try.ntmps30
  go_wp2_with fail
  go_loop [5] (fun i => ∃ j : Nat, j ≤ L.length ∧ i = .int .i64 j ∧ Hid ((L.take j).contains k = false)) (fun i => L.length - (intOf i).toNat)
  case atStart => exact ⟨0, by omega, rfl, hz⟩
  case round =>
    obtain ⟨j, hj, rfl, ht⟩ := hrel
    by_cases hlt : j < L.length
    · have e1 : (j : Int) < L.length := by omega
      have e2 : (0 : Int) ≤ j := by omega
      rcases H4.out with h4 | ⟨b, off, rfl, hb, hc⟩
      · exfalso; subst h4; simp at hlt
      have y := hc j hlt
      have hc1 := HC.out j hlt
      have ht1 := fun hn => HT.out j hlt hn ht.out
      generalize gI L j = x at *
      clear hc H4
      by_cases hx : x = k
      · have HF := Lib.hid (hc1 hx)
        subst hx
        clear hc1 ht1
        go_wp2
        go_ret
        rw [HF.out]; exact ⟨rfl, rfl⟩
      · have HS := Lib.hid (ht1 hx)
        have hxb : (x == k) = false := beq_eq_false_iff_ne.2 hx
        clear hc1 ht1 hx
        go_wp2
        go_round
        case rel => exact ⟨j + 1, by omega, by go_num, HS⟩
        case measure => simp [intOf]; omega
    · obtain rfl : j = L.length := by omega
      have HF := Lib.hid (HE.out ht.out)
      clear H4
      go_wp2
      go_ret
      rw [HF.out]; exact ⟨rfl, rfl⟩
theorem within22_yes (n a b : Int) (w : World) (h : a ≤ n ∧ n ≤ b) :
    Calls Try.prog 24 #[.int .i64 n, .int .i64 a, .int .i64 b] w fun e w' => e = .returned (.bool true) ∧ w = w' := by
  obtain ⟨h1, h2⟩ := h
  have d1 := decide_eq_true h2
  go_enter Try.func24, Try.ntmps24
  go_wp2
  go_ret
  exact ⟨rfl, rfl⟩
set_option maxRecDepth 100000 in
set_option maxHeartbeats 800000 in
theorem singler_any (k : Int) (w : World) :
    Calls Try.prog 11 #[.int .i64 k] w fun e w' => e = .returned (.bool (sngB k)) ∧ w.grownBy w' none := by
  have hI := ints_of_own (own_litN w 3 [6, 7, 8, 9, 15, 16, 17] #[.int .i64 6, .int .i64 7, .int .i64 8, .int .i64 9, .int .i64 15, .int .i64 16, .int .i64 17] 7 rfl rfl (by decide)) (by decide)
  have C1 := Lib.hid (inr_any k _ [6, 7, 8, 9, 15, 16, 17] _ hI (by decide))
  by_cases hk : kindB k
  · have hs : sngB k = !([6, 7, 8, 9, 15, 16, 17] : List Int).contains k := by
      rcases kind17 hk with rfl | rfl | rfl | rfl | rfl | rfl | rfl | rfl | rfl | rfl | rfl | rfl | rfl | rfl | rfl | rfl | rfl <;> decide
    generalize ([6, 7, 8, 9, 15, 16, 17] : List Int).contains k = B at *
    have HS := Lib.hid hs
    obtain ⟨h1, h2⟩ := hk
    have d1 := decide_eq_true h2
    clear hI hs
    go_enter Try.func11, Try.ntmps11
    go_wp2_with fail
    refine (within22_yes k 1 17 _ ⟨h1, h2⟩).mono ?_
    rintro e w1 ⟨rfl, rfl⟩
    go_wp2_with fail
    refine C1.out.mono ?_
    rintro e w1 ⟨rfl, rfl⟩
    go_wp2
    go_ret
    rw [HS.out]
    exact ⟨rfl, grown_alloc _ _⟩
  · have HF : Hid (sngB k = false) := by show _ = _; unfold sngB; rw [decide_eq_false]; exact fun h => hk h.1
    clear C1 hI
    by_cases h1 : 1 ≤ k
    · have h2 : ¬ k ≤ 17 := fun h => hk ⟨h1, h⟩
      have d1 := decide_eq_false h2
      clear hk
      go_enter Try.func11, Try.ntmps11
      go_wp2
      go_ret
      rw [HF.out]
      first | exact ⟨rfl, grown_refl _⟩ | exact ⟨rfl, grown_alloc _ _⟩
    · clear hk
      go_enter Try.func11, Try.ntmps11
      go_wp2
      go_ret
      rw [HF.out]
      first | exact ⟨rfl, grown_refl _⟩ | exact ⟨rfl, grown_alloc _ _⟩
end Go.Proofs.Ythlaenafkihjiaa
/- An operation's content, and the walk of zero. Conditions: Go's ints. -/
namespace Go.Proofs.Ythlaenafkihjiaa
open Go.RowKit Go.ChangeShapes Go.WideShapes
set_option linter.unusedVariables false
set_option linter.unusedSimpArgs false
structure OpD where
  kind : Int
  name : ByteArray
  other : ByteArray
  names : List ByteArray
  pk : Int
  ps : Int
  pd : Int
  pz : Int
  items : List (ByteArray × Int)
  coins : List Int
  ex : Int
  so : Int
  ha : Int
  ix : Int
  cu : Int
  co : Int
  qk : Int
  qs : ByteArray
  qc : Int
  qn : Int
  qd : Int
  data : List Int
def opV (o : OpD) (vn vi vc vd : Value) : Value :=
  .agg #[.int .i64 o.kind, .string o.name, .string o.other, vn, .int .i64 o.pk, .int .i64 o.ps, .int .i64 o.pd, .int .u64 o.pz, vi, vc, .int .i64 o.ex, .int .i64 o.so, .int .i64 o.ha, .int .i64 o.ix, .int .i64 o.cu, .int .i64 o.co, .int .i64 o.qk, .string o.qs, .int .i64 o.qc, .int .i64 o.qn, .int .i64 o.qd, vd]
/-- A slice of n elements. -/
def Sl (v : Value) (n : Nat) : Prop := ∃ a cap, v = .slice a n cap
/-- Whether field f is zero. -/
def zro (o : OpD) (f : Nat) : Bool :=
  match f with
  | 0 => o.name.toList == []
  | 1 => o.other.toList == []
  | 2 => decide (o.names.length = 0)
  | 3 => decide (o.pk = 0 ∧ o.ps = 0 ∧ o.pd = 0 ∧ o.pz = 0)
  | 4 => decide (o.items.length = 0)
  | 5 => decide (o.coins.length = 0)
  | 6 => decide (o.ex = 0)
  | 7 => decide (o.so = 0)
  | 8 => decide (o.ha = 0)
  | 9 => decide (o.ix = 0)
  | 10 => decide (o.cu = 0)
  | 11 => decide (o.co = 0)
  | 12 => decide (o.qk = 0 ∧ o.qs.toList = [] ∧ o.qc = 0 ∧ o.qn = 0 ∧ o.qd = 0)
  | _ => decide (o.data.length = 0)
theorem len0 (n : Nat) : ((n : Int) == 0) = decide (n = 0) := by
  by_cases h : n = 0
  · subst h; rfl
  · rw [decide_eq_false h]; exact beq_eq_false_iff_ne.2 (by omega)
theorem fld14 {f : Nat} (h : f < 14) : f = 0 ∨ f = 1 ∨ f = 2 ∨ f = 3 ∨ f = 4 ∨ f = 5 ∨ f = 6 ∨ f = 7 ∨ f = 8 ∨ f = 9 ∨ f = 10 ∨ f = 11 ∨ f = 12 ∨ f = 13 := by omega
set_option maxRecDepth 100000 in
set_option maxHeartbeats 1600000 in
theorem zero_any (o : OpD) (f : Nat) (vn vi vc vd : Value) (w : World) (hf : f < 14) (h1 : Sl vn o.names.length) (h2 : Sl vi o.items.length) (h3 : Sl vc o.coins.length) (h4 : Sl vd o.data.length) :
    Calls Try.prog 23 #[opV o vn vi vc vd, .int .i64 f] w fun e w' => e = .returned (.bool (zro o f)) ∧ w.grownBy w' none := by
  obtain ⟨an, cn, rfl⟩ := h1
  obtain ⟨ai, ci, rfl⟩ := h2
  obtain ⟨ac, cc, rfl⟩ := h3
  obtain ⟨ad, cd, rfl⟩ := h4
  unfold opV
  obtain ⟨kind, name, other, names, pk, ps, pd, pz, items, coins, ex, so, ha, ix, cu, co, qk, qs, qc, qn, qd, data⟩ := o
  simp only
  rcases fld14 hf with rfl | rfl | rfl | rfl | rfl | rfl | rfl | rfl | rfl | rfl | rfl | rfl | rfl | rfl
  all_goals
    go_enter Try.func23, Try.ntmps23
    go_wp2
    all_goals
      go_ret
      refine ⟨ret_b ?_, grown_alloc _ _⟩
      first | rfl | exact len0 _ | (simp [zro]; done) | (simp_all [zro]; done) | (simp [zro]; omega) | (simp_all [zro]; omega)
end Go.Proofs.Ythlaenafkihjiaa
/- Slices that lie in fresh memory, worlds under a name, blocks in all grown worlds. No condition. -/
namespace Go.Proofs.Ythlaenafkihjiaa
open Go.RowKit
set_option linter.unusedVariables false
set_option linter.unusedSimpArgs false
/-- The slice lies in a block from B on. -/
def Fresh (B : Nat) (v : Value) : Prop := ∀ a n c, v = .slice (some a) n c → B ≤ a.block
theorem fresh_of {B g o n c : Nat} (h : B ≤ g) : Fresh B (.slice (some ⟨g, o, none⟩) n c) := by
  intro a n' c' e
  injection e with e1 _ _
  injection e1 with e1
  rw [← e1]; exact h
theorem fresh_nil (B n c : Nat) : Fresh B (.slice none n c) := by
  intro a n' c' e
  injection e with e1 _ _
  cases e1
theorem Ints.setF {k : IntKind} {w : World} {v : Value} {l : List Int} {B b' o : Nat} (h : Ints k w v l) (hf : Fresh B v) (u : Value) (hb : b' < B) : Ints k (w.setCell ⟨b', o, none⟩ u) v l := by
  obtain ⟨a, cap, he, h1, h2, h3, h4⟩ := h
  refine ⟨a, cap, he, h1, h2, h3, ?_⟩
  rcases h4 with h4 | ⟨b2, off2, hb2, hlt, hc⟩
  · exact .inl h4
  · have hne : b2 ≠ b' := by have := hf _ _ _ (he.trans (by rw [hb2])); simp only at this; omega
    refine .inr ⟨b2, off2, hb2, by simpa using hlt, fun i hi => ?_⟩
    have := hc i hi
    simp [go_sem, hne]
    simpa using this
theorem Ints.set {k : IntKind} {w : World} {b off n c : Nat} {l : List Int} (h : Ints k w (.slice (some ⟨b, off, none⟩) n c) l) {b' o : Nat} (u : Value) (hne : b ≠ b') : Ints k (w.setCell ⟨b', o, none⟩ u) (.slice (some ⟨b, off, none⟩) n c) l := by
  obtain ⟨a, cap, he, h1, h2, h3, h4⟩ := h
  refine ⟨a, cap, he, h1, h2, h3, ?_⟩
  rcases h4 with h4 | ⟨b2, off2, hb2, hlt, hc⟩
  · exact .inl h4
  · refine .inr ⟨b2, off2, hb2, by simpa using hlt, fun i hi => ?_⟩
    cases he
    cases hb2
    have := hc i hi
    simp [go_sem, hne]
    simpa using this
theorem Fresh.mono {B B' : Nat} {v : Value} (h : Fresh B v) (hb : B' ≤ B) : Fresh B' v := fun a n c e => Nat.le_trans hb (h a n c e)
theorem wAbs {X : World → Prop} {P : World → Prop} {w : World} (hP : P w) (h : ∀ w', P w' → X w') : X w := h w hP
theorem below8 {i : Int} (h0 : 0 ≤ i) (h : i ≤ 7) : i = 0 ∨ i = 1 ∨ i = 2 ∨ i = 3 ∨ (4 ≤ i ∧ i ≤ 7) := by omega
theorem Blk.ev5 {b : Nat} {p q x y z : Value} {t : TypeId} {w : World} (h : Blk b #[p, q, x, y, z] t w) :
    (∀ w', w.grownBy w' none → w'.cell? ⟨b, 0, none⟩ = some p) ∧ (∀ w', w.grownBy w' none → w'.cell? ⟨b, 1, none⟩ = some q) ∧ (∀ w', w.grownBy w' none → w'.cell? ⟨b, 2, none⟩ = some x) ∧ (∀ w', w.grownBy w' none → w'.cell? ⟨b, 3, none⟩ = some y) ∧ (∀ w', w.grownBy w' none → w'.cell? ⟨b, 4, none⟩ = some z) :=
  ⟨fun _ g => (h.keep g).at5.1, fun _ g => (h.keep g).at5.2.1, fun _ g => (h.keep g).at5.2.2.1, fun _ g => (h.keep g).at5.2.2.2.1, fun _ g => (h.keep g).at5.2.2.2.2.1⟩
theorem Blk.ev2 {b : Nat} {p q : Value} {t : TypeId} {w : World} (h : Blk b #[p, q] t w) :
    (∀ w', w.grownBy w' none → w'.cell? ⟨b, 0, none⟩ = some p) ∧ (∀ w', w.grownBy w' none → w'.cell? ⟨b, 1, none⟩ = some q) :=
  ⟨fun _ g => (h.keep g).at2.1, fun _ g => (h.keep g).at2.2.1⟩
theorem Ints.at {k : IntKind} {w : World} {a : Option Addr} {n cap : Nat} {l : List Int} (h : Ints k w (.slice a n cap) l) (hl : 0 < l.length) : ∃ b off, a = some ⟨b, off, none⟩ ∧ b < w.heap.size ∧ ∀ i, i < l.length → w.cell? ⟨b, off + i, none⟩ = some (.int k (gI l i)) := by
  obtain ⟨a', cap', e, h1, h2, h3, h4⟩ := h
  injection e with e1 e2 e3
  subst e1
  rcases h4 with rfl | h4
  · simp at hl
  · exact h4
theorem Two.own {p q : Nat} {w w1 w2 w3 : World} {r : Option Nat} (h : Two p q w w1) (g : w1.grownBy w2 none) (g' : w2.grownBy w3 r) (hr : ∀ k, r = some k → w.heap.size ≤ k) : Two p q w w3 := by
  obtain ⟨h1, h2, h3, h4, h5⟩ := h.grown g
  exact ⟨g'.os.trans h1, g'.tape.trans h2, g'.output.trans h3, Nat.le_trans h4 g'.size, fun k hk hp hq => (g'.block k (Nat.lt_of_lt_of_le hk h4) (fun e => by have := hr k e.symm; omega)).trans (h5 k hk hp hq)⟩
theorem Blk.own {b : Nat} {cs : Array Value} {t : TypeId} {w w' : World} {r : Option Nat} (h : Blk b cs t w) (g : w.grownBy w' r) (hne : r ≠ some b) : Blk b cs t w' := by
  have := g.block b h.lt (fun e => hne e.symm)
  unfold Blk at *
  rw [this]; exact h
theorem wrap_i64I (x : Int) : -9223372036854775808 ≤ wrap64 x ∧ wrap64 x ≤ 9223372036854775807 := by unfold wrap64; omega
theorem kcell' {w w' : World} {b o : Nat} {v : Value} (g : w.grownBy w' none) (h : w.cell? ⟨b, o, none⟩ = some v) : w'.cell? ⟨b, o, none⟩ = some v :=
  kcell g h (by simpa using World.block_lt_of_cell? w _ h)
theorem Blk.ev3 {b : Nat} {p q x : Value} {t : TypeId} {w : World} (h : Blk b #[p, q, x] t w) :
    (∀ w', w.grownBy w' none → w'.cell? ⟨b, 0, none⟩ = some p) ∧ (∀ w', w.grownBy w' none → w'.cell? ⟨b, 1, none⟩ = some q) ∧ (∀ w', w.grownBy w' none → w'.cell? ⟨b, 2, none⟩ = some x) :=
  ⟨fun _ g => (h.keep g).at3.1, fun _ g => (h.keep g).at3.2.1, fun _ g => (h.keep g).at3.2.2.1⟩
theorem ext_of_gI {l m : List Int} (h : l.length = m.length) (hg : ∀ i, i < l.length → gI l i = gI m i) : l = m := by
  apply List.ext_getElem h
  intro i h1 h2
  have := hg i h1
  rwa [gI_eq h1, gI_eq h2] at this
theorem gI_set (l : List Int) (i j : Nat) (x : Int) (hi : i < l.length) : gI (l.set i x) j = if j = i then x else gI l j := by
  unfold gI
  rw [List.getD_eq_getElem?_getD, List.getD_eq_getElem?_getD, List.getElem?_set]
  by_cases h : i = j
  · subst h; simp [hi]
  · rw [if_neg h, if_neg (fun e => h e.symm)]
end Go.Proofs.Ythlaenafkihjiaa
/- The walk of Validate, given the walks of check. Conditions: Go's ints. -/
namespace Go.Proofs.Ythlaenafkihjiaa
open Go.RowKit Go.ChangeShapes Go.WideShapes
set_option linter.unusedVariables false
set_option linter.unusedSimpArgs false
def mineB (k : Int) (f : Nat) : Bool := (useL k).contains (f : Int)
/-- The first that is not zero. -/
def fnz : List Int → Int
  | [] => 0
  | e :: r => if e ≠ 0 then e else fnz r
def mchk (k : Int) (C : Nat → Int) : List Int := (List.range 14).map fun f => if mineB k f = true then C f else 0
def valO (o : OpD) (C : Nat → Int) : Int :=
  if ¬ kindB o.kind then 8 else if fnz (mchk o.kind C) ≠ 0 then fnz (mchk o.kind C) else if (List.range 14).all (fun f => mineB o.kind f || zro o f) = true then 0 else 18
theorem useL_no {k : Int} (hk : ¬ kindB k) : useL k = [] := by
  unfold kindB at hk
  unfold useL
  repeat rw [if_neg (by omega)]
theorem useL_all (k : Int) : (useL k).all (fun x => decide (0 ≤ x ∧ x ≤ 13)) = true := by
  by_cases hk : kindB k
  · rcases kind17 hk with rfl | rfl | rfl | rfl | rfl | rfl | rfl | rfl | rfl | rfl | rfl | rfl | rfl | rfl | rfl | rfl | rfl <;> decide
  · rw [useL_no hk]; rfl
theorem useL_in {k : Int} {x : Int} (h : x ∈ useL k) : 0 ≤ x ∧ x ≤ 13 := of_decide_eq_true (List.all_eq_true.1 (useL_all k) x h)
theorem useL_len (k : Int) : (useL k).length ≤ 5 := by
  by_cases hk : kindB k
  · rcases kind17 hk with rfl | rfl | rfl | rfl | rfl | rfl | rfl | rfl | rfl | rfl | rfl | rfl | rfl | rfl | rfl | rfl | rfl <;> decide
  · rw [useL_no hk]; simp
theorem fnz_zero {L : List Int} (h : ∀ i, i < L.length → gI L i = 0) : fnz L = 0 := by
  induction L with
  | nil => rfl
  | cons e r ih =>
    have h0 := h 0 (by simp)
    have h1 : e = 0 := h0
    unfold fnz
    rw [if_neg (by simp [h1])]
    exact ih fun i hi => h (i + 1) (by simp; omega)
theorem fnz_at {L : List Int} {k : Nat} (hk : k < L.length) (h : ∀ i, i < k → gI L i = 0) (hn : gI L k ≠ 0) : fnz L = gI L k := by
  induction L generalizing k with
  | nil => simp at hk
  | cons e r ih =>
    unfold fnz
    cases k with
    | zero => have h1 : e ≠ 0 := hn; rw [if_pos h1]; rfl
    | succ k =>
      have h1 : e = 0 := h 0 (by omega)
      rw [if_neg (by simp [h1])]
      exact ih (by simpa using hk) (fun i hi => h (i + 1) (by omega)) hn
theorem mchk_len (k : Int) (C : Nat → Int) : (mchk k C).length = 14 := by simp [mchk]
theorem mchk_at (k : Int) (C : Nat → Int) {f : Nat} (h : f < 14) : gI (mchk k C) f = if mineB k f = true then C f else 0 := by
  rw [gI_eq (by rw [mchk_len]; exact h)]; simp [mchk]
/-- The array of marks. -/
def Msk (b : Nat) (S : List Int) (w : World) : Prop := ∃ cs : Array Value, Blk b cs 54 w ∧ cs.size = 14 ∧ ∀ f, f < 14 → cs[f]? = some (.bool (S.contains (f : Int)))
theorem Msk.keep {b : Nat} {S : List Int} {w w' : World} (h : Msk b S w) (g : w.grownBy w' none) : Msk b S w' := by
  obtain ⟨cs, h1, h2⟩ := h
  exact ⟨cs, h1.keep g, h2⟩
theorem Msk.cell {b : Nat} {S : List Int} {w : World} (h : Msk b S w) {f : Nat} (hf : f < 14) : w.cell? ⟨b, f, none⟩ = some (.bool (S.contains (f : Int))) := by
  obtain ⟨cs, h1, h2, h3⟩ := h
  exact h1.cell f (h3 f hf)
theorem Msk.froz {b : Nat} {S : List Int} {w : World} (h : Msk b S w) (f : Nat) : w.frozen? ⟨b, f, none⟩ = false := by
  obtain ⟨cs, h1, _⟩ := h
  exact h1.froz f
theorem Msk.set {b : Nat} {S : List Int} {w : World} (h : Msk b S w) {x : Nat} (hx : x < 14) : Msk b (S ++ [(x : Int)]) (w.setCell ⟨b, x, none⟩ (.bool true)) := by
  obtain ⟨cs, h1, h2, h3⟩ := h
  refine ⟨_, h1.set x (.bool true), by simpa using h2, fun f hf => ?_⟩
  rw [Array.getElem?_setIfInBounds]
  by_cases e : x = f
  · subst e
    rw [if_pos rfl, if_pos (by omega)]
    simp
  · rw [if_neg e, h3 f hf]
    have : (S ++ [(x : Int)]).contains (f : Int) = S.contains (f : Int) := by
      simp only [List.contains_eq_mem, List.mem_append, List.mem_singleton]
      congr 1
      rw [eq_iff_iff]
      constructor
      · rintro (h | h)
        · exact h
        · omega
      · exact .inl
    rw [this]
theorem Msk.new (w : World) (cs : Array Value) (h : cs = (Array.replicate 14 (Value.bool false))) : Msk w.heap.size [] (w.alloc (.cells cs 54)) := by
  subst h
  refine ⟨_, Blk.new _ _ _, rfl, fun f hf => ?_⟩
  rw [Array.getElem?_replicate, if_pos hf]; simp
theorem Blk.at22 {b : Nat} {c0 c1 c2 c3 c4 c5 c6 c7 c8 c9 c10 c11 c12 c13 c14 c15 c16 c17 c18 c19 c20 c21 : Value} {t : TypeId} {w : World}
    (h : Blk b #[c0, c1, c2, c3, c4, c5, c6, c7, c8, c9, c10, c11, c12, c13, c14, c15, c16, c17, c18, c19, c20, c21] t w) :
    w.cell? ⟨b, 0, none⟩ = some c0 ∧ w.cell? ⟨b, 1, none⟩ = some c1 ∧ w.cell? ⟨b, 2, none⟩ = some c2 ∧ w.cell? ⟨b, 3, none⟩ = some c3 ∧ w.cell? ⟨b, 4, none⟩ = some c4 ∧ w.cell? ⟨b, 5, none⟩ = some c5 ∧ w.cell? ⟨b, 6, none⟩ = some c6 ∧ w.cell? ⟨b, 7, none⟩ = some c7 ∧ w.cell? ⟨b, 8, none⟩ = some c8 ∧ w.cell? ⟨b, 9, none⟩ = some c9 ∧ w.cell? ⟨b, 10, none⟩ = some c10 ∧
    w.cell? ⟨b, 11, none⟩ = some c11 ∧ w.cell? ⟨b, 12, none⟩ = some c12 ∧ w.cell? ⟨b, 13, none⟩ = some c13 ∧ w.cell? ⟨b, 14, none⟩ = some c14 ∧ w.cell? ⟨b, 15, none⟩ = some c15 ∧ w.cell? ⟨b, 16, none⟩ = some c16 ∧ w.cell? ⟨b, 17, none⟩ = some c17 ∧ w.cell? ⟨b, 18, none⟩ = some c18 ∧ w.cell? ⟨b, 19, none⟩ = some c19 ∧ w.cell? ⟨b, 20, none⟩ = some c20 ∧ w.cell? ⟨b, 21, none⟩ = some c21 :=
  ⟨h.cell 0 rfl, h.cell 1 rfl, h.cell 2 rfl, h.cell 3 rfl, h.cell 4 rfl, h.cell 5 rfl, h.cell 6 rfl, h.cell 7 rfl, h.cell 8 rfl, h.cell 9 rfl, h.cell 10 rfl, h.cell 11 rfl, h.cell 12 rfl, h.cell 13 rfl, h.cell 14 rfl, h.cell 15 rfl, h.cell 16 rfl, h.cell 17 rfl, h.cell 18 rfl, h.cell 19 rfl, h.cell 20 rfl, h.cell 21 rfl⟩
/-- The whole struct is loaded where the guard says yes. -/
theorem wpList_load_row_if {P : Program} {ops : Array Oper} {rest : List Oper} {o : Oper} {a : Act} {w : World} {Q : Exit → Act → World → Prop} (hw : Region.wanted o (yielded ops a.tmps) = true) (ty : TypeId) (x : Operand) (ho : o.op = .load ty x)
    (g : Nat) (hx : a.eval x = .pointer (some ⟨g, 0, none⟩)) (t : TypeId) (cs : Array Value) (fr : Nat × Nat) (d : TypeDesc) (hg : w.heap[g]? = some (.cells cs t fr))
    (hu : P.underlying ty = some d) (hd : (match d with | .struct _ | .array _ _ => true | _ => false) = true) (hi : (P.info? ty).map (·.size) = some cs.size)
    (h : wpList P ops Q rest (a.put o.dst (.agg cs)) w) : wpList P ops Q (o :: rest) a w :=
  wpList_step fun K hK => by
    rw [if_pos hw]
    exact wp_load_row ty x ho g hx t cs fr d hg hu hd hi (hK _ _ h)
set_option maxRecDepth 100000 in
set_option maxHeartbeats 1600000 in
theorem valid_cs (cs : Array Value) (kind : Int) (C : Nat → Int) (ZR : Nat → Bool) (w : World) (hsz : cs.size = 22) (h0 : cs[0]? = some (.int .i64 kind)) (hinf : (Try.prog.info? 31).map (·.size) = some cs.size)
    (hC : ∀ (f : Nat) (w' : World), f < 14 → mineB kind f = true → w.grownBy w' none → Calls Try.prog 22 #[.agg cs, .int .i64 f] w' fun e w'' => e = .returned (.int .i64 (C f)) ∧ w'.grownBy w'' none)
    (hZ : ∀ (f : Nat) (w' : World), f < 14 → Calls Try.prog 23 #[.agg cs, .int .i64 f] w' fun e w'' => e = .returned (.bool (ZR f)) ∧ w'.grownBy w'' none) (hk : kindB kind) (VO : Int)
    (hV : VO = if fnz (mchk kind C) ≠ 0 then fnz (mchk kind C) else if (List.range 14).all (fun f => mineB kind f || ZR f) = true then 0 else 18) :
    Calls Try.prog 8 #[.agg cs] w fun e w' => e = .returned (.int .i64 VO) ∧ w.grownBy w' none := by
  have HV := Lib.hid hV
  have hc0 : ∀ h, cs[0]'h = .int .i64 kind := fun h => by
    have := Array.getElem?_eq_getElem h
    rw [h0] at this
    exact (Option.some.inj this).symm
  have CZ := Lib.hid hZ
  have CU := Lib.hid (fun w => uses_any kind w hk)
  have hlen := useL_len kind
  have HIN := Lib.hid (fun x (h : x ∈ useL kind) => useL_in h)
  have HC := Lib.hid hC
  have HM := Lib.hid (fun (f : Nat) (hf : f < 14) => mchk_at kind C hf)
  have HML := Lib.hid (mchk_len kind C)
  have hmine : mineB kind = fun f : Nat => (useL kind).contains (f : Int) := rfl
  have hmk := congrFun hmine
  generalize mchk kind C = MC at *
  generalize mineB kind = MB at *
  generalize useL kind = U at *
  have HMK := Lib.hid hmk
  have henil := fun a n c w => eql_nil (P := Try.prog) Try.underlying52 a n c w
  clear hC hk hmine hmk hV hZ
  go_enter Try.func8, Try.ntmps8
  go_wp2_with fail
  refine (CU.out _).mono ?_
  rintro e w1 ⟨a, rfl, IU, g1⟩
  have c1 : Blk w.heap.size cs 31 w1 := (Blk.new w _ _).keep g1
  have G1 := (grown_alloc _ _).trans' g1
  have hz1 := c1.lt
  clear g1
  go_wp2_with fail
  go_loopw [6, 17] (fun _ i wr => ∃ j : Nat, j ≤ U.length ∧ i = .int .i64 j ∧ Msk w1.heap.size (U.take j) wr ∧ w1.grownBy wr none ∧ w1.heap.size < wr.heap.size) (fun _ i _ => U.length - (intOf i).toNat)
  case atStart => exact ⟨0, by omega, rfl, Msk.new _ _ (by rfl), grown_alloc _ _, by simp⟩
  case round =>
    obtain ⟨j, hj, rfl, hM, g2, hz2⟩ := hrel
    by_cases hlt : j < U.length
    · obtain ⟨b, off, hab, hb, hc⟩ := (IU.grown g2).at (by omega)
      injection hab with hab
      subst hab
      have y := hc j hlt
      have hx := HIN.out _ (gI_mem hlt)
      have HS := Lib.hid (take_succ_gI hlt)
      obtain ⟨X, hX⟩ : ∃ X : Nat, gI U j = X := ⟨(gI U j).toNat, by omega⟩
      rw [hX] at y hx HS
      have hX14 : (X : Int) < 14 := by omega
      have hX0 : (0 : Int) ≤ X := by omega
      have e1 : (j : Int) < U.length := by omega
      have e2 : (0 : Int) ≤ j := by omega
      have f1 := hM.cell (f := X) (by omega)
      have f2 := hM.froz X
      clear hc hX
      go_wp2
      go_roundw
      case rel =>
        refine ⟨j + 1, by omega, by go_num, ?_, grown_set g2 _ (Nat.le_refl _), by simpa using hz2⟩
        rw [HS.out]
        exact hM.set (by omega)
      case measure => simp [intOf]; omega
    · obtain rfl : j = U.length := by omega
      rw [List.take_of_length_le (by omega)] at hM
      rename World => w2
      have c2 := c1.keep g2
      have G2 := G1.trans' g2
      clear c1 IU CU G1 g2 hlt hj
      go_wp2_with fail
      go_loopw [7, 8, 24] (fun _ _ i ws => ∃ f : Nat, f ≤ 14 ∧ i = .int .i64 f ∧ Hid (∀ g, g < f → gI MC g = 0) ∧ w2.grownBy ws none) (fun _ _ i _ => 14 - (intOf i).toNat)
      case atStart => exact ⟨0, by omega, rfl, fun g hg => absurd hg (by omega), grown_refl _⟩
      case round =>
        obtain ⟨f, hf, rfl, hall, g3⟩ := hrel
        have M3 := hM.keep g3
        have c3 := c2.keep g3
        have G3 := G2.trans' g3
        by_cases hlt : f < 14
        · have f1 := M3.cell hlt
          rw [← HMK.out] at f1
          have hmc := HM.out f hlt
          have e1 : (f : Int) < 14 := by omega
          have e2 : (0 : Int) ≤ f := by omega
          have hcc := fun h => HC.out f wr hlt h G3
          have hnx : gI MC f = 0 → Hid (∀ g, g < f + 1 → gI MC g = 0) := fun h g hg => by
            by_cases e : g = f
            · rw [e]; exact h
            · exact hall.out g (by omega)
          have hbad : gI MC f ≠ 0 → Hid (VO = gI MC f) := fun h => by
            have hq := fnz_at (L := MC) (k := f) (by rw [HML.out]; exact hlt) hall.out h
            show _ = _
            rw [HV.out, hq, if_pos h]
          generalize MB f = mb at *
          cases mb
          · have HS := Lib.hid (hnx (by rw [hmc]; rfl))
            clear hcc hmc hnx hbad
            go_wp2
            go_roundw
            case rel => exact ⟨f + 1, by omega, by go_num, HS.out, g3⟩
            case measure => simp [intOf]; omega
          · rw [if_pos rfl] at hmc
            rw [hmc] at hnx hbad
            have CK := Lib.hid (hcc rfl)
            generalize C f = ce at *
            clear hcc hmc
            by_cases hce : ce = 0
            · have HS := Lib.hid (hnx hce)
              subst hce
              clear hnx hbad
              go_wp2_with (refine wpList_load_row rfl 31 _ rfl _ rfl _ cs (0, 0) _ c3 Try.underlying31 rfl hinf ?_)
              go_wp2_with fail
              refine CK.out.mono ?_
              rintro e w5 ⟨rfl, g5⟩
              clear f1
              go_wp2
              go_roundw
              case rel => exact ⟨f + 1, by omega, by go_num, HS.out, g3.trans' g5⟩
              case measure => simp [intOf]; omega
            · have HB := hbad hce
              have hcb : (ce != 0) = true := bne_iff_ne.2 hce
              clear hnx hbad hce
              go_wp2_with (refine wpList_load_row rfl 31 _ rfl _ rfl _ cs (0, 0) _ c3 Try.underlying31 rfl hinf ?_)
              go_wp2_with fail
              refine CK.out.mono ?_
              rintro e w5 ⟨rfl, g5⟩
              clear f1
              go_wp2
              go_ret
              rw [HB.out]
              exact ⟨rfl, G3.trans' g5⟩
        · obtain rfl : f = 14 := by omega
          have HZ : Hid (fnz MC = 0) := fnz_zero (fun i hi => hall.out i (by rw [HML.out] at hi; exact hi))
          have hV2 : VO = if (List.range 14).all (fun f => MB f || ZR f) = true then 0 else 18 := by
            rw [HV.out, HZ.out, if_neg (by simp)]
          have HV2 := Lib.hid hV2
          clear hM c2 G2 hall hlt hf HV HM HML HC hV2 HZ
          rename World => w3
          go_wp2_with fail
          go_loopw [9, 38] (fun _ i ws => ∃ f : Nat, f ≤ 14 ∧ i = .int .i64 f ∧ Hid (∀ g, g < f → (MB g || ZR g) = true) ∧ w3.grownBy ws none) (fun _ i _ => 14 - (intOf i).toNat)
          case atStart => exact ⟨0, by omega, rfl, fun g hg => absurd hg (by omega), grown_refl _⟩
          case round =>
            obtain ⟨f, hf, rfl, hall, g4⟩ := hrel
            have M4 := M3.keep g4
            have c4 := c3.keep g4
            have G4 := G3.trans' g4
            by_cases hlt : f < 14
            · have f1 := M4.cell hlt
              rw [← HMK.out] at f1
              have e1 : (f : Int) < 14 := by omega
              have e2 : (0 : Int) ≤ f := by omega
              have hnx : (MB f || ZR f) = true → Hid (∀ g, g < f + 1 → (MB g || ZR g) = true) := fun h g hg => by
                by_cases e : g = f
                · rw [e]; exact h
                · exact hall.out g (by omega)
              have hbad : (MB f || ZR f) = false → Hid (VO = 18) := fun h => by
                show _ = _
                rw [HV2.out, if_neg]
                intro hh
                have := List.all_eq_true.1 hh f (by simpa using hlt)
                rw [h] at this
                cases this
              have CK := Lib.hid (CZ.out f wr hlt)
              generalize MB f = mb at *
              cases mb
              · generalize ZR f = zf at *
                cases zf
                · have HB := hbad rfl
                  clear hnx hbad
                  go_wp2_with (refine wpList_load_row_if (by first | rfl | simp [Region.wanted, yielded]) 31 _ rfl _ rfl _ cs (0, 0) _ c4 Try.underlying31 rfl hinf ?_)
                  go_wp2_with fail
                  refine CK.out.mono ?_
                  rintro e w5 ⟨rfl, g5⟩
                  clear f1
                  go_wp2
                  go_ret
                  rw [HB.out]
                  exact ⟨rfl, G4.trans' g5⟩
                · have HS := Lib.hid (hnx rfl)
                  clear hnx hbad
                  go_wp2_with (refine wpList_load_row_if (by first | rfl | simp [Region.wanted, yielded]) 31 _ rfl _ rfl _ cs (0, 0) _ c4 Try.underlying31 rfl hinf ?_)
                  go_wp2_with fail
                  refine CK.out.mono ?_
                  rintro e w5 ⟨rfl, g5⟩
                  clear f1
                  go_wp2
                  go_roundw
                  case rel =>
                    refine ⟨_, _, _, _, _, _, _, _, _, _, _, _, _, _, _, _, ?_, rfl⟩
                    exact ⟨f + 1, by omega, by go_num, HS.out, g4.trans' g5⟩
                  case measure => simp [intOf]; omega
              · have HS := Lib.hid (hnx rfl)
                clear hnx hbad
                go_wp2
                go_roundw
                case rel => exact ⟨f + 1, by omega, by go_num, HS.out, g4⟩
                case measure => simp [intOf]; omega
            · obtain rfl : f = 14 := by omega
              have HB := Lib.hid (show VO = 0 by
                rw [HV2.out, if_pos]
                exact List.all_eq_true.2 fun g hg => hall.out g (by simpa using hg))
              clear c4 M4
              go_wp2
              go_ret
              rw [HB.out]
              exact ⟨rfl, G4⟩
end Go.Proofs.Ythlaenafkihjiaa
/- Validate of any operation, given the walks of check. Conditions: Go's ints. -/
namespace Go.Proofs.Ythlaenafkihjiaa
open Go.RowKit Go.ChangeShapes Go.WideShapes
set_option linter.unusedVariables false
set_option linter.unusedSimpArgs false
theorem Try.infoOp : (Try.prog.info? 31).map (·.size) = some 22 := by kernel_rfl
set_option maxRecDepth 100000 in
set_option maxHeartbeats 1600000 in
/-- A kind that is none: 8. -/
theorem valid_no (cs : Array Value) (kind : Int) (w : World) (hsz : cs.size = 22) (h0 : cs[0]? = some (.int .i64 kind)) (hk : ¬ kindB kind) :
    Calls Try.prog 8 #[.agg cs] w fun e w' => e = .returned (.int .i64 8) ∧ w.grownBy w' none := by
  have hc0 : ∀ h, cs[0]'h = .int .i64 kind := fun h => by
    have := Array.getElem?_eq_getElem h
    rw [h0] at this
    exact (Option.some.inj this).symm
  have CU := Lib.hid (fun w => uses_no kind w hk)
  have henil := fun w => eql_nil0 (P := Try.prog) Try.underlying52 w
  go_enter Try.func8, Try.ntmps8
  go_wp2_with fail
  refine (CU.out _).mono ?_
  rintro e w1 ⟨rfl, rfl⟩
  go_wp2
  go_ret
  exact ⟨rfl, grown_alloc _ _⟩
/-- Validate's answer. -/
theorem valid_any (o : OpD) (C : Nat → Int) (vn vi vc vd : Value) (w : World)
    (h1 : Sl vn o.names.length) (h2 : Sl vi o.items.length) (h3 : Sl vc o.coins.length) (h4 : Sl vd o.data.length)
    (hC : ∀ (f : Nat) (w' : World), f < 14 → mineB o.kind f = true → w.grownBy w' none → Calls Try.prog 22 #[opV o vn vi vc vd, .int .i64 f] w' fun e w'' => e = .returned (.int .i64 (C f)) ∧ w'.grownBy w'' none) :
    Calls Try.prog 8 #[opV o vn vi vc vd] w fun e w' => e = .returned (.int .i64 (valO o C)) ∧ w.grownBy w' none := by
  by_cases hk : kindB o.kind
  · refine valid_cs _ o.kind C (zro o) w (by rfl) (by rfl) (by exact Try.infoOp) hC (fun f w' hf => zero_any o f vn vi vc vd w' hf h1 h2 h3 h4) hk _ ?_
    unfold valO
    rw [if_neg (by simp [hk])]
  · unfold valO
    rw [if_pos hk]
    exact valid_no _ o.kind w (by rfl) (by rfl) hk
/-- Of a kind that uses no field nothing is checked. -/
theorem valid_none (o : OpD) (vn vi vc vd : Value) (w : World)
    (h1 : Sl vn o.names.length) (h2 : Sl vi o.items.length) (h3 : Sl vc o.coins.length) (h4 : Sl vd o.data.length) (hu : useL o.kind = []) :
    Calls Try.prog 8 #[opV o vn vi vc vd] w fun e w' => e = .returned (.int .i64 (valO o (fun _ => 0))) ∧ w.grownBy w' none :=
  valid_any o (fun _ => 0) vn vi vc vd w h1 h2 h3 h4 (fun f w' _ hm => by
    unfold mineB at hm
    rw [hu] at hm
    cases hm)
end Go.Proofs.Ythlaenafkihjiaa
/- Validate and Single of operations. No condition. -/
namespace Go.Proofs.Ythlaenafkihjiaa
open Go.RowKit
set_option linter.unusedVariables false
set_option linter.unusedSimpArgs false
def R_operation_Single (a0 : Int) (r : Bool) : Prop := r = sngB a0
theorem c_operation_Single (a0 : Int) (r : Bool) (h : R_operation_Single a0 r) : Contract Try.prog 10 [.c (.v (.int .i64 a0))] [.c (.p (.v (.bool r)))] [] :=
  contract_atom (by kernel_rfl) rfl rfl fun A q w vs hR => by
    rw [asR_atoms (xs := [.int .i64 a0]) hR, h]
    exact single_any a0 w
def R_ref22_Single (a0 : Int) (r : Bool) : Prop := r = sngB a0
theorem c_ref22_Single (a0 : Int) (r : Bool) (h : R_ref22_Single a0 r) : Contract Try.prog 11 [.c (.v (.int .i64 a0))] [.c (.p (.v (.bool r)))] [] :=
  contract_atom (by kernel_rfl) rfl rfl fun A q w vs hR => by
    rw [asR_atoms (xs := [.int .i64 a0]) hR, h]
    exact singler_any a0 w
def opD (a : T_api_Op) : OpD := ⟨a.fKind, a.fName, a.fOther, a.fNames, a.fParams.fKind, a.fParams.fSize, a.fParams.fDepth, a.fParams.fSeed, a.fItems.map (fun x => (x.fKey, x.fWeight)), a.fCoins, a.fExpected, a.fSource, a.fHandle, a.fIndex, a.fCursor, a.fCount, a.fQuery.fKind, a.fQuery.fKey, a.fQuery.fCount, a.fQuery.fNum, a.fQuery.fDen, a.fData⟩
/-- Given what check says of each field that the kind uses. -/
def R_operation_Validate (a0 : T_api_Op) (r : Int) : Prop :=
  (Lit.int .i64 r).wf = true ∧ ∃ C : Nat → Int, (∀ f : Nat, f < 14 → mineB a0.fKind f = true → R_operation_check a0 f (C f)) ∧ r = valO (opD a0) C
theorem asR_one {w : World} {A : Nat → Prop} {gs : Nat → Option Nat} {g q : Nat} {xs : List PV} {vs : Array Value} (h : AsR w A gs g q [.agg xs] vs.toList) : ∃ cs, vs = #[.agg cs] ∧ CsR w A (fun _ => none) 0 (xs.map .p) cs.toList := by
  suffices ∃ cs, vs.toList = [.agg cs] ∧ CsR w A (fun _ => none) 0 (xs.map .p) cs.toList by
    obtain ⟨cs, h1, h2⟩ := this
    exact ⟨cs, by have := congrArg List.toArray h1; simpa using this, h2⟩
  revert h
  generalize vs.toList = l
  intro h
  match l, h with
  | [v], h =>
    obtain ⟨cs, rfl, h2⟩ := h.1
    exact ⟨cs, rfl, h2⟩
theorem csR_cons {w : World} {A : Nat → Prop} {gs : Nat → Option Nat} {n : Nat} {x : RV} {r : List RV} {us : List Value} (h : CsR w A gs n (x :: r) us) : ∃ u us', us = u :: us' ∧ RVr w A (gs n) x u ∧ CsR w A gs (n + 1) r us' := by
  cases us with
  | nil => exact h.elim
  | cons u us => exact ⟨u, us, rfl, h.2.1, h.2.2⟩
theorem rp_v {w : World} {A : Nat → Prop} {go : Option Nat} {x u : Value} (h : RVr w A go (.p (.v x)) u) : u = x := by
  have : RP w A (.v x) u := h
  cases this with | v _ _ => rfl
theorem rp_sl {w : World} {A : Nat → Prop} {go : Option Nat} {e : Nat} {rows : List (List PV)} {u : Value} (h : RVr w A go (.p (.l e rows)) u) : Sl u rows.length := by
  have : RP w A (.l e rows) u := h
  cases this with | l _ _ a cap c _ _ _ _ _ => exact ⟨a, cap, rfl⟩
set_option maxRecDepth 100000 in
theorem opV_of {w : World} {A : Nat → Prop} {a0 : T_api_Op} {cs : Array Value} (hcs : CsR w A (fun _ => none) 0 ((e_api_Op a0).map .p) cs.toList) : ∃ vn vi vc vd, Value.agg cs = opV (opD a0) vn vi vc vd ∧ Sl vn (opD a0).names.length ∧ Sl vi (opD a0).items.length ∧ Sl vc (opD a0).coins.length ∧ Sl vd (opD a0).data.length := by
  simp only [e_api_Op, List.map_cons, List.map_nil] at hcs
  obtain ⟨u0, l0, e0, h0, hcs⟩ := csR_cons hcs
  have x0 := rp_v h0
  obtain ⟨u1, l1, e1, h1, hcs⟩ := csR_cons hcs
  have x1 := rp_v h1
  obtain ⟨u2, l2, e2, h2, hcs⟩ := csR_cons hcs
  have x2 := rp_v h2
  obtain ⟨u3, l3, e3, h3, hcs⟩ := csR_cons hcs
  have x3 := rp_sl h3
  obtain ⟨u4, l4, e4, h4, hcs⟩ := csR_cons hcs
  have x4 := rp_v h4
  obtain ⟨u5, l5, e5, h5, hcs⟩ := csR_cons hcs
  have x5 := rp_v h5
  obtain ⟨u6, l6, e6, h6, hcs⟩ := csR_cons hcs
  have x6 := rp_v h6
  obtain ⟨u7, l7, e7, h7, hcs⟩ := csR_cons hcs
  have x7 := rp_v h7
  obtain ⟨u8, l8, e8, h8, hcs⟩ := csR_cons hcs
  have x8 := rp_sl h8
  obtain ⟨u9, l9, e9, h9, hcs⟩ := csR_cons hcs
  have x9 := rp_sl h9
  obtain ⟨u10, l10, e10, h10, hcs⟩ := csR_cons hcs
  have x10 := rp_v h10
  obtain ⟨u11, l11, e11, h11, hcs⟩ := csR_cons hcs
  have x11 := rp_v h11
  obtain ⟨u12, l12, e12, h12, hcs⟩ := csR_cons hcs
  have x12 := rp_v h12
  obtain ⟨u13, l13, e13, h13, hcs⟩ := csR_cons hcs
  have x13 := rp_v h13
  obtain ⟨u14, l14, e14, h14, hcs⟩ := csR_cons hcs
  have x14 := rp_v h14
  obtain ⟨u15, l15, e15, h15, hcs⟩ := csR_cons hcs
  have x15 := rp_v h15
  obtain ⟨u16, l16, e16, h16, hcs⟩ := csR_cons hcs
  have x16 := rp_v h16
  obtain ⟨u17, l17, e17, h17, hcs⟩ := csR_cons hcs
  have x17 := rp_v h17
  obtain ⟨u18, l18, e18, h18, hcs⟩ := csR_cons hcs
  have x18 := rp_v h18
  obtain ⟨u19, l19, e19, h19, hcs⟩ := csR_cons hcs
  have x19 := rp_v h19
  obtain ⟨u20, l20, e20, h20, hcs⟩ := csR_cons hcs
  have x20 := rp_v h20
  obtain ⟨u21, l21, e21, h21, hcs⟩ := csR_cons hcs
  have x21 := rp_sl h21
  have hl : cs.toList = [u0, u1, u2, u3, u4, u5, u6, u7, u8, u9, u10, u11, u12, u13, u14, u15, u16, u17, u18, u19, u20, u21] := by
    have h0 : l21 = [] := by
      cases l21 with
      | nil => rfl
      | cons v l => exact hcs.elim
    rw [e0, e1, e2, e3, e4, e5, e6, e7, e8, e9, e10, e11, e12, e13, e14, e15, e16, e17, e18, e19, e20, e21, h0]
  refine ⟨u3, u8, u9, u21, ?_, by simpa [opD] using x3, by simpa [opD] using x8, by simpa [opD] using x9, by simpa [opD] using x21⟩
  have hc : cs = #[u0, u1, u2, u3, u4, u5, u6, u7, u8, u9, u10, u11, u12, u13, u14, u15, u16, u17, u18, u19, u20, u21] := by have := congrArg List.toArray hl; simpa using this
  rw [hc, x0, x1, x2, x4, x5, x6, x7, x10, x11, x12, x13, x14, x15, x16, x17, x18, x19, x20]
  rfl
theorem c_operation_Validate (a0 : T_api_Op) (r : Int) (h : R_operation_Validate a0 r) : Contract Try.prog 8 [.agg (e_api_Op a0)] [.c (.p (.v (.int .i64 r)))] [] := by
  obtain ⟨hwf, C, hC, hr⟩ := h
  refine contract_atomA (by kernel_rfl) hwf rfl fun A q w vs hA hR => ?_
  obtain ⟨cs, rfl, hcs⟩ := asR_one hR
  obtain ⟨vn, vi, vc, vd, hv, h1, h2, h3, h4⟩ := opV_of hcs
  rw [hv, hr]
  rw [hv] at hR
  refine valid_any (opD a0) C vn vi vc vd w h1 h2 h3 h4 fun f w' hf hm g => ?_
  refine calls_of_contract (A := A) (q := 0) (g := w'.heap.size) (c_operation_check a0 f (C f) (hC f hf hm)) rfl (fun x hx => Nat.lt_of_lt_of_le (hA x hx) g.size) ?_
  have h1 := asR_mono (g' := w'.heap.size) (q' := 0) g hA rfl hR
  refine ⟨h1.1, .v _ ?_, trivial⟩
  simp only [atomB, Lit.wf, Bool.and_eq_true, decide_eq_true_eq]
  constructor <;> simp [IntKind.min, IntKind.max, IntKind.bits, IntKind.signed] <;> omega
end Go.Proofs.Ythlaenafkihjiaa
