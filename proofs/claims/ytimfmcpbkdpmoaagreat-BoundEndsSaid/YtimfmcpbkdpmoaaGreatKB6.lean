/- Parts of the proof, laid together. No condition. -/
import Derived.Test.YtimfmcpbkdpmoaaGreatKB5
import Derived.Laws.Bits64
set_option linter.unusedVariables false
set_option linter.unusedSimpArgs false
namespace Go.Proofs.YtimfmcpbkdpmoaaGreat
open Go.RowKit
open IntKind (i64 u64 u8 u32)
set_option maxRecDepth 100000
set_option maxHeartbeats 4000000
def Xx (a0 : Q2) (a1 : Int) (a2 : Qq) (a3 : Qe) (Q : Qk → Prop) : Prop :=
 Qg (List.map eS [a2.fd2, a2.fg]) (ct (a3.fc6 == 0) (∃ v2, Rr (Xf a0 ([a2.fd2, a2.fg])) v2 ∧ ct (v2.2.2 != 0) (∃ v4, Rr (QW a0 v2.2.2) v4 ∧ Q v4) (jo (fun (p5 : Int × (List Int) × (List Int) × (List Int) × (List Q5) × (List Q5) × (List (List ByteArray)) × (List Int) × (List Int) × (List Q5) × (List Q5) × (List (List ByteArray))) => sh [8, 11, 12] [(8, 0), (11, 0)] [(13, tI p5.1)] [((12, 2003), some (.row 1 (mi p5.2.1) true)), ((12, 2015), some (.row 1 (mi p5.2.2.1) true)), ((12, 2019), some (.row 1 (mi p5.2.2.2.1) true)), ((12, 2022), some (.row 3 (List.map Q1 p5.2.2.2.2.1) true)), ((12, 2027), some (.row 3 (List.map Q1 p5.2.2.2.2.2.1) true)), ((12, 2032), some (.row 1 (List.map (eL 1 eS) p5.2.2.2.2.2.2.1) true)), ((12, 2044), some (.row 1 (mi p5.2.2.2.2.2.2.2.1) true)), ((12, 2048), some (.row 1 (mi p5.2.2.2.2.2.2.2.2.1) true)), ((12, 2051), some (.row 3 (List.map Q1 (q8 p5).2.1) true)), ((12, 2056), some (.row 3 (List.map Q1 (q8 p5).2.2.1) true)), ((12, 2061), some (.row 1 (List.map (eL 1 eS) (q8 p5).2.2.2) true)), ((12, 0), some (.box ([.p (i4 v2.2.1.fc6), .p (i4 v2.2.1.fg3), .p (b4 v2.2.1.ff9), .sl (12, 2003) 0 (mi p5.2.1).length, .p (i4 v2.2.1.fb8), .p (i4 v2.2.1.ff.fj.f8), .p (i4 v2.2.1.ff.fj.fu), .p (i4 v2.2.1.ff.fj.fa4), .p (.v (.int .u64 v2.2.1.ff.fj.fa2)), .p (i4 v2.2.1.ff.fa1.fy), .p (i4 v2.2.1.ff.fa1.fa7), .p (b4 v2.2.1.ff.fa1.fc), .p (i4 v2.2.1.ff.fh.fa4), .p (i4 v2.2.1.ff.fh.fu), .p (.v (.int .u64 v2.2.1.ff.fh.fa2)), .sl (12, 2015) 0 (mi p5.2.2.1).length, .p (b4 v2.2.1.ff.fh.fc), .p (i4 v2.2.1.ff.f7.fa5), .p (.v (.int .u64 v2.2.1.ff.f7.fa2)), .sl (12, 2019) 0 (mi p5.2.2.2.1).length, .p (i4 v2.2.1.ff.fb0.fu), .p (i4 v2.2.1.ff.fb0.fy), .sl (12, 2022) 0 (List.map Q1 p5.2.2.2.2.1).length, .p (b4 v2.2.1.ff.fb0.fc), .p (i4 v2.2.1.ff.fi.fu), .p (i4 v2.2.1.ff.fi.fy), .p (i4 v2.2.1.ff.fi.fd3), .sl (12, 2027) 0 (List.map Q1 p5.2.2.2.2.2.1).length, .p (b4 v2.2.1.ff.fi.fc), .p (i4 v2.2.1.ff.fw.fu), .p (i4 v2.2.1.ff.fw.fy), .p (i4 v2.2.1.ff.fw.fc8), .sl (12, 2032) 0 (List.map (eL 1 eS) p5.2.2.2.2.2.2.1).length, .p (b4 v2.2.1.ff.fw.fc), .p (i4 v2.2.1.fg.fj.f8), .p (i4 v2.2.1.fg.fj.fu), .p (i4 v2.2.1.fg.fj.fa4), .p (.v (.int .u64 v2.2.1.fg.fj.fa2)), .p (i4 v2.2.1.fg.fa1.fy), .p (i4 v2.2.1.fg.fa1.fa7), .p (b4 v2.2.1.fg.fa1.fc), .p (i4 v2.2.1.fg.fh.fa4), .p (i4 v2.2.1.fg.fh.fu), .p (.v (.int .u64 v2.2.1.fg.fh.fa2)), .sl (12, 2044) 0 (mi p5.2.2.2.2.2.2.2.1).length, .p (b4 v2.2.1.fg.fh.fc), .p (i4 v2.2.1.fg.f7.fa5), .p (.v (.int .u64 v2.2.1.fg.f7.fa2)), .sl (12, 2048) 0 (mi p5.2.2.2.2.2.2.2.2.1).length, .p (i4 v2.2.1.fg.fb0.fu), .p (i4 v2.2.1.fg.fb0.fy), .sl (12, 2051) 0 (List.map Q1 (q8 p5).2.1).length, .p (b4 v2.2.1.fg.fb0.fc), .p (i4 v2.2.1.fg.fi.fu), .p (i4 v2.2.1.fg.fi.fy), .p (i4 v2.2.1.fg.fi.fd3), .sl (12, 2056) 0 (List.map Q1 (q8 p5).2.2.1).length, .p (b4 v2.2.1.fg.fi.fc), .p (i4 v2.2.1.fg.fw.fu), .p (i4 v2.2.1.fg.fw.fy), .p (i4 v2.2.1.fg.fw.fc8), .sl (12, 2061) 0 (List.map (eL 1 eS) (q8 p5).2.2.2).length, .p (b4 v2.2.1.fg.fw.fc), .p (i4 v2.2.1.fd7), .p (i4 v2.2.1.fg8), .p (i4 v2.2.1.fc1), .p (i4 v2.2.1.fd1), .p (i4 v2.2.1.fAt.fb8), .p (i4 v2.2.1.fAt.fd5), .p (.l 1 (List.map (eI .u8) v2.2.1.fc2)), .p (b4 v2.2.1.ff2)])))]) (fun p5 => ct (p5.1 != 0) (∃ v9, Rr (Vt v2.1 (Qe.mk v2.2.1.fc6 v2.2.1.fg3 v2.2.1.ff9 p5.2.1 v2.2.1.fb8 (Q9.mk v2.2.1.ff.fj v2.2.1.ff.fa1 (Q3.mk v2.2.1.ff.fh.fa4 v2.2.1.ff.fh.fu v2.2.1.ff.fh.fa2 p5.2.2.1 v2.2.1.ff.fh.fc) (Q8.mk v2.2.1.ff.f7.fa5 v2.2.1.ff.f7.fa2 p5.2.2.2.1) (Qd.mk v2.2.1.ff.fb0.fu v2.2.1.ff.fb0.fy p5.2.2.2.2.1 v2.2.1.ff.fb0.fc) (Q4.mk v2.2.1.ff.fi.fu v2.2.1.ff.fi.fy v2.2.1.ff.fi.fd3 p5.2.2.2.2.2.1 v2.2.1.ff.fi.fc) (Qa.mk v2.2.1.ff.fw.fu v2.2.1.ff.fw.fy v2.2.1.ff.fw.fc8 p5.2.2.2.2.2.2.1 v2.2.1.ff.fw.fc)) (Q9.mk v2.2.1.fg.fj v2.2.1.fg.fa1 (Q3.mk v2.2.1.fg.fh.fa4 v2.2.1.fg.fh.fu v2.2.1.fg.fh.fa2 p5.2.2.2.2.2.2.2.1 v2.2.1.fg.fh.fc) (Q8.mk v2.2.1.fg.f7.fa5 v2.2.1.fg.f7.fa2 p5.2.2.2.2.2.2.2.2.1) (Qd.mk v2.2.1.fg.fb0.fu v2.2.1.fg.fb0.fy p5.2.2.2.2.2.2.2.2.2.1 v2.2.1.fg.fb0.fc) (Q4.mk v2.2.1.fg.fi.fu v2.2.1.fg.fi.fy v2.2.1.fg.fi.fd3 p5.2.2.2.2.2.2.2.2.2.2.1 v2.2.1.fg.fi.fc) (Qa.mk v2.2.1.fg.fw.fu v2.2.1.fg.fw.fy v2.2.1.fg.fw.fc8 p5.2.2.2.2.2.2.2.2.2.2.2 v2.2.1.fg.fw.fc)) v2.2.1.fd7 v2.2.1.fg8 v2.2.1.fc1 v2.2.1.fd1 v2.2.1.fAt v2.2.1.fc2 v2.2.1.ff2)) v9 ∧ ∃ v10, Rr (QW v9.1 p5.1) v10 ∧ Q v10) (∃ v11, Rr (Yo (Q9.mk v2.2.1.fg.fj v2.2.1.fg.fa1 (Q3.mk v2.2.1.fg.fh.fa4 v2.2.1.fg.fh.fu v2.2.1.fg.fh.fa2 p5.2.2.2.2.2.2.2.1 v2.2.1.fg.fh.fc) (Q8.mk v2.2.1.fg.f7.fa5 v2.2.1.fg.f7.fa2 p5.2.2.2.2.2.2.2.2.1) (Qd.mk v2.2.1.fg.fb0.fu v2.2.1.fg.fb0.fy p5.2.2.2.2.2.2.2.2.2.1 v2.2.1.fg.fb0.fc) (Q4.mk v2.2.1.fg.fi.fu v2.2.1.fg.fi.fy v2.2.1.fg.fi.fd3 p5.2.2.2.2.2.2.2.2.2.2.1 v2.2.1.fg.fi.fc) (Qa.mk v2.2.1.fg.fw.fu v2.2.1.fg.fw.fy v2.2.1.fg.fw.fc8 p5.2.2.2.2.2.2.2.2.2.2.2 v2.2.1.fg.fw.fc))) v11 ∧ Q (Qk.mk v2.1 (Qe.mk 1 v2.2.1.fg3 v2.2.1.ff9 p5.2.1 v2.2.1.fb8 (Q9.mk v2.2.1.ff.fj v2.2.1.ff.fa1 (Q3.mk v2.2.1.ff.fh.fa4 v2.2.1.ff.fh.fu v2.2.1.ff.fh.fa2 p5.2.2.1 v2.2.1.ff.fh.fc) (Q8.mk v2.2.1.ff.f7.fa5 v2.2.1.ff.f7.fa2 p5.2.2.2.1) (Qd.mk v2.2.1.ff.fb0.fu v2.2.1.ff.fb0.fy p5.2.2.2.2.1 v2.2.1.ff.fb0.fc) (Q4.mk v2.2.1.ff.fi.fu v2.2.1.ff.fi.fy v2.2.1.ff.fi.fd3 p5.2.2.2.2.2.1 v2.2.1.ff.fi.fc) (Qa.mk v2.2.1.ff.fw.fu v2.2.1.ff.fw.fy v2.2.1.ff.fw.fc8 p5.2.2.2.2.2.2.1 v2.2.1.ff.fw.fc)) (Q9.mk v2.2.1.fg.fj v2.2.1.fg.fa1 (Q3.mk v2.2.1.fg.fh.fa4 v2.2.1.fg.fh.fu v2.2.1.fg.fh.fa2 p5.2.2.2.2.2.2.2.1 v2.2.1.fg.fh.fc) (Q8.mk v2.2.1.fg.f7.fa5 v2.2.1.fg.f7.fa2 p5.2.2.2.2.2.2.2.2.1) (Qd.mk v2.2.1.fg.fb0.fu v2.2.1.fg.fb0.fy p5.2.2.2.2.2.2.2.2.2.1 v2.2.1.fg.fb0.fc) (Q4.mk v2.2.1.fg.fi.fu v2.2.1.fg.fi.fy v2.2.1.fg.fi.fd3 p5.2.2.2.2.2.2.2.2.2.2.1 v2.2.1.fg.fi.fc) (Qa.mk v2.2.1.fg.fw.fu v2.2.1.fg.fw.fy v2.2.1.fg.fw.fc8 p5.2.2.2.2.2.2.2.2.2.2.2 v2.2.1.fg.fw.fc)) v11 v2.2.1.fg8 v2.2.1.fc1 v2.2.1.fd1 v2.2.1.fAt v2.2.1.fc2 v2.2.1.ff2) (Qf.mk 0 0 0 0 [] (Qj.mk 0 0 ByteArray.empty [] [] false) []) false))) (fun J5 => ∃ v6, ((a2.f8 == 8) = true → ix v2.2.1.fc0 0 v6) ∧ ∃ v7, (((a2.f8 == 8) && !(v6 != a2.fd8)) = true → ix v2.2.1.fc0 1 v7) ∧ Qg (ZP.mk [8, 11, 12, 13, 58] [(8, 0), (11, 0), (12, 0), (31, 17), (31, 29), (31, 33), (31, 36), (31, 41), (31, 46), (31, 58), (31, 62), (31, 65), (31, 70), (31, 75)] 100058) (ct (bif (a2.f8 == 8) then (bif (v6 != a2.fd8) then true else (v7 != a2.ff7)) else false) (J5 (15, v2.2.1.fc0, v2.2.1.ff.fh.fb9, v2.2.1.ff.f7.fa3, v2.2.1.ff.fb0.fq, v2.2.1.ff.fi.fq, v2.2.1.ff.fw.fa9, v2.2.1.fg.fh.fb9, v2.2.1.fg.f7.fa3, v2.2.1.fg.fb0.fq, v2.2.1.fg.fi.fq, v2.2.1.fg.fw.fa9)) (ct (!((v2.2.1.ff.fj.f8 == v2.2.1.fg.fj.f8) && ((v2.2.1.ff.fj.fu == v2.2.1.fg.fj.fu) && ((v2.2.1.ff.fj.fa4 == v2.2.1.fg.fj.fa4) && ((v2.2.1.ff.fj.fa2 == v2.2.1.fg.fj.fa2) && true))))) (J5 (10, v2.2.1.fc0, v2.2.1.ff.fh.fb9, v2.2.1.ff.f7.fa3, v2.2.1.ff.fb0.fq, v2.2.1.ff.fi.fq, v2.2.1.ff.fw.fa9, v2.2.1.fg.fh.fb9, v2.2.1.fg.f7.fa3, v2.2.1.fg.fb0.fq, v2.2.1.fg.fi.fq, v2.2.1.fg.fw.fa9)) (J5 (v2.2.2, v2.2.1.fc0, v2.2.1.ff.fh.fb9, v2.2.1.ff.f7.fa3, v2.2.1.ff.fb0.fq, v2.2.1.ff.fi.fq, v2.2.1.ff.fw.fa9, v2.2.1.fg.fh.fb9, v2.2.1.fg.f7.fa3, v2.2.1.fg.fb0.fq, v2.2.1.fg.fi.fq, v2.2.1.fg.fw.fa9))))))) (ct (a3.fc6 == 1) (jo (fun (p12 : Int × Int × Int × Int × Int × Int × Int × Bool × Int × Int × Int × (List Int) × Bool × Int × Int × (List Int) × Int × Int × (List Q5) × Bool × Int × Int × Int × (List Q5) × Bool × Int × Int × Int × (List (List ByteArray)) × Bool) => sh [4, 7, 8] [(4, 0), (8, 0)] [] [((7, 0), some (.box ([.p (i4 p12.1), .p (i4 a3.fg3), .p (b4 a3.ff9), .p (.l 1 (mi a3.fc0)), .p (i4 a3.fb8), .p (i4 p12.2.1), .p (i4 p12.2.2.1), .p (i4 p12.2.2.2.1), .p (.v (.int .u64 p12.2.2.2.2.1)), .p (i4 p12.2.2.2.2.2.1), .p (i4 p12.2.2.2.2.2.2.1), .p (b4 p12.2.2.2.2.2.2.2.1), .p (i4 p12.2.2.2.2.2.2.2.2.1), .p (i4 (q8 p12).2.1), .p (.v (.int .u64 (q8 p12).2.2.1)), .p (.l 1 (mi (q8 p12).2.2.2.1)), .p (b4 (q8 p12).2.2.2.2.1), .p (i4 (q8 p12).2.2.2.2.2.1), .p (.v (.int .u64 (q8 p12).2.2.2.2.2.2.1)), .p (.l 1 (mi (q8 p12).2.2.2.2.2.2.2.1)), .p (i4 (q8 (q8 p12)).1), .p (i4 (q8 (q8 p12)).2.1), .p (.l 3 (List.map Q1 (q8 (q8 p12)).2.2.1)), .p (b4 (q8 (q8 p12)).2.2.2.1), .p (i4 (q8 (q8 p12)).2.2.2.2.1), .p (i4 (q8 (q8 p12)).2.2.2.2.2.1), .p (i4 (q8 (q8 p12)).2.2.2.2.2.2.1), .p (.l 3 (List.map Q1 (q8 (q8 p12)).2.2.2.2.2.2.2.1)), .p (b4 (q8 (q8 (q8 p12))).1), .p (i4 (q8 (q8 (q8 p12))).2.1), .p (i4 (q8 (q8 (q8 p12))).2.2.1), .p (i4 (q8 (q8 (q8 p12))).2.2.2.1), .p (.l 1 (List.map (eL 1 eS) (q8 (q8 (q8 p12))).2.2.2.2.1)), .p (b4 (q8 (q8 (q8 p12))).2.2.2.2.2), .p (i4 a3.fg.fj.f8), .p (i4 a3.fg.fj.fu), .p (i4 a3.fg.fj.fa4), .p (.v (.int .u64 a3.fg.fj.fa2)), .p (i4 a3.fg.fa1.fy), .p (i4 a3.fg.fa1.fa7), .p (b4 a3.fg.fa1.fc), .p (i4 a3.fg.fh.fa4), .p (i4 a3.fg.fh.fu), .p (.v (.int .u64 a3.fg.fh.fa2)), .p (.l 1 (mi a3.fg.fh.fb9)), .p (b4 a3.fg.fh.fc), .p (i4 a3.fg.f7.fa5), .p (.v (.int .u64 a3.fg.f7.fa2)), .p (.l 1 (mi a3.fg.f7.fa3)), .p (i4 a3.fg.fb0.fu), .p (i4 a3.fg.fb0.fy), .p (.l 3 (List.map Q1 a3.fg.fb0.fq)), .p (b4 a3.fg.fb0.fc), .p (i4 a3.fg.fi.fu), .p (i4 a3.fg.fi.fy), .p (i4 a3.fg.fi.fd3), .p (.l 3 (List.map Q1 a3.fg.fi.fq)), .p (b4 a3.fg.fi.fc), .p (i4 a3.fg.fw.fu), .p (i4 a3.fg.fw.fy), .p (i4 a3.fg.fw.fc8), .p (.l 1 (List.map (eL 1 eS) a3.fg.fw.fa9)), .p (b4 a3.fg.fw.fc), .p (i4 (KH (i64.wrap (a3.fd7 - (KH a1 1))) 0)), .p (i4 a3.fg8), .p (i4 a3.fc1), .p (i4 a3.fd1), .p (i4 a3.fAt.fb8), .p (i4 a3.fAt.fd5), .p (.l 1 (List.map (eI .u8) a3.fc2)), .p (b4 a3.ff2)])))]) (fun p12 => Q (Qk.mk a0 (Qe.mk p12.1 a3.fg3 a3.ff9 a3.fc0 a3.fb8 (Q9.mk (Q7.mk p12.2.1 p12.2.2.1 p12.2.2.2.1 p12.2.2.2.2.1) (Qb.mk p12.2.2.2.2.2.1 p12.2.2.2.2.2.2.1 p12.2.2.2.2.2.2.2.1) (Q3.mk p12.2.2.2.2.2.2.2.2.1 p12.2.2.2.2.2.2.2.2.2.1 p12.2.2.2.2.2.2.2.2.2.2.1 p12.2.2.2.2.2.2.2.2.2.2.2.1 p12.2.2.2.2.2.2.2.2.2.2.2.2.1) (Q8.mk p12.2.2.2.2.2.2.2.2.2.2.2.2.2.1 p12.2.2.2.2.2.2.2.2.2.2.2.2.2.2.1 p12.2.2.2.2.2.2.2.2.2.2.2.2.2.2.2.1) (Qd.mk p12.2.2.2.2.2.2.2.2.2.2.2.2.2.2.2.2.1 p12.2.2.2.2.2.2.2.2.2.2.2.2.2.2.2.2.2.1 p12.2.2.2.2.2.2.2.2.2.2.2.2.2.2.2.2.2.2.1 p12.2.2.2.2.2.2.2.2.2.2.2.2.2.2.2.2.2.2.2.1) (Q4.mk p12.2.2.2.2.2.2.2.2.2.2.2.2.2.2.2.2.2.2.2.2.1 p12.2.2.2.2.2.2.2.2.2.2.2.2.2.2.2.2.2.2.2.2.2.1 p12.2.2.2.2.2.2.2.2.2.2.2.2.2.2.2.2.2.2.2.2.2.2.1 p12.2.2.2.2.2.2.2.2.2.2.2.2.2.2.2.2.2.2.2.2.2.2.2.1 p12.2.2.2.2.2.2.2.2.2.2.2.2.2.2.2.2.2.2.2.2.2.2.2.2.1) (Qa.mk p12.2.2.2.2.2.2.2.2.2.2.2.2.2.2.2.2.2.2.2.2.2.2.2.2.2.1 p12.2.2.2.2.2.2.2.2.2.2.2.2.2.2.2.2.2.2.2.2.2.2.2.2.2.2.1 p12.2.2.2.2.2.2.2.2.2.2.2.2.2.2.2.2.2.2.2.2.2.2.2.2.2.2.2.1 p12.2.2.2.2.2.2.2.2.2.2.2.2.2.2.2.2.2.2.2.2.2.2.2.2.2.2.2.2.1 p12.2.2.2.2.2.2.2.2.2.2.2.2.2.2.2.2.2.2.2.2.2.2.2.2.2.2.2.2.2)) a3.fg (KH (i64.wrap (a3.fd7 - (KH a1 1))) 0) a3.fg8 a3.fc1 a3.fd1 a3.fAt a3.fc2 a3.ff2) (Qf.mk 0 0 0 0 [] (Qj.mk 0 0 ByteArray.empty [] [] false) []) false)) (fun J12 => ct ((KH (i64.wrap (a3.fd7 - (KH a1 1))) 0) == 0) (∃ v13, Rr (Yp a3.ff a3.fg a2.ff8 0) v13 ∧ Qg (ZP.mk [4, 7, 8] [(4, 0), (7, 0), (8, 0)] 23) (J12 (2, v13.1.fj.f8, v13.1.fj.fu, v13.1.fj.fa4, v13.1.fj.fa2, v13.1.fa1.fy, v13.1.fa1.fa7, v13.1.fa1.fc, v13.1.fh.fa4, v13.1.fh.fu, v13.1.fh.fa2, v13.1.fh.fb9, v13.1.fh.fc, v13.1.f7.fa5, v13.1.f7.fa2, v13.1.f7.fa3, v13.1.fb0.fu, v13.1.fb0.fy, v13.1.fb0.fq, v13.1.fb0.fc, v13.1.fi.fu, v13.1.fi.fy, v13.1.fi.fd3, v13.1.fi.fq, v13.1.fi.fc, v13.1.fw.fu, v13.1.fw.fy, v13.1.fw.fc8, v13.1.fw.fa9, v13.1.fw.fc))) (J12 (a3.fc6, a3.ff.fj.f8, a3.ff.fj.fu, a3.ff.fj.fa4, a3.ff.fj.fa2, a3.ff.fa1.fy, a3.ff.fa1.fa7, a3.ff.fa1.fc, a3.ff.fh.fa4, a3.ff.fh.fu, a3.ff.fh.fa2, a3.ff.fh.fb9, a3.ff.fh.fc, a3.ff.f7.fa5, a3.ff.f7.fa2, a3.ff.f7.fa3, a3.ff.fb0.fu, a3.ff.fb0.fy, a3.ff.fb0.fq, a3.ff.fb0.fc, a3.ff.fi.fu, a3.ff.fi.fy, a3.ff.fi.fd3, a3.ff.fi.fq, a3.ff.fi.fc, a3.ff.fw.fu, a3.ff.fw.fy, a3.ff.fw.fc8, a3.ff.fw.fa9, a3.ff.fw.fc)))) (∃ v15, Rr (KV a0 a3 ([a2.fd2, a2.fg])) v15 ∧ ct v15 (∃ v16, Rr (YQ a0 a2.fd2 a3) v16 ∧ Q v16) (∃ v17, Rr (Vt a0 a3) v17 ∧ ct (!(a2.f8 == 8)) (Q (Qk.mk v17.1 (Qe.mk 0 0 false [] 0 (Q9.mk (Q7.mk 0 0 0 0) (Qb.mk 0 0 false) (Q3.mk 0 0 0 [] false) (Q8.mk 0 0 []) (Qd.mk 0 0 [] false) (Q4.mk 0 0 0 [] false) (Qa.mk 0 0 0 [] false)) (Q9.mk (Q7.mk 0 0 0 0) (Qb.mk 0 0 false) (Q3.mk 0 0 0 [] false) (Q8.mk 0 0 []) (Qd.mk 0 0 [] false) (Q4.mk 0 0 0 [] false) (Qa.mk 0 0 0 [] false)) 0 0 0 0 (QI.mk 0 0) [] false) (Qf.mk 0 0 0 0 [] (Qj.mk 0 0 ByteArray.empty [] [] false) []) false)) (∃ v20, Rr (Kx v17.1 a2.fd2) v20 ∧ ∃ v21, ((!(!(v20))) = true → Rr (Kx v17.1 a2.fg) v21) ∧ Qg (ZP.mk [4, 8, 142] [(4, 0), (8, 0)] 100142) (ct (bif !(v20) then true else !(v21)) (∃ v22, Rr (QW v17.1 8) v22 ∧ Q v22) (∃ v23, Rr (QW v17.1 15) v23 ∧ Q v23)))))))
abbrev DO : Prop := ∀ {a0 a1 a2 a3}, Fg (Xx a0 a1 a2 a3) 98 [.agg (Qu a0), .c (i4 a1), .agg (JF a2), .agg (Vj a3)] (fun r => [.agg [.p (i4 r.fx.fk.fa0), .p (i4 r.fx.fk.fb2), .p (i4 r.fx.fk.fa8), .p (i4 r.fx.fk.fb7), .p (i4 r.fx.fk.fc5), .p (i4 r.fx.fk.fc7), .p (i4 r.fx.fk.fb5), .p (i4 r.fx.f9), .p (i4 r.fx.ff3), .p (.l 2 (List.map Qi r.fx.fa6)), .p (.l 4 (List.map Qc r.fx.fb4)), .p (.l 2 (List.map Qm r.fx.fc5)), .p (i4 r.fx.fc4.fc3), .p (.l 3 (List.map Qp r.fx.fc4.fa8)), .p (i4 r.fa.fc6), .p (i4 r.fa.fg3), .p (b4 r.fa.ff9), .p (.l 1 (mi r.fa.fc0)), .p (i4 r.fa.fb8), .p (i4 r.fa.ff.fj.f8), .p (i4 r.fa.ff.fj.fu), .p (i4 r.fa.ff.fj.fa4), .p (.v (.int .u64 r.fa.ff.fj.fa2)), .p (i4 r.fa.ff.fa1.fy), .p (i4 r.fa.ff.fa1.fa7), .p (b4 r.fa.ff.fa1.fc), .p (i4 r.fa.ff.fh.fa4), .p (i4 r.fa.ff.fh.fu), .p (.v (.int .u64 r.fa.ff.fh.fa2)), .p (.l 1 (mi r.fa.ff.fh.fb9)), .p (b4 r.fa.ff.fh.fc), .p (i4 r.fa.ff.f7.fa5), .p (.v (.int .u64 r.fa.ff.f7.fa2)), .p (.l 1 (mi r.fa.ff.f7.fa3)), .p (i4 r.fa.ff.fb0.fu), .p (i4 r.fa.ff.fb0.fy), .p (.l 3 (List.map Q1 r.fa.ff.fb0.fq)), .p (b4 r.fa.ff.fb0.fc), .p (i4 r.fa.ff.fi.fu), .p (i4 r.fa.ff.fi.fy), .p (i4 r.fa.ff.fi.fd3), .p (.l 3 (List.map Q1 r.fa.ff.fi.fq)), .p (b4 r.fa.ff.fi.fc), .p (i4 r.fa.ff.fw.fu), .p (i4 r.fa.ff.fw.fy), .p (i4 r.fa.ff.fw.fc8), .p (.l 1 (List.map (eL 1 eS) r.fa.ff.fw.fa9)), .p (b4 r.fa.ff.fw.fc), .p (i4 r.fa.fg.fj.f8), .p (i4 r.fa.fg.fj.fu), .p (i4 r.fa.fg.fj.fa4), .p (.v (.int .u64 r.fa.fg.fj.fa2)), .p (i4 r.fa.fg.fa1.fy), .p (i4 r.fa.fg.fa1.fa7), .p (b4 r.fa.fg.fa1.fc), .p (i4 r.fa.fg.fh.fa4), .p (i4 r.fa.fg.fh.fu), .p (.v (.int .u64 r.fa.fg.fh.fa2)), .p (.l 1 (mi r.fa.fg.fh.fb9)), .p (b4 r.fa.fg.fh.fc), .p (i4 r.fa.fg.f7.fa5), .p (.v (.int .u64 r.fa.fg.f7.fa2)), .p (.l 1 (mi r.fa.fg.f7.fa3)), .p (i4 r.fa.fg.fb0.fu), .p (i4 r.fa.fg.fb0.fy), .p (.l 3 (List.map Q1 r.fa.fg.fb0.fq)), .p (b4 r.fa.fg.fb0.fc), .p (i4 r.fa.fg.fi.fu), .p (i4 r.fa.fg.fi.fy), .p (i4 r.fa.fg.fi.fd3), .p (.l 3 (List.map Q1 r.fa.fg.fi.fq)), .p (b4 r.fa.fg.fi.fc), .p (i4 r.fa.fg.fw.fu), .p (i4 r.fa.fg.fw.fy), .p (i4 r.fa.fg.fw.fc8), .p (.l 1 (List.map (eL 1 eS) r.fa.fg.fw.fa9)), .p (b4 r.fa.fg.fw.fc), .p (i4 r.fa.fd7), .p (i4 r.fa.fg8), .p (i4 r.fa.fc1), .p (i4 r.fa.fd1), .p (i4 r.fa.fAt.fb8), .p (i4 r.fa.fAt.fd5), .p (.l 1 (List.map (eI .u8) r.fa.fc2)), .p (b4 r.fa.ff2), .p (i4 r.f0.fh6), .p (i4 r.f0.f9), .p (i4 r.f0.fg5), .p (i4 r.f0.fc1), .p (.l 1 (List.map eS r.f0.fb2)), .p (i4 r.f0.fb1.fg6), .p (i4 r.f0.fb1.ff4), .p (s4 r.f0.fb1.fd4), .p (.l 1 (mi r.f0.fb1.fg1)), .p (.l 3 (List.map Q1 r.f0.fb1.fq)), .p (b4 r.f0.fb1.fc), .p (.l 1 (List.map (eI .u8) r.f0.fc2)), .p (b4 r.fg4)]]) (fun _ => [])
instance Qjj : ∀ {a0 a1 a2 a3}, Gm (Xx a0 a1 a2 a3) := Z7 (Xx.eq_1 _ _ _ _)
def W8 (a0 : List Int) (Q : ((List Int) × Int) → Prop) : Prop :=
 ∃ v1, Rr (Vm 88 a0) v1 ∧ Q (v1.1, v1.2)
abbrev Gg : Prop := ∀ {a0}, Fg (W8 a0) 21 [.c (.l 1 (List.map (eI .u8) a0))] (fun r => [.c (.own 1 (List.map (eI .u8) r.1)), .c (.p (i4 r.2))]) (fun _ => [])
instance Qrh : ∀ {a0}, Gm (W8 a0) := Z7 (W8.eq_1 _)
def KC (a0 : List QH) (a1 : Int) (a2 : Int) (Q : (QH × ByteArray × Int) → Prop) : Prop :=
 ∃ v2, ((!(bif decide (a1 < 0) then true else decide (a1 ≥ (a0.length : Int)))) = true → ix a0 a1 v2) ∧ ct (bif (bif decide (a1 < 0) then true else decide (a1 ≥ (a0.length : Int))) then true else !(v2.fh9)) (Q ((QH.mk false 0 []), (⟨#[]⟩ : ByteArray), 8)) (Qg (ZP.mk [0, 1, 2, 6] [(6, 0)] 4) (∃ v4, ((!(decide (a2 < 0))) = true → ix a0 a1 v4) ∧ ct (bif decide (a2 < 0) then true else decide (a2 ≥ (v4.fb2.length : Int))) (Q ((QH.mk false 0 []), (⟨#[]⟩ : ByteArray), 5)) (Qg (ZP.mk [0, 1, 2, 6] [(6, 0)] 6) (∃ v5, ix a0 a1 v5 ∧ ∃ v6, ix a0 a1 v6 ∧ ∃ v7, ix v6.fb2 a2 v7 ∧ Q (v5, v7, 0)))))
abbrev YF : Prop := ∀ {a0 a1 a2}, Fg (KC a0 a1 a2) 144 [.c (.l 3 (List.map Kg a0)), .c (i4 a1), .c (i4 a2)] (fun r => [.agg [.p (b4 r.1.fh9), .p (i4 r.1.f9), .p (.l 1 (List.map eS r.1.fb2))], .c (.p (s4 r.2.1)), .c (.p (i4 r.2.2))]) (fun _ => [])
instance Qeh : ∀ {a0 a1 a2}, Gm (KC a0 a1 a2) := Z7 (KC.eq_1 _ _ _)
def Vy (a0 : Int) (a1 : Int) (Q : (Int × Int) → Prop) : Prop :=
 ct (bif decide (a0 < 0) then true else decide (a1 < 1)) (Q (0, 5)) (Qg (ZP.mk [0, 1] [] 4) (((a1 : Int) ≠ 0) ∧ ct (decide ((a0.tmod a1) > 0)) (((a1 : Int) ≠ 0) ∧ Q ((i64.wrap ((i64.wrap (a0.tdiv a1)) + 1)), 0)) (((a1 : Int) ≠ 0) ∧ Q ((i64.wrap (a0.tdiv a1)), 0))))
abbrev Bb : Prop := ∀ {a0 a1}, Fg (Vy a0 a1) 188 [.c (i4 a0), .c (i4 a1)] (fun r => [.c (.p (i4 r.1)), .c (.p (i4 r.2))]) (fun _ => [])
instance Qjk : ∀ {a0 a1}, Gm (Vy a0 a1) := Z7 (Vy.eq_1 _ _)
def Xi (a0 : Int) (a1 : Int) (Q : (Int × Int) → Prop) : Prop :=
 ct (bif (bif decide (a0 < 0) then true else decide (a1 < 1)) then true else decide (a1 > 1024)) (Q (0, 5)) (Qg (ZP.mk [0, 1] [] 4) (∃ v2, Rr (Vy a0 a1) v2 ∧ Q (v2.1, v2.2)))
abbrev C8 : Prop := ∀ {a0 a1}, Fg (Xi a0 a1) 146 [.c (i4 a0), .c (i4 a1)] (fun r => [.c (.p (i4 r.1)), .c (.p (i4 r.2))]) (fun _ => [])
instance Qn6 : ∀ {a0 a1}, Gm (Xi a0 a1) := Z7 (Xi.eq_1 _ _)
def Xy (a0 : Q2) (a1 : QA) (a2 : List QH) (a3 : Qq) (a4 : Qe) (Q : Qk → Prop) : Prop :=
 ∃ v1, Rr (KC a2 a3.fc1 a3.fg2) v1 ∧ ct (a4.fc6 == 0) (ct (v1.2.2 != 0) (∃ v4, Rr (QW a0 v1.2.2) v4 ∧ Q v4) (∃ v5, Rr (VY a0 v1.2.1 v1.1.f9) v5 ∧ ∃ v6, Rr (W8 v5.1) v6 ∧ Qg (ZP.mk [5, 6, 10, 16] [(5, 0), (6, 0), (10, 0), (16, 0), (49, 0)] 9) (∃ v7, Rr (Xi (v6.1.length : Int) a1.fb7) v7 ∧ Q (Qk.mk a0 (Qe.mk 1 0 false [] 0 (Q9.mk (Q7.mk 0 0 0 0) (Qb.mk 0 0 false) (Q3.mk 0 0 0 [] false) (Q8.mk 0 0 []) (Qd.mk 0 0 [] false) (Q4.mk 0 0 0 [] false) (Qa.mk 0 0 0 [] false)) (Q9.mk (Q7.mk 0 0 0 0) (Qb.mk 0 0 false) (Q3.mk 0 0 0 [] false) (Q8.mk 0 0 []) (Qd.mk 0 0 [] false) (Q4.mk 0 0 0 [] false) (Qa.mk 0 0 0 [] false)) v7.1 0 0 0 (QI.mk 0 0) v6.1 false) (Qf.mk 0 0 0 0 [] (Qj.mk 0 0 ByteArray.empty [] [] false) []) false)))) (ct (decide ((KH (i64.wrap (a4.fd7 - (KH a1.fb5 1))) 0) > 0)) (Q (Qk.mk a0 (Qe.mk a4.fc6 a4.fg3 a4.ff9 a4.fc0 a4.fb8 a4.ff a4.fg (KH (i64.wrap (a4.fd7 - (KH a1.fb5 1))) 0) a4.fg8 a4.fc1 a4.fd1 a4.fAt a4.fc2 a4.ff2) (Qf.mk 0 0 0 0 [] (Qj.mk 0 0 ByteArray.empty [] [] false) []) false)) (∃ v9, Rr (ZW a0 v1.2.1 v1.1.f9) v9 ∧ Qg (ZP.mk [5, 9, 10, 11, 18] [(5, 0), (9, 0), (10, 0), (11, 0)] 15) (Q (Qk.mk a0 (Qe.mk 0 0 false [] 0 (Q9.mk (Q7.mk 0 0 0 0) (Qb.mk 0 0 false) (Q3.mk 0 0 0 [] false) (Q8.mk 0 0 []) (Qd.mk 0 0 [] false) (Q4.mk 0 0 0 [] false) (Qa.mk 0 0 0 [] false)) (Q9.mk (Q7.mk 0 0 0 0) (Qb.mk 0 0 false) (Q3.mk 0 0 0 [] false) (Q8.mk 0 0 []) (Qd.mk 0 0 [] false) (Q4.mk 0 0 0 [] false) (Qa.mk 0 0 0 [] false)) 0 0 0 0 (QI.mk 0 0) [] false) (Qf.mk 0 v1.1.f9 v9.2.1 0 [] (Qj.mk 0 0 ByteArray.empty [] [] false) a4.fc2) true))))
abbrev DR : Prop := ∀ {a0 a1 a2 a3 a4}, Fg (Xy a0 a1 a2 a3 a4) 99 [.agg (Qu a0), .agg (XY a1), .c (.l 3 (List.map Kg a2)), .agg (JF a3), .agg (Vj a4)] (fun r => [.agg [.p (i4 r.fx.fk.fa0), .p (i4 r.fx.fk.fb2), .p (i4 r.fx.fk.fa8), .p (i4 r.fx.fk.fb7), .p (i4 r.fx.fk.fc5), .p (i4 r.fx.fk.fc7), .p (i4 r.fx.fk.fb5), .p (i4 r.fx.f9), .p (i4 r.fx.ff3), .p (.l 2 (List.map Qi r.fx.fa6)), .p (.l 4 (List.map Qc r.fx.fb4)), .p (.l 2 (List.map Qm r.fx.fc5)), .p (i4 r.fx.fc4.fc3), .p (.l 3 (List.map Qp r.fx.fc4.fa8)), .p (i4 r.fa.fc6), .p (i4 r.fa.fg3), .p (b4 r.fa.ff9), .p (.l 1 (mi r.fa.fc0)), .p (i4 r.fa.fb8), .p (i4 r.fa.ff.fj.f8), .p (i4 r.fa.ff.fj.fu), .p (i4 r.fa.ff.fj.fa4), .p (.v (.int .u64 r.fa.ff.fj.fa2)), .p (i4 r.fa.ff.fa1.fy), .p (i4 r.fa.ff.fa1.fa7), .p (b4 r.fa.ff.fa1.fc), .p (i4 r.fa.ff.fh.fa4), .p (i4 r.fa.ff.fh.fu), .p (.v (.int .u64 r.fa.ff.fh.fa2)), .p (.l 1 (mi r.fa.ff.fh.fb9)), .p (b4 r.fa.ff.fh.fc), .p (i4 r.fa.ff.f7.fa5), .p (.v (.int .u64 r.fa.ff.f7.fa2)), .p (.l 1 (mi r.fa.ff.f7.fa3)), .p (i4 r.fa.ff.fb0.fu), .p (i4 r.fa.ff.fb0.fy), .p (.l 3 (List.map Q1 r.fa.ff.fb0.fq)), .p (b4 r.fa.ff.fb0.fc), .p (i4 r.fa.ff.fi.fu), .p (i4 r.fa.ff.fi.fy), .p (i4 r.fa.ff.fi.fd3), .p (.l 3 (List.map Q1 r.fa.ff.fi.fq)), .p (b4 r.fa.ff.fi.fc), .p (i4 r.fa.ff.fw.fu), .p (i4 r.fa.ff.fw.fy), .p (i4 r.fa.ff.fw.fc8), .p (.l 1 (List.map (eL 1 eS) r.fa.ff.fw.fa9)), .p (b4 r.fa.ff.fw.fc), .p (i4 r.fa.fg.fj.f8), .p (i4 r.fa.fg.fj.fu), .p (i4 r.fa.fg.fj.fa4), .p (.v (.int .u64 r.fa.fg.fj.fa2)), .p (i4 r.fa.fg.fa1.fy), .p (i4 r.fa.fg.fa1.fa7), .p (b4 r.fa.fg.fa1.fc), .p (i4 r.fa.fg.fh.fa4), .p (i4 r.fa.fg.fh.fu), .p (.v (.int .u64 r.fa.fg.fh.fa2)), .p (.l 1 (mi r.fa.fg.fh.fb9)), .p (b4 r.fa.fg.fh.fc), .p (i4 r.fa.fg.f7.fa5), .p (.v (.int .u64 r.fa.fg.f7.fa2)), .p (.l 1 (mi r.fa.fg.f7.fa3)), .p (i4 r.fa.fg.fb0.fu), .p (i4 r.fa.fg.fb0.fy), .p (.l 3 (List.map Q1 r.fa.fg.fb0.fq)), .p (b4 r.fa.fg.fb0.fc), .p (i4 r.fa.fg.fi.fu), .p (i4 r.fa.fg.fi.fy), .p (i4 r.fa.fg.fi.fd3), .p (.l 3 (List.map Q1 r.fa.fg.fi.fq)), .p (b4 r.fa.fg.fi.fc), .p (i4 r.fa.fg.fw.fu), .p (i4 r.fa.fg.fw.fy), .p (i4 r.fa.fg.fw.fc8), .p (.l 1 (List.map (eL 1 eS) r.fa.fg.fw.fa9)), .p (b4 r.fa.fg.fw.fc), .p (i4 r.fa.fd7), .p (i4 r.fa.fg8), .p (i4 r.fa.fc1), .p (i4 r.fa.fd1), .p (i4 r.fa.fAt.fb8), .p (i4 r.fa.fAt.fd5), .p (.l 1 (List.map (eI .u8) r.fa.fc2)), .p (b4 r.fa.ff2), .p (i4 r.f0.fh6), .p (i4 r.f0.f9), .p (i4 r.f0.fg5), .p (i4 r.f0.fc1), .p (.l 1 (List.map eS r.f0.fb2)), .p (i4 r.f0.fb1.fg6), .p (i4 r.f0.fb1.ff4), .p (s4 r.f0.fb1.fd4), .p (.l 1 (mi r.f0.fb1.fg1)), .p (.l 3 (List.map Q1 r.f0.fb1.fq)), .p (b4 r.f0.fb1.fc), .p (.l 1 (List.map (eI .u8) r.f0.fc2)), .p (b4 r.fg4)]]) (fun _ => [])
instance Qjl : ∀ {a0 a1 a2 a3 a4}, Gm (Xy a0 a1 a2 a3 a4) := Z7 (Xy.eq_1 _ _ _ _ _)
def Xz (a0 : List Int) (Q : ((List Int) × Int) → Prop) : Prop :=
 ∃ v1, Rr (Vx a0) v1 ∧ ct (v1.2.2.2 != 0) (Q ([], v1.2.2.2)) (ct (bif (v1.1 != 88) then true else (v1.2.2.1 != (a0.length : Int))) (Q ([], 2)) (Qg (ZP.mk [5] [(10, 1)] 7) (Q (v1.2.1, 0))))
abbrev DT : Prop := ∀ {a0}, Fg (Xz a0) 148 [.c (.l 1 (List.map (eI .u8) a0))] (fun r => [.c (.own 1 (List.map (eI .u8) r.1)), .c (.p (i4 r.2))]) (fun _ => [])
instance Qjm : ∀ {a0}, Gm (Xz a0) := Z7 (Xz.eq_1 _)
def Y9 (a0 : List Qn) (a1 : Int) (Q : (List ByteArray) → Prop) : Prop :=
 jo (fun (p1 : List ByteArray) => sh [] [] [(5, .c (.sl (5, 1000) 0 (List.map eS p1).length))] [((5, 1000), some (.row 1 (List.map eS p1) true))]) (fun p1 => Q p1) (fun J1 => lv (fun (s2 : (List ByteArray) × Int) => 0 ≤ s2.2 ∧ s2.2 ≤ (a0.length : Int) ∧ (s2.1.length : Int) ≤ (([] : List ByteArray).length : Int) + (s2.2 - 0)) (fun s2 => ((a0.length : Int) - s2.2 + 1).toNat) (fun s2 => sh [0, 1] [] [(5, .c (.sl (5, 1000) 0 (List.map eS s2.1).length)), (6, tI s2.2)] [((5, 1000), some (.row 1 (List.map eS s2.1) true))]) (fun X2 s2 => ct (decide (s2.2 < (a0.length : Int))) (jo (fun (p4 : List ByteArray) => sh [0, 1, 6] [] [(5, .c (.sl (5, 1000) 0 (List.map eS p4).length))] [((5, 1000), some (.row 1 (List.map eS p4) true))]) (fun p4 => X2 (p4, (i64.wrap (s2.2 + 1)))) (fun J4 => ∃ v6, ix a0 s2.2 v6 ∧ ∃ v7, ix a0 s2.2 v7 ∧ ∃ v8, Rr (J0 v6.fd5 v7.fTo a1) v8 ∧ ct (!(v8)) (J4 s2.1) (jo (fun (p9 : (List ByteArray) × Int) => sh [0, 1, 6] [] [(5, .c (.sl (5, 1000) 0 (List.map eS p9.1).length)), (7, tI p9.2)] [((5, 1000), some (.row 1 (List.map eS p9.1) true))]) (fun p9 => ∃ v15, ((decide (p9.2 < (p9.1.length : Int))) = true → ix p9.1 p9.2 v15) ∧ ∃ v16, ((decide (p9.2 < (p9.1.length : Int))) = true → ix a0 s2.2 v16) ∧ ct (bif decide (p9.2 < (p9.1.length : Int)) then (v15.toList == v16.fd2.toList) else false) (J4 p9.1) (Qg (ZP.mk [0, 1, 5, 6, 7] [(5, 1000)] 11) (((0 : Int) ≤ p9.2 ∧ (p9.2 : Int) ≤ (((List.map eS p9.1).length : Nat) : Int)) ∧ ((List.take (Int.toNat p9.2) (List.drop 0 p9.1)).length * 16 ≤ 140737488355328) ∧ ∃ v19, ix a0 s2.2 v19 ∧ Qg (List.map eS [v19.fd2]) ((((List.take (Int.toNat p9.2) (List.drop 0 p9.1)).length + ([v19.fd2]).length) * 16 ≤ 140737488355328) ∧ ((0 : Int) ≤ p9.2 ∧ (p9.2 : Int) ≤ (((List.map eS p9.1).length : Nat) : Int)) ∧ ((((List.take (Int.toNat p9.2) (List.drop 0 p9.1)) ++ ([v19.fd2])).length + (List.take ((List.map eS p9.1).length - Int.toNat p9.2) (List.drop (0 + Int.toNat p9.2) p9.1)).length) * 16 ≤ 140737488355328) ∧ J4 (((List.take (Int.toNat p9.2) (List.drop 0 p9.1)) ++ ([v19.fd2])) ++ (List.take ((List.map eS p9.1).length - Int.toNat p9.2) (List.drop (0 + Int.toNat p9.2) p9.1))))))) (fun J9 => lv (fun (s10 : (List ByteArray) × Int) => s10.1 = s2.1 ∧ (s10.1.length : Int) = (s2.1.length : Int) ∧ 0 ≤ s10.2 ∧ s10.2 ≤ (s10.1.length : Int)) (fun s10 => ((s10.1.length : Int) - s10.2 + 1).toNat) (fun s10 => sh [0, 1, 6] [] [(5, .c (.sl (5, 1000) 0 (List.map eS s10.1).length)), (7, tI s10.2)] [((5, 1000), some (.row 1 (List.map eS s10.1) true))]) (fun X10 s10 => ∃ v12, ((decide (s10.2 < (s10.1.length : Int))) = true → ix s10.1 s10.2 v12) ∧ ∃ v13, ((decide (s10.2 < (s10.1.length : Int))) = true → ix a0 s2.2 v13) ∧ ct (bif decide (s10.2 < (s10.1.length : Int)) then (Op.bytesLess v12.toList v13.fd2.toList) else false) (Qg (ZP.mk [0, 1, 5, 6, 7] [(5, 1000)] 9) (X10 (s10.1, (i64.wrap (s10.2 + 1))))) (J9 (s10.1, s10.2))) (s2.1, 0))))) (J1 s2.1)) ([], 0))
abbrev Dd : Prop := ∀ {a0 a1}, Fg (Y9 a0 a1) 198 [.c (.l 4 (List.map Qc a0)), .c (i4 a1)] (fun r => [.c (.own 1 (List.map eS r))]) (fun _ => [])
instance Qri : ∀ {a0 a1}, Gm (Y9 a0 a1) := Z7 (Y9.eq_1 _ _)
def Zf (a0 : List Qn) (Q : Int → Prop) : Prop :=
 jo (fun (p1 : Unit) => sh [0] [] [] []) (fun p1 => jo (fun (p12 : Unit) => sh [] [] [] []) (fun p12 => Q 0) (fun J12 => lv (fun (s13 : Int) => 0 ≤ s13 ∧ s13 ≤ (a0.length : Int)) (fun s13 => ((a0.length : Int) - s13 + 1).toNat) (fun s13 => sh [0] [] [(6, tI s13)] []) (fun X13 s13 => ct (decide (s13 < (a0.length : Int))) (jo (fun (p15 : Unit) => sh [0, 6] [] [] []) (fun p15 => X13 (i64.wrap (s13 + 1))) (fun J15 => lv (fun (s16 : Int) => 0 ≤ s16) (fun s16 => (s13 - s16 + 1).toNat) (fun s16 => sh [0, 6] [] [(7, tI s16)] []) (fun X16 s16 => ct (decide (s16 < s13)) (∃ v19, ix a0 s13 v19 ∧ ∃ v20, ix a0 s16 v20 ∧ ∃ v21, ((v19.fb8 == v20.fb8) = true → ix a0 s16 v21) ∧ ∃ v22, ((v19.fb8 == v20.fb8) = true → ix a0 s16 v22) ∧ ∃ v23, ((v19.fb8 == v20.fb8) = true → ix a0 s13 v23) ∧ ∃ v24, ((v19.fb8 == v20.fb8) = true → Rr (J0 v21.fd5 v22.fTo v23.fd5) v24) ∧ ∃ v25, (((v19.fb8 == v20.fb8) && !(v24)) = true → ix a0 s13 v25) ∧ ∃ v26, (((v19.fb8 == v20.fb8) && !(v24)) = true → ix a0 s13 v26) ∧ ∃ v27, (((v19.fb8 == v20.fb8) && !(v24)) = true → ix a0 s16 v27) ∧ ∃ v28, (((v19.fb8 == v20.fb8) && !(v24)) = true → Rr (J0 v25.fd5 v26.fTo v27.fd5) v28) ∧ ct (bif (v19.fb8 == v20.fb8) then (bif v24 then true else v28) else false) (Q 9) (Qg (ZP.mk [0, 6, 7] [] 21) (X16 (i64.wrap (s16 + 1))))) (J15 ())) 0)) (J12 ())) 0)) (fun J1 => lv (fun (s2 : Int) => 0 ≤ s2 ∧ s2 ≤ (a0.length : Int)) (fun s2 => ((a0.length : Int) - s2 + 1).toNat) (fun s2 => sh [0] [] [(3, tI s2)] []) (fun X2 s2 => ct (decide (s2 < (a0.length : Int))) (jo (fun (p4 : Unit) => sh [0, 3] [] [] []) (fun p4 => X2 (i64.wrap (s2 + 1))) (fun J4 => ∃ v5, ix a0 s2 v5 ∧ ∃ v7, Rr (Zw v5.fd2) v7 ∧ ct (!(v7)) (Q 6) (ct (bif (bif decide (v5.fb8 < 1) then true else decide (v5.fd5 < 1)) then true else decide (v5.fTo < 0)) (Q 5) (Qg (ZP.mk [0, 3, 4] [(4, 0)] 10) (ct (bif (v5.fTo != 0) then decide (v5.fTo ≤ v5.fd5) else false) (Q 19) (Qg (ZP.mk [0, 3, 4] [(4, 0)] 12) (ct (s2 == 0) (J4 ()) (∃ v11, ix a0 (i64.wrap (s2 - 1)) v11 ∧ ct (bif (!(Op.bytesLess v11.fd2.toList v5.fd2.toList || v11.fd2.toList == v5.fd2.toList)) then true else (bif (v11.fd2.toList == v5.fd2.toList) then (bif (bif decide (v11.fd5 ≥ v5.fd5) then true else (v11.fTo == 0)) then true else decide (v11.fTo > v5.fd5)) else false)) (Q 19) (J4 ()))))))))) (J1 ())) 0)
abbrev Ja : Prop := ∀ {a0}, Fg (Zf a0) 235 [.c (.l 4 (List.map Qc a0))] (fun r => [.c (.p (i4 r))]) (fun _ => [])
instance S8 : ∀ {a0}, Gm (Zf a0) := Z7 (Zf.eq_1 _)
def VZ (a0 : List Qn) (a1 : Int) (Q : Bool → Prop) : Prop :=
 jo (fun (p1 : Unit) => sh [] [] [] []) (fun p1 => Q false) (fun J1 => lv (fun (s2 : Int) => 0 ≤ s2 ∧ s2 ≤ (a0.length : Int)) (fun s2 => ((a0.length : Int) - s2 + 1).toNat) (fun s2 => sh [0, 1] [] [(5, tI s2)] []) (fun X2 s2 => ct (decide (s2 < (a0.length : Int))) (∃ v5, ix a0 s2 v5 ∧ ∃ v6, ((!(decide (a1 < v5.fd5))) = true → ix a0 s2 v6) ∧ ct (bif decide (a1 < v5.fd5) then true else decide (a1 < v6.fTo)) (Q true) (Qg (ZP.mk [0, 1, 5] [] 4) (X2 (i64.wrap (s2 + 1))))) (J1 ())) 0)
abbrev Bc : Prop := ∀ {a0 a1}, Fg (VZ a0 a1) 236 [.c (.l 4 (List.map Qc a0)), .c (i4 a1)] (fun r => [.c (.p (b4 r))]) (fun _ => [])
instance Qrj : ∀ {a0 a1}, Gm (VZ a0 a1) := Z7 (VZ.eq_1 _ _)
def Xj (a0 : List Qn) (a1 : Qn) (Q : (List Qn) → Prop) : Prop :=
 (a0.length * 40 ≤ 140737488355328) ∧ Qg (List.map Qc [a1]) (((a0.length + ([a1]).length) * 40 ≤ 140737488355328) ∧ jo (fun (p3 : List Qn) => sh [] [] [(5, .c (.sl (5, 1000) 0 (List.map Qc p3).length))] [((5, 1000), some (.row 4 (List.map Qc p3) true))]) (fun p3 => Q p3) (fun J3 => lv (fun (s4 : (List Qn) × Int) => (s4.1.length : Int) = ((a0 ++ ([a1])).length : Int) ∧ -1 ≤ s4.2 ∧ s4.2 < ((a0 ++ ([a1])).length : Int) ∧ (∀ x ∈ s4.1, x ∈ a0 ++ ([a1]))) (fun s4 => (s4.2 + 1).toNat) (fun s4 => sh [] [] [(5, .c (.sl (5, 1000) 0 (List.map Qc s4.1).length)), (6, tI s4.2)] [((5, 1000), some (.row 4 (List.map Qc s4.1) true))]) (fun X4 s4 => ∃ v6, ((decide (s4.2 > 0)) = true → ix s4.1 s4.2 v6) ∧ ∃ v7, ((decide (s4.2 > 0)) = true → ix s4.1 (i64.wrap (s4.2 - 1)) v7) ∧ ∃ v8, ((decide (s4.2 > 0) && !(Op.bytesLess v6.fd2.toList v7.fd2.toList)) = true → ix s4.1 s4.2 v8) ∧ ∃ v9, ((decide (s4.2 > 0) && !(Op.bytesLess v6.fd2.toList v7.fd2.toList)) = true → ix s4.1 (i64.wrap (s4.2 - 1)) v9) ∧ ∃ v10, (((decide (s4.2 > 0) && !(Op.bytesLess v6.fd2.toList v7.fd2.toList)) && (v8.fd2.toList == v9.fd2.toList)) = true → ix s4.1 s4.2 v10) ∧ ∃ v11, (((decide (s4.2 > 0) && !(Op.bytesLess v6.fd2.toList v7.fd2.toList)) && (v8.fd2.toList == v9.fd2.toList)) = true → ix s4.1 (i64.wrap (s4.2 - 1)) v11) ∧ ct (bif decide (s4.2 > 0) then (bif (Op.bytesLess v6.fd2.toList v7.fd2.toList) then true else (bif (v8.fd2.toList == v9.fd2.toList) then decide (v10.fd5 < v11.fd5) else false)) else false) (Qg (ZP.mk [5, 6] [(5, 1000)] 6) (∃ v13, ix s4.1 (i64.wrap (s4.2 - 1)) v13 ∧ ∃ v14, ix s4.1 s4.2 v14 ∧ ∃ v15, ix s4.1 s4.2 v15 ∧ Qg v13 (∃ v16, ix (List.set s4.1 (Int.toNat s4.2) v13) (i64.wrap (s4.2 - 1)) v16 ∧ Qg v14 (X4 ((List.set (List.set s4.1 (Int.toNat s4.2) v13) (Int.toNat (i64.wrap (s4.2 - 1))) v14), (i64.wrap (s4.2 - 1))))))) (J3 s4.1)) ((a0 ++ ([a1])), (i64.wrap (((a0 ++ ([a1])).length : Int) - 1)))))
abbrev C9 : Prop := ∀ {a0 a1}, Fg (Xj a0 a1) 237 [.c (.l 4 (List.map Qc a0)), .agg (Qc a1)] (fun r => [.c (.own 4 (List.map Qc r))]) (fun _ => [])
instance Qn7 : ∀ {a0 a1}, Gm (Xj a0 a1) := Z7 (Xj.eq_1 _ _)
def Ya (a0 : List Qn) (a1 : ByteArray) (a2 : Int) (a3 : Int) (Q : ((List Qn) × Int) → Prop) : Prop :=
 ∃ v2, Rr (Zf a0) v2 ∧ ct (v2 != 0) (Q ([], v2)) (∃ v4, Rr (Zw a1) v4 ∧ ct (!(v4)) (Q ([], 6)) (ct (bif decide (a2 < 1) then true else decide (a3 < 1)) (Q ([], 5)) (Qg (ZP.mk [0, 1, 2, 3] [] 9) (∃ v7, Rr (VZ a0 a3) v7 ∧ ct v7 (Q ([], 19)) (jo (fun (p8 : Unit) => sh [0, 1, 2, 3] [] [] []) (fun p8 => ∃ v15, Rr (Xj a0 (Qn.mk a1 a2 a3 0)) v15 ∧ Q (v15, 0)) (fun J8 => lv (fun (s9 : Int) => 0 ≤ s9 ∧ s9 ≤ (a0.length : Int)) (fun s9 => ((a0.length : Int) - s9 + 1).toNat) (fun s9 => sh [0, 1, 2, 3] [] [(11, tI s9)] []) (fun X9 s9 => ct (decide (s9 < (a0.length : Int))) (∃ v12, ix a0 s9 v12 ∧ ∃ v13, ((v12.fTo == 0) = true → ix a0 s9 v13) ∧ ∃ v14, (((v12.fTo == 0) && !(v13.fd2.toList == a1.toList)) = true → ix a0 s9 v14) ∧ ct (bif (v12.fTo == 0) then (bif (v13.fd2.toList == a1.toList) then true else (v14.fb8 == a2)) else false) (Q ([], 9)) (Qg (ZP.mk [0, 1, 2, 3, 11] [] 13) (X9 (i64.wrap (s9 + 1))))) (J8 ())) 0))))))
abbrev Gh : Prop := ∀ {a0 a1 a2 a3}, Fg (Ya a0 a1 a2 a3) 201 [.c (.l 4 (List.map Qc a0)), .c (s4 a1), .c (i4 a2), .c (i4 a3)] (fun r => [.c (.own 4 (List.map Qc r.1)), .c (.p (i4 r.2))]) (fun _ => [])
instance Qrk : ∀ {a0 a1 a2 a3}, Gm (Ya a0 a1 a2 a3) := Z7 (Ya.eq_1 _ _ _ _)
def Vz (a0 : Q2) (a1 : ByteArray) (a2 : List Int) (Q : (Q2 × Int × Int) → Prop) : Prop :=
 ∃ v1, Rr (Xg a2 a0.fk.fb7) v1 ∧ ∃ v3, Rr (Zw a1) v3 ∧ ct (!(v3)) (Q (a0, 0, 6)) (ct (decide ((a2.length : Int) > 65536)) (Q (a0, 0, 11)) (∃ v4, Rr (Kx a0 a1) v4 ∧ ct v4 (Q (a0, 0, 9)) (∃ v5, Rr (Y9 a0.fb4 a0.f9) v5 ∧ cs (decide ((v5.length : Int) ≥ a0.fk.fb2)) (Qg (ZP.mk [1, 2, 3, 6, 9, 39] [(3, 0), (6, 0), (21, 0)] 100039) (Q (a0, 0, 14))) (cs (decide (a0.f9 ≥ a0.fk.fc7)) (Qg (ZP.mk [1, 2, 3, 6, 9, 39] [(3, 0), (6, 0), (21, 0)] 100039) (Q (a0, 0, 14))) (∃ v6, Rr (Y8 a0) v6 ∧ Qg (ZP.mk [1, 2, 3, 6, 9, 39] [(3, 0), (6, 0), (21, 0)] 100039) (ct (decide ((i64.wrap (v6 + (v1.1.length : Int))) > a0.fk.fa8)) (Q (a0, 0, 14)) (jo (fun (p7 : Int × (List QE) × (List Int)) => sh [1, 3, 6, 11] [(6, 0)] [] [((3, 0), some (.box ([.p (i4 a0.fk.fa0), .p (i4 a0.fk.fb2), .p (i4 a0.fk.fa8), .p (i4 a0.fk.fb7), .p (i4 a0.fk.fc5), .p (i4 a0.fk.fc7), .p (i4 a0.fk.fb5), .p (i4 (i64.wrap (a0.f9 + 1))), .p (i4 (i64.wrap (a0.ff3 + 1))), .p (.l 2 (List.map Qi a0.fa6)), .p (.l 4 (List.map Qc a0.fb4)), .p (.l 2 (List.map Qm a0.fc5)), .p (i4 p7.1), .p (.l 3 (List.map Qp p7.2.1))]))), ((11, 2003), some (.row 1 (mi p7.2.2) true)), ((11, 0), some (.box ([.p (i4 (i64.wrap (a0.f9 + 1))), .p (i4 0), .p (i4 (a2.length : Int)), .sl (11, 2003) 0 (mi p7.2.2).length])))]) (fun p7 => (a0.fa6.length * 32 ≤ 140737488355328) ∧ Qg (List.map Za [(Qs.mk (i64.wrap (a0.f9 + 1)) 0 (a2.length : Int) p7.2.2)]) (Qg (List.map Qi [(Qw.mk (i64.wrap (a0.ff3 + 1)) ([(Qs.mk (i64.wrap (a0.f9 + 1)) 0 (a2.length : Int) p7.2.2)]))]) (((a0.fa6.length + ([(Qw.mk (i64.wrap (a0.ff3 + 1)) ([(Qs.mk (i64.wrap (a0.f9 + 1)) 0 (a2.length : Int) p7.2.2)]))]).length) * 32 ≤ 140737488355328) ∧ ∃ v16, Rr (Ya a0.fb4 a1 (i64.wrap (a0.ff3 + 1)) (i64.wrap (a0.f9 + 1))) v16 ∧ Q ((Q2.mk a0.fk (i64.wrap (a0.f9 + 1)) (i64.wrap (a0.ff3 + 1)) (a0.fa6 ++ ([(Qw.mk (i64.wrap (a0.ff3 + 1)) ([(Qs.mk (i64.wrap (a0.f9 + 1)) 0 (a2.length : Int) p7.2.2)]))])) v16.1 a0.fc5 (Qy.mk p7.1 p7.2.1)), (i64.wrap (a0.f9 + 1)), 0)))) (fun J7 => lv (fun (s8 : (List (List Int)) × Int × Int × (List QE) × (List Int)) => s8.1 = v1.1 ∧ (∀ x ∈ s8.1, zL x) ∧ 0 ≤ s8.2.1 ∧ s8.2.1 ≤ (s8.1.length : Int) ∧ (s8.2.2.2.2.length : Int) ≤ s8.2.1 ∧ s8.2.2.1 ≤ 16384 ∧ s8.2.2.2.1.length ≤ 16384 ∧ (∀ p ∈ s8.2.2.2.1, Mp p)) (fun s8 => ((s8.1.length : Int) - s8.2.1 + 1).toNat) (fun s8 => sh [1, 3, 6, 11] [(6, 0)] [(9, .c (.sl (9, 1000) 0 (List.map (eL 1 (eI .u8)) s8.1).length)), (12, tI s8.2.1)] [((9, 1000), some (.row 1 (List.map (eL 1 (eI .u8)) s8.1) true)), ((3, 0), some (.box ([.p (i4 a0.fk.fa0), .p (i4 a0.fk.fb2), .p (i4 a0.fk.fa8), .p (i4 a0.fk.fb7), .p (i4 a0.fk.fc5), .p (i4 a0.fk.fc7), .p (i4 a0.fk.fb5), .p (i4 (i64.wrap (a0.f9 + 1))), .p (i4 (i64.wrap (a0.ff3 + 1))), .p (.l 2 (List.map Qi a0.fa6)), .p (.l 4 (List.map Qc a0.fb4)), .p (.l 2 (List.map Qm a0.fc5)), .p (i4 s8.2.2.1), .p (.l 3 (List.map Qp s8.2.2.2.1))]))), ((11, 2003), some (.row 1 (mi s8.2.2.2.2) true)), ((11, 0), some (.box ([.p (i4 (i64.wrap (a0.f9 + 1))), .p (i4 0), .p (i4 (a2.length : Int)), .sl (11, 2003) 0 (mi s8.2.2.2.2).length])))]) (fun X8 s8 => ct (decide (s8.2.1 < (s8.1.length : Int))) (∃ v11, ix s8.1 s8.2.1 v11 ∧ ∃ v12, Rr (Xh (Qy.mk s8.2.2.1 s8.2.2.2.1) v11) v12 ∧ Qg (mi [v12.2.1]) (((s8.2.2.2.2.length + ([v12.2.1]).length) * 8 ≤ 140737488355328) ∧ X8 (s8.1, (i64.wrap (s8.2.1 + 1)), v12.1.fc3, v12.1.fa8, (s8.2.2.2.2 ++ ([v12.2.1]))))) (J7 (s8.2.2.1, s8.2.2.2.1, s8.2.2.2.2))) (v1.1, 0, a0.fc4.fc3, a0.fc4.fa8, [])))))))))
abbrev Be : Prop := ∀ {a0 a1 a2}, Fg (Vz a0 a1 a2) 150 [.agg (Qu a0), .c (s4 a1), .c (.l 1 (List.map (eI .u8) a2))] (fun r => [.agg [.p (i4 r.1.fk.fa0), .p (i4 r.1.fk.fb2), .p (i4 r.1.fk.fa8), .p (i4 r.1.fk.fb7), .p (i4 r.1.fk.fc5), .p (i4 r.1.fk.fc7), .p (i4 r.1.fk.fb5), .p (i4 r.1.f9), .p (i4 r.1.ff3), .p (.l 2 (List.map Qi r.1.fa6)), .p (.l 4 (List.map Qc r.1.fb4)), .p (.l 2 (List.map Qm r.1.fc5)), .p (i4 r.1.fc4.fc3), .p (.l 3 (List.map Qp r.1.fc4.fa8))], .c (.p (i4 r.2.1)), .c (.p (i4 r.2.2))]) (fun _ => [])
instance Qjn : ∀ {a0 a1 a2}, Gm (Vz a0 a1 a2) := Z7 (Vz.eq_1 _ _ _)
def XA (a0 : Q2) (a1 : QA) (a2 : Qq) (a3 : Qe) (Q : Qk → Prop) : Prop :=
 ct (a3.fc6 == 0) (∃ v2, Rr (Xi (a2.fc2.length : Int) a1.fb7) v2 ∧ Q (Qk.mk a0 (Qe.mk 1 0 false [] 0 (Q9.mk (Q7.mk 0 0 0 0) (Qb.mk 0 0 false) (Q3.mk 0 0 0 [] false) (Q8.mk 0 0 []) (Qd.mk 0 0 [] false) (Q4.mk 0 0 0 [] false) (Qa.mk 0 0 0 [] false)) (Q9.mk (Q7.mk 0 0 0 0) (Qb.mk 0 0 false) (Q3.mk 0 0 0 [] false) (Q8.mk 0 0 []) (Qd.mk 0 0 [] false) (Q4.mk 0 0 0 [] false) (Qa.mk 0 0 0 [] false)) v2.1 0 0 0 (QI.mk 0 0) [] false) (Qf.mk 0 0 0 0 [] (Qj.mk 0 0 ByteArray.empty [] [] false) []) false)) (ct (a3.fc6 == 1) (ct (decide ((KH (i64.wrap (a3.fd7 - (KH a1.fb5 1))) 0) > 0)) (Q (Qk.mk a0 (Qe.mk a3.fc6 a3.fg3 a3.ff9 a3.fc0 a3.fb8 a3.ff a3.fg (KH (i64.wrap (a3.fd7 - (KH a1.fb5 1))) 0) a3.fg8 a3.fc1 a3.fd1 a3.fAt a3.fc2 a3.ff2) (Qf.mk 0 0 0 0 [] (Qj.mk 0 0 ByteArray.empty [] [] false) []) false)) (∃ v4, Rr (Xz a2.fc2) v4 ∧ ct (v4.2 != 0) (∃ v6, Rr (QW a0 v4.2) v6 ∧ Q v6) (∃ v7, Rr (JP v4.1) v7 ∧ ct (v7.2 != 0) (∃ v9, Rr (QW a0 v7.2) v9 ∧ Q v9) (Qg (ZP.mk [4, 7, 8] [(4, 0), (7, 0), (63, 10), (63, 14), (63, 17), (63, 22), (63, 27), (8, 0)] 17) (Q (Qk.mk a0 (Qe.mk 2 a3.fg3 a3.ff9 a3.fc0 a3.fb8 (Q9.mk v7.1.fj v7.1.fa1 (Q3.mk v7.1.fh.fa4 v7.1.fh.fu v7.1.fh.fa2 v7.1.fh.fb9 v7.1.fh.fc) (Q8.mk v7.1.f7.fa5 v7.1.f7.fa2 v7.1.f7.fa3) (Qd.mk v7.1.fb0.fu v7.1.fb0.fy v7.1.fb0.fq v7.1.fb0.fc) (Q4.mk v7.1.fi.fu v7.1.fi.fy v7.1.fi.fd3 v7.1.fi.fq v7.1.fi.fc) (Qa.mk v7.1.fw.fu v7.1.fw.fy v7.1.fw.fc8 v7.1.fw.fa9 v7.1.fw.fc)) a3.fg (KH (i64.wrap (a3.fd7 - (KH a1.fb5 1))) 0) a3.fg8 a3.fc1 a3.fd1 a3.fAt a3.fc2 a3.ff2) (Qf.mk 0 0 0 0 [] (Qj.mk 0 0 ByteArray.empty [] [] false) []) false)))))) (∃ v10, Rr (KY a3.ff) v10 ∧ ∃ v11, Rr (Vz a0 a2.fd2 v10.1) v11 ∧ ∃ v12, Rr (Ke v11.1 v11.2.1 v11.2.2) v12 ∧ Q v12))
abbrev DU : Prop := ∀ {a0 a1 a2 a3}, Fg (XA a0 a1 a2 a3) 100 [.agg (Qu a0), .agg (XY a1), .agg (JF a2), .agg (Vj a3)] (fun r => [.agg [.p (i4 r.fx.fk.fa0), .p (i4 r.fx.fk.fb2), .p (i4 r.fx.fk.fa8), .p (i4 r.fx.fk.fb7), .p (i4 r.fx.fk.fc5), .p (i4 r.fx.fk.fc7), .p (i4 r.fx.fk.fb5), .p (i4 r.fx.f9), .p (i4 r.fx.ff3), .p (.l 2 (List.map Qi r.fx.fa6)), .p (.l 4 (List.map Qc r.fx.fb4)), .p (.l 2 (List.map Qm r.fx.fc5)), .p (i4 r.fx.fc4.fc3), .p (.l 3 (List.map Qp r.fx.fc4.fa8)), .p (i4 r.fa.fc6), .p (i4 r.fa.fg3), .p (b4 r.fa.ff9), .p (.l 1 (mi r.fa.fc0)), .p (i4 r.fa.fb8), .p (i4 r.fa.ff.fj.f8), .p (i4 r.fa.ff.fj.fu), .p (i4 r.fa.ff.fj.fa4), .p (.v (.int .u64 r.fa.ff.fj.fa2)), .p (i4 r.fa.ff.fa1.fy), .p (i4 r.fa.ff.fa1.fa7), .p (b4 r.fa.ff.fa1.fc), .p (i4 r.fa.ff.fh.fa4), .p (i4 r.fa.ff.fh.fu), .p (.v (.int .u64 r.fa.ff.fh.fa2)), .p (.l 1 (mi r.fa.ff.fh.fb9)), .p (b4 r.fa.ff.fh.fc), .p (i4 r.fa.ff.f7.fa5), .p (.v (.int .u64 r.fa.ff.f7.fa2)), .p (.l 1 (mi r.fa.ff.f7.fa3)), .p (i4 r.fa.ff.fb0.fu), .p (i4 r.fa.ff.fb0.fy), .p (.l 3 (List.map Q1 r.fa.ff.fb0.fq)), .p (b4 r.fa.ff.fb0.fc), .p (i4 r.fa.ff.fi.fu), .p (i4 r.fa.ff.fi.fy), .p (i4 r.fa.ff.fi.fd3), .p (.l 3 (List.map Q1 r.fa.ff.fi.fq)), .p (b4 r.fa.ff.fi.fc), .p (i4 r.fa.ff.fw.fu), .p (i4 r.fa.ff.fw.fy), .p (i4 r.fa.ff.fw.fc8), .p (.l 1 (List.map (eL 1 eS) r.fa.ff.fw.fa9)), .p (b4 r.fa.ff.fw.fc), .p (i4 r.fa.fg.fj.f8), .p (i4 r.fa.fg.fj.fu), .p (i4 r.fa.fg.fj.fa4), .p (.v (.int .u64 r.fa.fg.fj.fa2)), .p (i4 r.fa.fg.fa1.fy), .p (i4 r.fa.fg.fa1.fa7), .p (b4 r.fa.fg.fa1.fc), .p (i4 r.fa.fg.fh.fa4), .p (i4 r.fa.fg.fh.fu), .p (.v (.int .u64 r.fa.fg.fh.fa2)), .p (.l 1 (mi r.fa.fg.fh.fb9)), .p (b4 r.fa.fg.fh.fc), .p (i4 r.fa.fg.f7.fa5), .p (.v (.int .u64 r.fa.fg.f7.fa2)), .p (.l 1 (mi r.fa.fg.f7.fa3)), .p (i4 r.fa.fg.fb0.fu), .p (i4 r.fa.fg.fb0.fy), .p (.l 3 (List.map Q1 r.fa.fg.fb0.fq)), .p (b4 r.fa.fg.fb0.fc), .p (i4 r.fa.fg.fi.fu), .p (i4 r.fa.fg.fi.fy), .p (i4 r.fa.fg.fi.fd3), .p (.l 3 (List.map Q1 r.fa.fg.fi.fq)), .p (b4 r.fa.fg.fi.fc), .p (i4 r.fa.fg.fw.fu), .p (i4 r.fa.fg.fw.fy), .p (i4 r.fa.fg.fw.fc8), .p (.l 1 (List.map (eL 1 eS) r.fa.fg.fw.fa9)), .p (b4 r.fa.fg.fw.fc), .p (i4 r.fa.fd7), .p (i4 r.fa.fg8), .p (i4 r.fa.fc1), .p (i4 r.fa.fd1), .p (i4 r.fa.fAt.fb8), .p (i4 r.fa.fAt.fd5), .p (.l 1 (List.map (eI .u8) r.fa.fc2)), .p (b4 r.fa.ff2), .p (i4 r.f0.fh6), .p (i4 r.f0.f9), .p (i4 r.f0.fg5), .p (i4 r.f0.fc1), .p (.l 1 (List.map eS r.f0.fb2)), .p (i4 r.f0.fb1.fg6), .p (i4 r.f0.fb1.ff4), .p (s4 r.f0.fb1.fd4), .p (.l 1 (mi r.f0.fb1.fg1)), .p (.l 3 (List.map Q1 r.f0.fb1.fq)), .p (b4 r.f0.fb1.fc), .p (.l 1 (List.map (eI .u8) r.f0.fc2)), .p (b4 r.fg4)]]) (fun _ => [])
instance Qjo : ∀ {a0 a1 a2 a3}, Gm (XA a0 a1 a2 a3) := Z7 (XA.eq_1 _ _ _ _)
def W9 (a0 : List QH) (Q : (Int × Bool) → Prop) : Prop :=
 jo (fun (p1 : Unit) => sh [] [] [] []) (fun p1 => Q (0, false)) (fun J1 => lv (fun (s2 : Int) => 0 ≤ s2 ∧ s2 ≤ (a0.length : Int)) (fun s2 => ((a0.length : Int) - s2 + 1).toNat) (fun s2 => sh [0] [] [(4, tI s2)] []) (fun X2 s2 => ct (decide (s2 < (a0.length : Int))) (∃ v5, ix a0 s2 v5 ∧ ct (!(v5.fh9)) (Q (s2, true)) (X2 (i64.wrap (s2 + 1)))) (J1 ())) 0)
abbrev Gi : Prop := ∀ {a0}, Fg (W9 a0) 152 [.c (.l 3 (List.map Kg a0))] (fun r => [.c (.p (i4 r.1)), .c (.p (b4 r.2))]) (fun _ => [])
instance Qrl : ∀ {a0}, Gm (W9 a0) := Z7 (W9.eq_1 _)
def Wa (a0 : Q2) (a1 : Int) (a2 : List QH) (a3 : Qq) (a4 : Qe) (Q : Qk → Prop) : Prop :=
 jo (fun (p1 : Unit) => sh [1, 5, 9, 10] [(5, 0), (9, 0), (10, 0)] [] []) (fun p1 => ct (decide ((KH (i64.wrap (a4.fd7 - (KH a1 1))) 0) > 0)) (Q (Qk.mk a0 (Qe.mk a4.fc6 a4.fg3 a4.ff9 a4.fc0 a4.fb8 a4.ff a4.fg (KH (i64.wrap (a4.fd7 - (KH a1 1))) 0) a4.fg8 a4.fc1 a4.fd1 a4.fAt a4.fc2 a4.ff2) (Qf.mk 0 0 0 0 [] (Qj.mk 0 0 ByteArray.empty [] [] false) []) false)) (Q (Qk.mk a0 (Qe.mk 0 0 false [] 0 (Q9.mk (Q7.mk 0 0 0 0) (Qb.mk 0 0 false) (Q3.mk 0 0 0 [] false) (Q8.mk 0 0 []) (Qd.mk 0 0 [] false) (Q4.mk 0 0 0 [] false) (Qa.mk 0 0 0 [] false)) (Q9.mk (Q7.mk 0 0 0 0) (Qb.mk 0 0 false) (Q3.mk 0 0 0 [] false) (Q8.mk 0 0 []) (Qd.mk 0 0 [] false) (Q4.mk 0 0 0 [] false) (Qa.mk 0 0 0 [] false)) 0 0 0 0 (QI.mk 0 0) [] false) (Qf.mk 0 a4.fg3 0 a4.fc1 [] (Qj.mk 0 0 ByteArray.empty [] [] false) []) true))) (fun J1 => ct (a4.fc6 == 0) (jo (fun (p2 : Unit) => sh [2, 5, 8, 10] [(5, 0), (8, 0), (10, 0)] [] []) (fun p2 => ∃ v9, Rr (W9 a2) v9 ∧ ct (!(v9.2)) (∃ v11, Rr (QW a0 11) v11 ∧ Q v11) (∃ v12, Rr (Xe a0 a0.f9) v12 ∧ ct (v12.2 != 0) (∃ v14, Rr (QW a0 v12.2) v14 ∧ Q v14) (Q (Qk.mk v12.1 (Qe.mk 1 a0.f9 true [] 0 (Q9.mk (Q7.mk 0 0 0 0) (Qb.mk 0 0 false) (Q3.mk 0 0 0 [] false) (Q8.mk 0 0 []) (Qd.mk 0 0 [] false) (Q4.mk 0 0 0 [] false) (Qa.mk 0 0 0 [] false)) (Q9.mk (Q7.mk 0 0 0 0) (Qb.mk 0 0 false) (Q3.mk 0 0 0 [] false) (Q8.mk 0 0 []) (Qd.mk 0 0 [] false) (Q4.mk 0 0 0 [] false) (Qa.mk 0 0 0 [] false)) (a3.fb2.length : Int) 0 v9.1 0 (QI.mk 0 0) [] true) (Qf.mk 0 0 0 0 [] (Qj.mk 0 0 ByteArray.empty [] [] false) []) false)))) (fun J2 => lv (fun (s3 : Int) => 0 ≤ s3 ∧ s3 ≤ (a3.fb2.length : Int)) (fun s3 => ((a3.fb2.length : Int) - s3 + 1).toNat) (fun s3 => sh [2, 5, 8, 10] [(5, 0), (8, 0), (10, 0)] [(11, tI s3)] []) (fun X3 s3 => ct (decide (s3 < (a3.fb2.length : Int))) (∃ v6, ix a3.fb2 s3 v6 ∧ ∃ v7, Rr (Kx a0 v6) v7 ∧ ct (!(v7)) (∃ v8, Rr (QW a0 8) v8 ∧ Q v8) (X3 (i64.wrap (s3 + 1)))) (J2 ())) 0)) (J1 ()))
abbrev Gj : Prop := ∀ {a0 a1 a2 a3 a4}, Fg (Wa a0 a1 a2 a3 a4) 101 [.agg (Qu a0), .c (i4 a1), .c (.l 3 (List.map Kg a2)), .agg (JF a3), .agg (Vj a4)] (fun r => [.agg [.p (i4 r.fx.fk.fa0), .p (i4 r.fx.fk.fb2), .p (i4 r.fx.fk.fa8), .p (i4 r.fx.fk.fb7), .p (i4 r.fx.fk.fc5), .p (i4 r.fx.fk.fc7), .p (i4 r.fx.fk.fb5), .p (i4 r.fx.f9), .p (i4 r.fx.ff3), .p (.l 2 (List.map Qi r.fx.fa6)), .p (.l 4 (List.map Qc r.fx.fb4)), .p (.l 2 (List.map Qm r.fx.fc5)), .p (i4 r.fx.fc4.fc3), .p (.l 3 (List.map Qp r.fx.fc4.fa8)), .p (i4 r.fa.fc6), .p (i4 r.fa.fg3), .p (b4 r.fa.ff9), .p (.l 1 (mi r.fa.fc0)), .p (i4 r.fa.fb8), .p (i4 r.fa.ff.fj.f8), .p (i4 r.fa.ff.fj.fu), .p (i4 r.fa.ff.fj.fa4), .p (.v (.int .u64 r.fa.ff.fj.fa2)), .p (i4 r.fa.ff.fa1.fy), .p (i4 r.fa.ff.fa1.fa7), .p (b4 r.fa.ff.fa1.fc), .p (i4 r.fa.ff.fh.fa4), .p (i4 r.fa.ff.fh.fu), .p (.v (.int .u64 r.fa.ff.fh.fa2)), .p (.l 1 (mi r.fa.ff.fh.fb9)), .p (b4 r.fa.ff.fh.fc), .p (i4 r.fa.ff.f7.fa5), .p (.v (.int .u64 r.fa.ff.f7.fa2)), .p (.l 1 (mi r.fa.ff.f7.fa3)), .p (i4 r.fa.ff.fb0.fu), .p (i4 r.fa.ff.fb0.fy), .p (.l 3 (List.map Q1 r.fa.ff.fb0.fq)), .p (b4 r.fa.ff.fb0.fc), .p (i4 r.fa.ff.fi.fu), .p (i4 r.fa.ff.fi.fy), .p (i4 r.fa.ff.fi.fd3), .p (.l 3 (List.map Q1 r.fa.ff.fi.fq)), .p (b4 r.fa.ff.fi.fc), .p (i4 r.fa.ff.fw.fu), .p (i4 r.fa.ff.fw.fy), .p (i4 r.fa.ff.fw.fc8), .p (.l 1 (List.map (eL 1 eS) r.fa.ff.fw.fa9)), .p (b4 r.fa.ff.fw.fc), .p (i4 r.fa.fg.fj.f8), .p (i4 r.fa.fg.fj.fu), .p (i4 r.fa.fg.fj.fa4), .p (.v (.int .u64 r.fa.fg.fj.fa2)), .p (i4 r.fa.fg.fa1.fy), .p (i4 r.fa.fg.fa1.fa7), .p (b4 r.fa.fg.fa1.fc), .p (i4 r.fa.fg.fh.fa4), .p (i4 r.fa.fg.fh.fu), .p (.v (.int .u64 r.fa.fg.fh.fa2)), .p (.l 1 (mi r.fa.fg.fh.fb9)), .p (b4 r.fa.fg.fh.fc), .p (i4 r.fa.fg.f7.fa5), .p (.v (.int .u64 r.fa.fg.f7.fa2)), .p (.l 1 (mi r.fa.fg.f7.fa3)), .p (i4 r.fa.fg.fb0.fu), .p (i4 r.fa.fg.fb0.fy), .p (.l 3 (List.map Q1 r.fa.fg.fb0.fq)), .p (b4 r.fa.fg.fb0.fc), .p (i4 r.fa.fg.fi.fu), .p (i4 r.fa.fg.fi.fy), .p (i4 r.fa.fg.fi.fd3), .p (.l 3 (List.map Q1 r.fa.fg.fi.fq)), .p (b4 r.fa.fg.fi.fc), .p (i4 r.fa.fg.fw.fu), .p (i4 r.fa.fg.fw.fy), .p (i4 r.fa.fg.fw.fc8), .p (.l 1 (List.map (eL 1 eS) r.fa.fg.fw.fa9)), .p (b4 r.fa.fg.fw.fc), .p (i4 r.fa.fd7), .p (i4 r.fa.fg8), .p (i4 r.fa.fc1), .p (i4 r.fa.fd1), .p (i4 r.fa.fAt.fb8), .p (i4 r.fa.fAt.fd5), .p (.l 1 (List.map (eI .u8) r.fa.fc2)), .p (b4 r.fa.ff2), .p (i4 r.f0.fh6), .p (i4 r.f0.f9), .p (i4 r.f0.fg5), .p (i4 r.f0.fc1), .p (.l 1 (List.map eS r.f0.fb2)), .p (i4 r.f0.fb1.fg6), .p (i4 r.f0.fb1.ff4), .p (s4 r.f0.fb1.fd4), .p (.l 1 (mi r.f0.fb1.fg1)), .p (.l 3 (List.map Q1 r.f0.fb1.fq)), .p (b4 r.f0.fb1.fc), .p (.l 1 (List.map (eI .u8) r.f0.fc2)), .p (b4 r.fg4)]]) (fun _ => [])
instance Qrm : ∀ {a0 a1 a2 a3 a4}, Gm (Wa a0 a1 a2 a3 a4) := Z7 (Wa.eq_1 _ _ _ _ _)
def Zj (a0 : Q2) (a1 : Qf) (Q : Qk → Prop) : Prop :=
 Q (Qk.mk a0 (Qe.mk 0 0 false [] 0 (Q9.mk (Q7.mk 0 0 0 0) (Qb.mk 0 0 false) (Q3.mk 0 0 0 [] false) (Q8.mk 0 0 []) (Qd.mk 0 0 [] false) (Q4.mk 0 0 0 [] false) (Qa.mk 0 0 0 [] false)) (Q9.mk (Q7.mk 0 0 0 0) (Qb.mk 0 0 false) (Q3.mk 0 0 0 [] false) (Q8.mk 0 0 []) (Qd.mk 0 0 [] false) (Q4.mk 0 0 0 [] false) (Qa.mk 0 0 0 [] false)) 0 0 0 0 (QI.mk 0 0) [] false) a1 true)
abbrev Ub : Prop := ∀ {a0 a1}, Fg (Zj a0 a1) 103 [.agg (Qu a0), .agg (Pn a1)] (fun r => [.agg [.p (i4 r.fx.fk.fa0), .p (i4 r.fx.fk.fb2), .p (i4 r.fx.fk.fa8), .p (i4 r.fx.fk.fb7), .p (i4 r.fx.fk.fc5), .p (i4 r.fx.fk.fc7), .p (i4 r.fx.fk.fb5), .p (i4 r.fx.f9), .p (i4 r.fx.ff3), .p (.l 2 (List.map Qi r.fx.fa6)), .p (.l 4 (List.map Qc r.fx.fb4)), .p (.l 2 (List.map Qm r.fx.fc5)), .p (i4 r.fx.fc4.fc3), .p (.l 3 (List.map Qp r.fx.fc4.fa8)), .p (i4 r.fa.fc6), .p (i4 r.fa.fg3), .p (b4 r.fa.ff9), .p (.l 1 (mi r.fa.fc0)), .p (i4 r.fa.fb8), .p (i4 r.fa.ff.fj.f8), .p (i4 r.fa.ff.fj.fu), .p (i4 r.fa.ff.fj.fa4), .p (.v (.int .u64 r.fa.ff.fj.fa2)), .p (i4 r.fa.ff.fa1.fy), .p (i4 r.fa.ff.fa1.fa7), .p (b4 r.fa.ff.fa1.fc), .p (i4 r.fa.ff.fh.fa4), .p (i4 r.fa.ff.fh.fu), .p (.v (.int .u64 r.fa.ff.fh.fa2)), .p (.l 1 (mi r.fa.ff.fh.fb9)), .p (b4 r.fa.ff.fh.fc), .p (i4 r.fa.ff.f7.fa5), .p (.v (.int .u64 r.fa.ff.f7.fa2)), .p (.l 1 (mi r.fa.ff.f7.fa3)), .p (i4 r.fa.ff.fb0.fu), .p (i4 r.fa.ff.fb0.fy), .p (.l 3 (List.map Q1 r.fa.ff.fb0.fq)), .p (b4 r.fa.ff.fb0.fc), .p (i4 r.fa.ff.fi.fu), .p (i4 r.fa.ff.fi.fy), .p (i4 r.fa.ff.fi.fd3), .p (.l 3 (List.map Q1 r.fa.ff.fi.fq)), .p (b4 r.fa.ff.fi.fc), .p (i4 r.fa.ff.fw.fu), .p (i4 r.fa.ff.fw.fy), .p (i4 r.fa.ff.fw.fc8), .p (.l 1 (List.map (eL 1 eS) r.fa.ff.fw.fa9)), .p (b4 r.fa.ff.fw.fc), .p (i4 r.fa.fg.fj.f8), .p (i4 r.fa.fg.fj.fu), .p (i4 r.fa.fg.fj.fa4), .p (.v (.int .u64 r.fa.fg.fj.fa2)), .p (i4 r.fa.fg.fa1.fy), .p (i4 r.fa.fg.fa1.fa7), .p (b4 r.fa.fg.fa1.fc), .p (i4 r.fa.fg.fh.fa4), .p (i4 r.fa.fg.fh.fu), .p (.v (.int .u64 r.fa.fg.fh.fa2)), .p (.l 1 (mi r.fa.fg.fh.fb9)), .p (b4 r.fa.fg.fh.fc), .p (i4 r.fa.fg.f7.fa5), .p (.v (.int .u64 r.fa.fg.f7.fa2)), .p (.l 1 (mi r.fa.fg.f7.fa3)), .p (i4 r.fa.fg.fb0.fu), .p (i4 r.fa.fg.fb0.fy), .p (.l 3 (List.map Q1 r.fa.fg.fb0.fq)), .p (b4 r.fa.fg.fb0.fc), .p (i4 r.fa.fg.fi.fu), .p (i4 r.fa.fg.fi.fy), .p (i4 r.fa.fg.fi.fd3), .p (.l 3 (List.map Q1 r.fa.fg.fi.fq)), .p (b4 r.fa.fg.fi.fc), .p (i4 r.fa.fg.fw.fu), .p (i4 r.fa.fg.fw.fy), .p (i4 r.fa.fg.fw.fc8), .p (.l 1 (List.map (eL 1 eS) r.fa.fg.fw.fa9)), .p (b4 r.fa.fg.fw.fc), .p (i4 r.fa.fd7), .p (i4 r.fa.fg8), .p (i4 r.fa.fc1), .p (i4 r.fa.fd1), .p (i4 r.fa.fAt.fb8), .p (i4 r.fa.fAt.fd5), .p (.l 1 (List.map (eI .u8) r.fa.fc2)), .p (b4 r.fa.ff2), .p (i4 r.f0.fh6), .p (i4 r.f0.f9), .p (i4 r.f0.fg5), .p (i4 r.f0.fc1), .p (.l 1 (List.map eS r.f0.fb2)), .p (i4 r.f0.fb1.fg6), .p (i4 r.f0.fb1.ff4), .p (s4 r.f0.fb1.fd4), .p (.l 1 (mi r.f0.fb1.fg1)), .p (.l 3 (List.map Q1 r.f0.fb1.fq)), .p (b4 r.f0.fb1.fc), .p (.l 1 (List.map (eI .u8) r.f0.fc2)), .p (b4 r.fg4)]]) (fun _ => [])
instance Qjp : ∀ {a0 a1}, Gm (Zj a0 a1) := Z7 (Zj.eq_1 _ _)
def VA (a0 : QI) (a1 : QI) (Q : Bool → Prop) : Prop :=
 Q (bif decide (a0.fb8 < a1.fb8) then true else (bif (a0.fb8 == a1.fb8) then decide (a0.fd5 < a1.fd5) else false))
abbrev Bf : Prop := ∀ {a0 a1}, Fg (VA a0 a1) 205 [.agg (Hz a0), .agg (Hz a1)] (fun r => [.c (.p (b4 r))]) (fun _ => [])
instance Qjq : ∀ {a0 a1}, Gm (VA a0 a1) := Z7 (VA.eq_1 _ _)
def JA (a0 : Z0) (Q : QI → Prop) : Prop :=
 Q (QI.mk a0.fid a0.fv.fd5)
abbrev Ca : Prop := ∀ {a0}, Fg (JA a0) 206 [.agg (QM a0)] (fun r => [.agg [.p (i4 r.fb8), .p (i4 r.fd5)]]) (fun _ => [])
instance Qn8 : ∀ {a0}, Gm (JA a0) := Z7 (JA.eq_1 _)
def Vf (a0 : WZ) (Q : (List Z0) → Prop) : Prop :=
 jo (fun (p1 : List Z0) => sh [] [] [(3, .c (.sl (3, 1000) 0 (List.map QM p1).length))] [((3, 1000), some (.row 5 (List.map QM p1) true))]) (fun p1 => Q p1) (fun J1 => lv (fun (s2 : (List Z0) × Int) => 0 ≤ s2.2 ∧ s2.2 ≤ (a0.fa6.length : Int) ∧ (s2.1.length : Int) ≤ 1048576 * s2.2) (fun s2 => ((a0.fa6.length : Int) - s2.2 + 1).toNat) (fun s2 => sh [1] [(1, 0)] [(3, .c (.sl (3, 1000) 0 (List.map QM s2.1).length)), (4, tI s2.2)] [((3, 1000), some (.row 5 (List.map QM s2.1) true))]) (fun X2 s2 => ct (decide (s2.2 < (a0.fa6.length : Int))) (jo (fun (p4 : List Z0) => sh [1, 4] [(1, 0)] [(3, .c (.sl (3, 1000) 0 (List.map QM p4).length))] [((3, 1000), some (.row 5 (List.map QM p4) true))]) (fun p4 => X2 (p4, (i64.wrap (s2.2 + 1)))) (fun J4 => lv (fun (s5 : (List Z0) × Int) => 0 ≤ s5.2 ∧ s5.2 ≤ 1048576 ∧ (s5.1.length : Int) ≤ 1048576 * s2.2 + s5.2) (fun s5 => (1048576 - s5.2 + 1).toNat) (fun s5 => sh [1, 4] [(1, 0)] [(3, .c (.sl (3, 1000) 0 (List.map QM s5.1).length)), (5, tI s5.2)] [((3, 1000), some (.row 5 (List.map QM s5.1) true))]) (fun X5 s5 => ∃ v7, ix a0.fa6 s2.2 v7 ∧ ct (decide (s5.2 < (v7.fc0.length : Int))) (jo (fun (p8 : List Z0) => sh [1, 4, 5] [(1, 0)] [(3, .c (.sl (3, 1000) 0 (List.map QM p8).length))] [((3, 1000), some (.row 5 (List.map QM p8) true))]) (fun p8 => X5 (p8, (i64.wrap (s5.2 + 1)))) (fun J8 => ∃ v9, ix a0.fa6 s2.2 v9 ∧ ∃ v10, ix a0.fa6 s2.2 v10 ∧ ∃ v11, ix v10.fc0 s5.2 v11 ∧ Qg (List.map QM [(Z0.mk v9.fID v11)]) (((s5.1.length + ([(Z0.mk v9.fID v11)]).length) * 56 ≤ 140737488355328) ∧ lv (fun (s13 : (List Z0) × Int) => (s13.1.length : Int) = ((s5.1 ++ ([(Z0.mk v9.fID v11)])).length : Int) ∧ -1 ≤ s13.2 ∧ s13.2 < ((s5.1 ++ ([(Z0.mk v9.fID v11)])).length : Int) ∧ (∀ x ∈ s13.1, x ∈ s5.1 ++ ([(Z0.mk v9.fID v11)]))) (fun s13 => (s13.2 + 1).toNat) (fun s13 => sh [1, 4, 5] [(1, 0)] [(3, .c (.sl (3, 1000) 0 (List.map QM s13.1).length)), (6, tI s13.2)] [((3, 1000), some (.row 5 (List.map QM s13.1) true))]) (fun X13 s13 => ∃ v15, ((decide (s13.2 > 0)) = true → ix s13.1 s13.2 v15) ∧ ∃ v16, ((decide (s13.2 > 0)) = true → Rr (JA v15) v16) ∧ ∃ v17, ((decide (s13.2 > 0)) = true → ix s13.1 (i64.wrap (s13.2 - 1)) v17) ∧ ∃ v18, ((decide (s13.2 > 0)) = true → Rr (JA v17) v18) ∧ ∃ v19, ((decide (s13.2 > 0)) = true → Rr (VA v16 v18) v19) ∧ ct (bif decide (s13.2 > 0) then v19 else false) (Qg (ZP.mk [1, 3, 4, 5, 6] [(1, 0), (3, 1000)] 13) (∃ v21, ix s13.1 (i64.wrap (s13.2 - 1)) v21 ∧ ∃ v22, ix s13.1 s13.2 v22 ∧ ∃ v23, ix s13.1 s13.2 v23 ∧ Qg v21 (∃ v24, ix (List.set s13.1 (Int.toNat s13.2) v21) (i64.wrap (s13.2 - 1)) v24 ∧ Qg v22 (X13 ((List.set (List.set s13.1 (Int.toNat s13.2) v21) (Int.toNat (i64.wrap (s13.2 - 1))) v22), (i64.wrap (s13.2 - 1))))))) (J8 s13.1)) ((s5.1 ++ ([(Z0.mk v9.fID v11)])), (i64.wrap (((s5.1 ++ ([(Z0.mk v9.fID v11)])).length : Int) - 1)))))) (J4 s5.1)) (s2.1, 0))) (J1 s2.1)) ([], 0))
abbrev BO : Prop := ∀ {a0}, Fg (Vf a0) 204 [.agg (Lj a0)] (fun r => [.c (.own 5 (List.map QM r))]) (fun _ => [])
instance Qei : ∀ {a0}, Gm (Vf a0) := Z7 (Vf.eq_1 _)
def JU (a0 : List QP) (a1 : Int) (a2 : Int) (Q : Bool → Prop) : Prop :=
 jo (fun (p1 : Unit) => sh [] [] [] []) (fun p1 => Q false) (fun J1 => lv (fun (s2 : Int) => 0 ≤ s2 ∧ s2 ≤ (a0.length : Int)) (fun s2 => ((a0.length : Int) - s2 + 1).toNat) (fun s2 => sh [0, 1, 2] [] [(7, tI s2)] []) (fun X2 s2 => ct (decide (s2 < (a0.length : Int))) (∃ v5, ix a0 s2 v5 ∧ ∃ v6, ((decide (a1 ≤ v5.f9)) = true → ix a0 s2 v6) ∧ ct (bif decide (a1 ≤ v5.f9) then (bif decide (v6.f9 < a2) then true else (a2 == 0)) else false) (Q true) (Qg (ZP.mk [0, 1, 2, 7] [] 4) (X2 (i64.wrap (s2 + 1))))) (J1 ())) 0)
abbrev Uc : Prop := ∀ {a0 a1 a2}, Fg (JU a0 a1 a2) 210 [.c (.l 2 (List.map Qm a0)), .c (i4 a1), .c (i4 a2)] (fun r => [.c (.p (b4 r))]) (fun _ => [])
instance Qjr : ∀ {a0 a1 a2}, Gm (JU a0 a1 a2) := Z7 (JU.eq_1 _ _ _)
def VP (a0 : WZ) (a1 : Qs) (Q : Bool → Prop) : Prop :=
 ∃ v1, ((a1.fTo != 0) = true → Rr (JU a0.fc5 a1.fd5 a1.fTo) v1) ∧ Q (bif (a1.fTo != 0) then !(v1) else false)
abbrev CC : Prop := ∀ {a0 a1}, Fg (VP a0 a1) 207 [.agg (Lj a0), .agg (Za a1)] (fun r => [.c (.p (b4 r))]) (fun _ => [])
instance Qfr : ∀ {a0 a1}, Gm (VP a0 a1) := Z7 (VP.eq_1 _ _)
def Wb (a0 : WZ) (a1 : QI) (a2 : Int) (Q : ((List JH) × QI × Bool) → Prop) : Prop :=
 ∃ v1, Rr (Vf a0) v1 ∧ jo (fun (p2 : (List Z0) × Int) => sh [2, 3, 4, 7, 9] [(3, 0), (4, 0), (7, 0)] [(10, .c (.sl (10, 1000) 0 (List.map QM p2.1).length)), (11, tI p2.2)] [((10, 1000), some (.row 5 (List.map QM p2.1) true))]) (fun p2 => jo (fun (p8 : (List JH) × (List Z0) × Int × Int × Int) => sh [4, 7] [(7, 0)] [(9, .c (.sl (9, 1000) 0 (List.map Jd p8.1).length)), (10, .c (.sl (10, 1000) 0 (List.map QM p8.2.1).length)), (11, tI p8.2.2.1)] [((9, 1000), some (.row 2 (List.map Jd p8.1) true)), ((10, 1000), some (.row 5 (List.map QM p8.2.1) true)), ((4, 0), some (.box ([.p (i4 p8.2.2.2.1), .p (i4 p8.2.2.2.2)])))]) (fun p8 => Q (p8.1, (QI.mk p8.2.2.2.1 p8.2.2.2.2), (p8.2.2.1 == (p8.2.1.length : Int)))) (fun J8 => lv (fun (s9 : (List JH) × (List Z0) × Int × Int × Int × Int) => s9.2.1 = p2.1 ∧ 0 ≤ s9.2.2.1 ∧ s9.2.2.1 ≤ (s9.2.1.length : Int) ∧ 0 ≤ s9.2.2.2.1 ∧ (s9.1.length : Int) ≤ s9.2.2.2.1 ∧ (s9.1.length : Int) ≤ 64) (fun s9 => (65 - s9.2.2.2.1).toNat) (fun s9 => sh [2, 3, 4, 7] [(3, 0), (7, 0)] [(9, .c (.sl (9, 1000) 0 (List.map Jd s9.1).length)), (10, .c (.sl (10, 1000) 0 (List.map QM s9.2.1).length)), (11, tI s9.2.2.1), (12, tI s9.2.2.2.1)] [((9, 1000), some (.row 2 (List.map Jd s9.1) true)), ((10, 1000), some (.row 5 (List.map QM s9.2.1) true)), ((4, 0), some (.box ([.p (i4 s9.2.2.2.2.1), .p (i4 s9.2.2.2.2.2)])))]) (fun X9 s9 => ct (bif decide (s9.2.2.2.1 < a2) then decide (s9.2.2.1 < (s9.2.1.length : Int)) else false) (Qg (ZP.mk [2, 3, 4, 7, 9, 10, 11, 12] [(3, 0), (4, 0), (7, 0), (9, 1000), (10, 1000)] 10) (jo (fun (p12 : (List JH) × (List Z0)) => sh [2, 3, 4, 7, 11, 12] [(3, 0), (4, 0), (7, 0)] [(9, .c (.sl (9, 1000) 0 (List.map Jd p12.1).length)), (10, .c (.sl (10, 1000) 0 (List.map QM p12.2).length))] [((9, 1000), some (.row 2 (List.map Jd p12.1) true)), ((10, 1000), some (.row 5 (List.map QM p12.2) true))]) (fun p12 => ∃ v18, ix p12.2 s9.2.2.1 v18 ∧ ∃ v19, Rr (JA v18) v19 ∧ jo (fun (p20 : (List JH) × (List Z0) × Int) => sh [2, 3, 4, 7, 11, 12] [(3, 0), (7, 0)] [(9, .c (.sl (9, 1000) 0 (List.map Jd p20.1).length)), (10, .c (.sl (10, 1000) 0 (List.map QM p20.2.1).length))] [((9, 1000), some (.row 2 (List.map Jd p20.1) true)), ((10, 1000), some (.row 5 (List.map QM p20.2.1) true)), ((4, 0), some (.box ([.p (i4 v19.fb8), .p (i4 p20.2.2)])))]) (fun p20 => X9 (p20.1, p20.2.1, (i64.wrap (s9.2.2.1 + 1)), (i64.wrap (s9.2.2.2.1 + 1)), v19.fb8, p20.2.2)) (fun J20 => ct (decide (v19.fd5 < 9223372036854775807)) (J20 (p12.1, p12.2, (i64.wrap (v19.fd5 + 1)))) (J20 (p12.1, p12.2, v19.fd5)))) (fun J12 => ∃ v13, ix s9.2.1 s9.2.2.1 v13 ∧ ∃ v14, Rr (VP a0 v13.fv) v14 ∧ ct v14 (∃ v15, ix s9.2.1 s9.2.2.1 v15 ∧ ∃ v16, ix s9.2.1 s9.2.2.1 v16 ∧ Qg (List.map Jd [(JH.mk v15.fid v16.fv.fd5)]) (((s9.1.length + ([(JH.mk v15.fid v16.fv.fd5)]).length) * 16 ≤ 140737488355328) ∧ J12 ((s9.1 ++ ([(JH.mk v15.fid v16.fv.fd5)])), s9.2.1))) (J12 (s9.1, s9.2.1))))) (J8 (s9.1, s9.2.1, s9.2.2.1, s9.2.2.2.2.1, s9.2.2.2.2.2))) ([], p2.1, p2.2, 0, a1.fb8, a1.fd5))) (fun J2 => lv (fun (s3 : (List Z0) × Int) => s3.1 = v1 ∧ 0 ≤ s3.2 ∧ s3.2 ≤ (v1.length : Int)) (fun s3 => ((v1.length : Int) - s3.2 + 1).toNat) (fun s3 => sh [2, 3, 4, 7, 9] [(3, 0), (4, 0), (7, 0)] [(10, .c (.sl (10, 1000) 0 (List.map QM s3.1).length)), (11, tI s3.2)] [((10, 1000), some (.row 5 (List.map QM s3.1) true))]) (fun X3 s3 => ∃ v5, ((decide (s3.2 < (s3.1.length : Int))) = true → ix s3.1 s3.2 v5) ∧ ∃ v6, ((decide (s3.2 < (s3.1.length : Int))) = true → Rr (JA v5) v6) ∧ ∃ v7, ((decide (s3.2 < (s3.1.length : Int))) = true → Rr (VA v6 a1) v7) ∧ ct (bif decide (s3.2 < (s3.1.length : Int)) then v7 else false) (Qg (ZP.mk [2, 3, 4, 7, 9, 10, 11] [(3, 0), (4, 0), (7, 0), (10, 1000)] 6) (X3 (s3.1, (i64.wrap (s3.2 + 1))))) (J2 (s3.1, s3.2))) (v1, 0))
abbrev Gk : Prop := ∀ {a0 a1 a2}, Fg (Wb a0 a1 a2) 154 [.agg (Lj a0), .agg (Hz a1), .c (i4 a2)] (fun r => [.c (.own 2 (List.map Jd r.1)), .agg [.p (i4 r.2.1.fb8), .p (i4 r.2.1.fd5)], .c (.p (b4 r.2.2))]) (fun _ => [])
instance Qrn : ∀ {a0 a1 a2}, Gm (Wb a0 a1 a2) := Z7 (Wb.eq_1 _ _ _)
def Wc (a0 : Q2) (Q : WZ → Prop) : Prop :=
 Q (WZ.mk a0.f9 a0.fa6 a0.fb4 a0.fc5 a0.fc4.fa8)
abbrev Gl : Prop := ∀ {a0}, Fg (Wc a0) 155 [.agg (Qu a0)] (fun r => [.agg [.p (i4 r.f9), .p (.l 2 (List.map Qi r.fa6)), .p (.l 4 (List.map Qc r.fb4)), .p (.l 2 (List.map Qm r.fc5)), .p (.l 3 (List.map Qp r.fa8))]]) (fun _ => [])
instance Qro : ∀ {a0}, Gm (Wc a0) := Z7 (Wc.eq_1 _)
def Ka (a0 : List Qs) (a1 : Int) (Q : ((List Qs) × Qs × Int) → Prop) : Prop :=
 jo (fun (p1 : Unit) => sh [5] [(5, 0)] [] []) (fun p1 => Q ([], (Qs.mk 0 0 0 []), 8)) (fun J1 => lv (fun (s2 : Int) => 0 ≤ s2 ∧ s2 ≤ (a0.length : Int)) (fun s2 => ((a0.length : Int) - s2 + 1).toNat) (fun s2 => sh [0, 1, 5] [(5, 0)] [(7, tI s2)] []) (fun X2 s2 => ct (decide (s2 < (a0.length : Int))) (∃ v5, ix a0 s2 v5 ∧ ct (v5.fd5 == a1) (((0 : Int) ≤ s2 ∧ (s2 : Int) ≤ (a0.length : Int)) ∧ ((List.take (Int.toNat s2) a0).length * 48 ≤ 140737488355328) ∧ ((0 : Int) ≤ (i64.wrap (s2 + 1)) ∧ (i64.wrap (s2 + 1) : Int) ≤ (a0.length : Int)) ∧ (((List.take (Int.toNat s2) a0).length + (List.drop (Int.toNat (i64.wrap (s2 + 1))) a0).length) * 48 ≤ 140737488355328) ∧ ∃ v10, ix a0 s2 v10 ∧ Q (((List.take (Int.toNat s2) a0) ++ (List.drop (Int.toNat (i64.wrap (s2 + 1))) a0)), v10, 0)) (X2 (i64.wrap (s2 + 1)))) (J1 ())) 0)
abbrev WE : Prop := ∀ {a0 a1}, Fg (Ka a0 a1) 209 [.c (.l 4 (List.map Za a0)), .c (i4 a1)] (fun r => [.c (.own 4 (List.map Za r.1)), .agg [.p (i4 r.2.1.fd5), .p (i4 r.2.1.fTo), .p (i4 r.2.1.fu), .p (.l 1 (mi r.2.1.fa8))], .c (.p (i4 r.2.2))]) (fun _ => [])
instance Q3l : ∀ {a0 a1}, Gm (Ka a0 a1) := Z7 (Ka.eq_1 _ _)
def VQ (a0 : Qy) (a1 : Int) (Q : (Qy × Bool × Int) → Prop) : Prop :=
 ∃ v1, Rr (Jz a0 a1) v1 ∧ ct (decide (v1 < 0)) (Q (a0, false, 8)) ((a0.fa8.length * 40 ≤ 140737488355328) ∧ ∃ v4, ix a0.fa8 v1 v4 ∧ ∃ v5, ix a0.fa8 v1 v5 ∧ Qg (QE.mk v5.fh2 (i64.wrap (v4.fi1 - 1)) v5.fc2) (∃ v7, ix (List.set a0.fa8 (Int.toNat v1) (QE.mk v5.fh2 (i64.wrap (v4.fi1 - 1)) v5.fc2)) v1 v7 ∧ ct (decide (v7.fi1 > 0)) (Q ((Qy.mk a0.fc3 (List.set a0.fa8 (Int.toNat v1) (QE.mk v5.fh2 (i64.wrap (v4.fi1 - 1)) v5.fc2))), false, 0)) (((0 : Int) ≤ v1 ∧ (v1 : Int) ≤ (((List.map Qp a0.fa8).length : Nat) : Int)) ∧ ((0 : Int) ≤ (i64.wrap (v1 + 1)) ∧ (i64.wrap (v1 + 1) : Int) ≤ (((List.map Qp a0.fa8).length : Nat) : Int)) ∧ ((Int.toNat v1) ≤ (List.set a0.fa8 (Int.toNat v1) (QE.mk v5.fh2 (i64.wrap (v4.fi1 - 1)) v5.fc2)).length ∧ ((Int.toNat v1) + (List.take ((List.map Qp a0.fa8).length - Int.toNat (i64.wrap (v1 + 1))) (List.drop (0 + Int.toNat (i64.wrap (v1 + 1))) (List.set a0.fa8 (Int.toNat v1) (QE.mk v5.fh2 (i64.wrap (v4.fi1 - 1)) v5.fc2)))).length) * 40 ≤ 140737488355328) ∧ Q ((Qy.mk a0.fc3 ((List.take (Int.toNat v1) (List.set a0.fa8 (Int.toNat v1) (QE.mk v5.fh2 (i64.wrap (v4.fi1 - 1)) v5.fc2))) ++ (List.take ((List.map Qp a0.fa8).length - Int.toNat (i64.wrap (v1 + 1))) (List.drop (0 + Int.toNat (i64.wrap (v1 + 1))) (List.set a0.fa8 (Int.toNat v1) (QE.mk v5.fh2 (i64.wrap (v4.fi1 - 1)) v5.fc2)))))), true, 0))))
abbrev CE : Prop := ∀ {a0 a1}, Fg (VQ a0 a1) 211 [.agg (UP a0), .c (i4 a1)] (fun r => [.agg [.p (i4 r.1.fc3), .p (.l 3 (List.map Qp r.1.fa8))], .c (.p (b4 r.2.1)), .c (.p (i4 r.2.2))]) (fun _ => [])
instance Qfs : ∀ {a0 a1}, Gm (VQ a0 a1) := Z7 (VQ.eq_1 _ _)
def XB (a0 : Q2) (a1 : Int) (a2 : Int) (Q : (Q2 × Int) → Prop) : Prop :=
 ∃ v1, Rr (Vv a0.fa6 a1) v1 ∧ ct (decide (v1 < 0)) (Q (a0, 8)) (∃ v3, ix a0.fa6 v1 v3 ∧ ∃ v4, Rr (Ka v3.fc0 a2) v4 ∧ ct (v4.2.2 != 0) (Q (a0, v4.2.2)) (∃ v7, ((!(v4.2.1.fTo == 0)) = true → Rr (JU a0.fc5 v4.2.1.fd5 v4.2.1.fTo) v7) ∧ ct (bif (v4.2.1.fTo == 0) then true else v7) (Q (a0, 17)) (Qg (ZP.mk [3, 6, 8, 10, 9] [(3, 0), (6, 0), (28, 0), (10, 0)] 10) (jo (fun (p8 : (List Qs) × Int × (List QE)) => sh [3, 6, 8] [(6, 0)] [(9, .c (.sl (9, 1000) 0 (List.map Za p8.1).length))] [((9, 1000), some (.row 4 (List.map Za p8.1) true)), ((3, 0), some (.box ([.p (i4 a0.fk.fa0), .p (i4 a0.fk.fb2), .p (i4 a0.fk.fa8), .p (i4 a0.fk.fb7), .p (i4 a0.fk.fc5), .p (i4 a0.fk.fc7), .p (i4 a0.fk.fb5), .p (i4 a0.f9), .p (i4 a0.ff3), .p (.l 2 (List.map Qi a0.fa6)), .p (.l 4 (List.map Qc a0.fb4)), .p (.l 2 (List.map Qm a0.fc5)), .p (i4 p8.2.1), .p (.l 3 (List.map Qp p8.2.2))])))]) (fun p8 => (a0.fa6.length * 32 ≤ 140737488355328) ∧ ∃ v15, ix a0.fa6 v1 v15 ∧ Qg (Qw.mk v15.fID p8.1) (jo (fun (p16 : List Qw) => sh [3, 6] [(6, 0)] [] [((3, 2009), some (.row 2 (List.map Qi p16) true)), ((3, 0), some (.box ([.p (i4 a0.fk.fa0), .p (i4 a0.fk.fb2), .p (i4 a0.fk.fa8), .p (i4 a0.fk.fb7), .p (i4 a0.fk.fc5), .p (i4 a0.fk.fc7), .p (i4 a0.fk.fb5), .p (i4 a0.f9), .p (i4 a0.ff3), .sl (3, 2009) 0 (List.map Qi p16).length, .p (.l 4 (List.map Qc a0.fb4)), .p (.l 2 (List.map Qm a0.fc5)), .p (i4 p8.2.1), .p (.l 3 (List.map Qp p8.2.2))])))]) (fun p16 => Q ((Q2.mk a0.fk a0.f9 a0.ff3 p16 a0.fb4 a0.fc5 (Qy.mk p8.2.1 p8.2.2)), 0)) (fun J16 => ct ((p8.1.length : Int) == 0) (((0 : Int) ≤ v1 ∧ (v1 : Int) ≤ (((List.map Qi a0.fa6).length : Nat) : Int)) ∧ ((0 : Int) ≤ (i64.wrap (v1 + 1)) ∧ (i64.wrap (v1 + 1) : Int) ≤ (((List.map Qi a0.fa6).length : Nat) : Int)) ∧ ((Int.toNat v1) ≤ (List.set a0.fa6 (Int.toNat v1) (Qw.mk v15.fID p8.1)).length ∧ ((Int.toNat v1) + (List.take ((List.map Qi a0.fa6).length - Int.toNat (i64.wrap (v1 + 1))) (List.drop (0 + Int.toNat (i64.wrap (v1 + 1))) (List.set a0.fa6 (Int.toNat v1) (Qw.mk v15.fID p8.1)))).length) * 32 ≤ 140737488355328) ∧ J16 ((List.take (Int.toNat v1) (List.set a0.fa6 (Int.toNat v1) (Qw.mk v15.fID p8.1))) ++ (List.take ((List.map Qi a0.fa6).length - Int.toNat (i64.wrap (v1 + 1))) (List.drop (0 + Int.toNat (i64.wrap (v1 + 1))) (List.set a0.fa6 (Int.toNat v1) (Qw.mk v15.fID p8.1)))))) (J16 (List.set a0.fa6 (Int.toNat v1) (Qw.mk v15.fID p8.1)))))) (fun J8 => lv (fun (s9 : (List Qs) × Int × Int × (List QE)) => s9.1 = v4.1 ∧ 0 ≤ s9.2.1 ∧ s9.2.1 ≤ (v4.2.1.fa8.length : Int) ∧ s9.2.2.1 ≤ 16384 ∧ s9.2.2.2.length ≤ 16384 ∧ (∀ p ∈ s9.2.2.2, Mp p)) (fun s9 => ((v4.2.1.fa8.length : Int) - s9.2.1 + 1).toNat) (fun s9 => sh [3, 6, 8, 10] [(6, 0), (10, 0)] [(9, .c (.sl (9, 1000) 0 (List.map Za s9.1).length)), (12, tI s9.2.1)] [((9, 1000), some (.row 4 (List.map Za s9.1) true)), ((3, 0), some (.box ([.p (i4 a0.fk.fa0), .p (i4 a0.fk.fb2), .p (i4 a0.fk.fa8), .p (i4 a0.fk.fb7), .p (i4 a0.fk.fc5), .p (i4 a0.fk.fc7), .p (i4 a0.fk.fb5), .p (i4 a0.f9), .p (i4 a0.ff3), .p (.l 2 (List.map Qi a0.fa6)), .p (.l 4 (List.map Qc a0.fb4)), .p (.l 2 (List.map Qm a0.fc5)), .p (i4 s9.2.2.1), .p (.l 3 (List.map Qp s9.2.2.2))])))]) (fun X9 s9 => ct (decide (s9.2.1 < (v4.2.1.fa8.length : Int))) (∃ v12, ix v4.2.1.fa8 s9.2.1 v12 ∧ ∃ v13, Rr (VQ (Qy.mk s9.2.2.1 s9.2.2.2) v12) v13 ∧ X9 (s9.1, (i64.wrap (s9.2.1 + 1)), v13.1.fc3, v13.1.fa8)) (J8 (s9.1, s9.2.2.1, s9.2.2.2))) (v4.1, 0, a0.fc4.fc3, a0.fc4.fa8))))))
abbrev DV : Prop := ∀ {a0 a1 a2}, Fg (XB a0 a1 a2) 156 [.agg (Qu a0), .c (i4 a1), .c (i4 a2)] (fun r => [.agg [.p (i4 r.1.fk.fa0), .p (i4 r.1.fk.fb2), .p (i4 r.1.fk.fa8), .p (i4 r.1.fk.fb7), .p (i4 r.1.fk.fc5), .p (i4 r.1.fk.fc7), .p (i4 r.1.fk.fb5), .p (i4 r.1.f9), .p (i4 r.1.ff3), .p (.l 2 (List.map Qi r.1.fa6)), .p (.l 4 (List.map Qc r.1.fb4)), .p (.l 2 (List.map Qm r.1.fc5)), .p (i4 r.1.fc4.fc3), .p (.l 3 (List.map Qp r.1.fc4.fa8))], .c (.p (i4 r.2))]) (fun _ => [])
instance Qjs : ∀ {a0 a1 a2}, Gm (XB a0 a1 a2) := Z7 (XB.eq_1 _ _ _)
def Yq (a0 : List Qn) (a1 : List QP) (Q : (List Qn) → Prop) : Prop :=
 jo (fun (p1 : List Qn) => sh [] [] [(5, .c (.sl (5, 1000) 0 (List.map Qc p1).length))] [((5, 1000), some (.row 4 (List.map Qc p1) true))]) (fun p1 => Q p1) (fun J1 => lv (fun (s2 : (List Qn) × Int) => 0 ≤ s2.2 ∧ s2.2 ≤ (a0.length : Int) ∧ (s2.1.length : Int) ≤ (([] : List Qn).length : Int) + (s2.2 - 0) ∧ (∀ x ∈ s2.1, zB x)) (fun s2 => ((a0.length : Int) - s2.2 + 1).toNat) (fun s2 => sh [0, 1] [] [(5, .c (.sl (5, 1000) 0 (List.map Qc s2.1).length)), (6, tI s2.2)] [((5, 1000), some (.row 4 (List.map Qc s2.1) true))]) (fun X2 s2 => ct (decide (s2.2 < (a0.length : Int))) (jo (fun (p4 : List Qn) => sh [0, 1, 6] [] [(5, .c (.sl (5, 1000) 0 (List.map Qc p4).length))] [((5, 1000), some (.row 4 (List.map Qc p4) true))]) (fun p4 => X2 (p4, (i64.wrap (s2.2 + 1)))) (fun J4 => ∃ v5, ix a0 s2.2 v5 ∧ ∃ v6, ((!(v5.fTo == 0)) = true → ix a0 s2.2 v6) ∧ ∃ v7, ((!(v5.fTo == 0)) = true → ix a0 s2.2 v7) ∧ ∃ v8, ((!(v5.fTo == 0)) = true → Rr (JU a1 v6.fd5 v7.fTo) v8) ∧ Qg (ZP.mk [0, 1, 5, 6, 32] [(5, 1000)] 100032) (ct (bif (v5.fTo == 0) then true else v8) (∃ v9, ix a0 s2.2 v9 ∧ Qg (List.map Qc [v9]) (((s2.1.length + ([v9]).length) * 40 ≤ 140737488355328) ∧ J4 (s2.1 ++ ([v9])))) (J4 s2.1)))) (J1 s2.1)) ([], 0))
abbrev F6 : Prop := ∀ {a0 a1}, Fg (Yq a0 a1) 212 [.c (.l 4 (List.map Qc a0)), .c (.l 2 (List.map Qm a1))] (fun r => [.c (.own 4 (List.map Qc r))]) (fun _ => [])
instance Qn9 : ∀ {a0 a1}, Gm (Yq a0 a1) := Z7 (Yq.eq_1 _ _)
def Yr (a0 : Q2) (Q : (Q2 × Int) → Prop) : Prop :=
 ∃ v1, Rr (Yq a0.fb4 a0.fc5) v1 ∧ Q ((Q2.mk a0.fk a0.f9 a0.ff3 a0.fa6 v1 a0.fc5 a0.fc4), (i64.wrap ((a0.fb4.length : Int) - (v1.length : Int))))
abbrev F7 : Prop := ∀ {a0}, Fg (Yr a0) 157 [.agg (Qu a0)] (fun r => [.agg [.p (i4 r.1.fk.fa0), .p (i4 r.1.fk.fb2), .p (i4 r.1.fk.fa8), .p (i4 r.1.fk.fb7), .p (i4 r.1.fk.fc5), .p (i4 r.1.fk.fc7), .p (i4 r.1.fk.fb5), .p (i4 r.1.f9), .p (i4 r.1.ff3), .p (.l 2 (List.map Qi r.1.fa6)), .own 4 (List.map Qc r.1.fb4), .p (.l 2 (List.map Qm r.1.fc5)), .p (i4 r.1.fc4.fc3), .p (.l 3 (List.map Qp r.1.fc4.fa8))], .c (.p (i4 r.2))]) (fun _ => [])
instance Qna : ∀ {a0}, Gm (Yr a0) := Z7 (Yr.eq_1 _)
def VR (a0 : Q2) (a1 : Qe) (Q : Qk → Prop) : Prop :=
 ∃ v1, Rr (Wc a0) v1 ∧ ∃ v2, Rr (Wb v1 a1.fAt a0.fk.fb5) v2 ∧ jo (fun (p3 : Int × Int × Int × Int × Int × Int × Int × Int × Int × (List Qw) × (List Qn) × (List QP) × Int × (List QE)) => sh [2, 4, 6, 7] [(4, 0), (6, 0)] [] [((2, 0), some (.box ([.p (i4 p3.1), .p (i4 p3.2.1), .p (i4 p3.2.2.1), .p (i4 p3.2.2.2.1), .p (i4 p3.2.2.2.2.1), .p (i4 p3.2.2.2.2.2.1), .p (i4 p3.2.2.2.2.2.2.1), .p (i4 p3.2.2.2.2.2.2.2.1), .p (i4 p3.2.2.2.2.2.2.2.2.1), .p (.l 2 (List.map Qi (q8 p3).2.1)), .p (.l 4 (List.map Qc (q8 p3).2.2.1)), .p (.l 2 (List.map Qm (q8 p3).2.2.2.1)), .p (i4 (q8 p3).2.2.2.2.1), .p (.l 3 (List.map Qp (q8 p3).2.2.2.2.2))])))]) (fun p3 => ct (!(v2.2.2)) (Q (Qk.mk (Q2.mk (QA.mk p3.1 p3.2.1 p3.2.2.1 p3.2.2.2.1 p3.2.2.2.2.1 p3.2.2.2.2.2.1 p3.2.2.2.2.2.2.1) p3.2.2.2.2.2.2.2.1 p3.2.2.2.2.2.2.2.2.1 p3.2.2.2.2.2.2.2.2.2.1 p3.2.2.2.2.2.2.2.2.2.2.1 p3.2.2.2.2.2.2.2.2.2.2.2.1 (Qy.mk p3.2.2.2.2.2.2.2.2.2.2.2.2.1 p3.2.2.2.2.2.2.2.2.2.2.2.2.2)) (Qe.mk 0 0 false [] 0 (Q9.mk (Q7.mk 0 0 0 0) (Qb.mk 0 0 false) (Q3.mk 0 0 0 [] false) (Q8.mk 0 0 []) (Qd.mk 0 0 [] false) (Q4.mk 0 0 0 [] false) (Qa.mk 0 0 0 [] false)) (Q9.mk (Q7.mk 0 0 0 0) (Qb.mk 0 0 false) (Q3.mk 0 0 0 [] false) (Q8.mk 0 0 []) (Qd.mk 0 0 [] false) (Q4.mk 0 0 0 [] false) (Qa.mk 0 0 0 [] false)) 0 0 0 0 v2.2.1 [] false) (Qf.mk 0 0 0 0 [] (Qj.mk 0 0 ByteArray.empty [] [] false) []) false)) (∃ v11, Rr (Yr (Q2.mk (QA.mk p3.1 p3.2.1 p3.2.2.1 p3.2.2.2.1 p3.2.2.2.2.1 p3.2.2.2.2.2.1 p3.2.2.2.2.2.2.1) p3.2.2.2.2.2.2.2.1 p3.2.2.2.2.2.2.2.2.1 p3.2.2.2.2.2.2.2.2.2.1 p3.2.2.2.2.2.2.2.2.2.2.1 p3.2.2.2.2.2.2.2.2.2.2.2.1 (Qy.mk p3.2.2.2.2.2.2.2.2.2.2.2.2.1 p3.2.2.2.2.2.2.2.2.2.2.2.2.2))) v11 ∧ ∃ v12, Rr (Zj (Q2.mk v11.1.fk v11.1.f9 v11.1.ff3 v11.1.fa6 v11.1.fb4 v11.1.fc5 v11.1.fc4) (Qf.mk 0 v11.1.f9 0 0 [] (Qj.mk 0 0 ByteArray.empty [] [] false) [])) v12 ∧ Q v12)) (fun J3 => lv (fun (s4 : (List JH) × Int × Int × Int × Int × Int × Int × Int × Int × Int × Int × (List Qw) × (List Qn) × (List QP) × Int × (List QE)) => s4.1 = v2.1 ∧ (0 ≤ s4.2.1 ∧ s4.2.1 ≤ (s4.1.length : Int)) ∧ UO (Q2.mk (QA.mk s4.2.2.1 s4.2.2.2.1 s4.2.2.2.2.1 s4.2.2.2.2.2.1 s4.2.2.2.2.2.2.1 s4.2.2.2.2.2.2.2.1 s4.2.2.2.2.2.2.2.2.1) s4.2.2.2.2.2.2.2.2.2.1 s4.2.2.2.2.2.2.2.2.2.2.1 s4.2.2.2.2.2.2.2.2.2.2.2.1 s4.2.2.2.2.2.2.2.2.2.2.2.2.1 s4.2.2.2.2.2.2.2.2.2.2.2.2.2.1 (Qy.mk s4.2.2.2.2.2.2.2.2.2.2.2.2.2.2.1 s4.2.2.2.2.2.2.2.2.2.2.2.2.2.2.2))) (fun s4 => ((v2.1.length : Int) - s4.2.1 + 1).toNat) (fun s4 => sh [2, 4, 6, 7] [(4, 0), (6, 0)] [(5, .c (.sl (5, 1000) 0 (List.map Jd s4.1).length)), (8, tI s4.2.1)] [((5, 1000), some (.row 2 (List.map Jd s4.1) true)), ((2, 0), some (.box ([.p (i4 s4.2.2.1), .p (i4 s4.2.2.2.1), .p (i4 s4.2.2.2.2.1), .p (i4 s4.2.2.2.2.2.1), .p (i4 s4.2.2.2.2.2.2.1), .p (i4 s4.2.2.2.2.2.2.2.1), .p (i4 s4.2.2.2.2.2.2.2.2.1), .p (i4 (q8 s4).2.1), .p (i4 (q8 s4).2.2.1), .p (.l 2 (List.map Qi (q8 s4).2.2.2.1)), .p (.l 4 (List.map Qc (q8 s4).2.2.2.2.1)), .p (.l 2 (List.map Qm (q8 s4).2.2.2.2.2.1)), .p (i4 (q8 s4).2.2.2.2.2.2.1), .p (.l 3 (List.map Qp (q8 s4).2.2.2.2.2.2.2))])))]) (fun X4 s4 => ct (decide (s4.2.1 < (s4.1.length : Int))) (∃ v7, ix s4.1 s4.2.1 v7 ∧ ∃ v8, ix s4.1 s4.2.1 v8 ∧ ∃ v9, Rr (XB (Q2.mk (QA.mk s4.2.2.1 s4.2.2.2.1 s4.2.2.2.2.1 s4.2.2.2.2.2.1 s4.2.2.2.2.2.2.1 s4.2.2.2.2.2.2.2.1 s4.2.2.2.2.2.2.2.2.1) s4.2.2.2.2.2.2.2.2.2.1 s4.2.2.2.2.2.2.2.2.2.2.1 s4.2.2.2.2.2.2.2.2.2.2.2.1 s4.2.2.2.2.2.2.2.2.2.2.2.2.1 s4.2.2.2.2.2.2.2.2.2.2.2.2.2.1 (Qy.mk s4.2.2.2.2.2.2.2.2.2.2.2.2.2.2.1 s4.2.2.2.2.2.2.2.2.2.2.2.2.2.2.2)) v7.fb8 v8.fd5) v9 ∧ X4 (s4.1, (i64.wrap (s4.2.1 + 1)), v9.1.fk.fa0, v9.1.fk.fb2, v9.1.fk.fa8, v9.1.fk.fb7, v9.1.fk.fc5, v9.1.fk.fc7, v9.1.fk.fb5, v9.1.f9, v9.1.ff3, v9.1.fa6, v9.1.fb4, v9.1.fc5, v9.1.fc4.fc3, v9.1.fc4.fa8)) (J3 (s4.2.2.1, s4.2.2.2.1, s4.2.2.2.2.1, s4.2.2.2.2.2.1, s4.2.2.2.2.2.2.1, s4.2.2.2.2.2.2.2.1, s4.2.2.2.2.2.2.2.2.1, s4.2.2.2.2.2.2.2.2.2.1, s4.2.2.2.2.2.2.2.2.2.2.1, s4.2.2.2.2.2.2.2.2.2.2.2.1, s4.2.2.2.2.2.2.2.2.2.2.2.2.1, s4.2.2.2.2.2.2.2.2.2.2.2.2.2.1, s4.2.2.2.2.2.2.2.2.2.2.2.2.2.2.1, s4.2.2.2.2.2.2.2.2.2.2.2.2.2.2.2))) (v2.1, 0, a0.fk.fa0, a0.fk.fb2, a0.fk.fa8, a0.fk.fb7, a0.fk.fc5, a0.fk.fc7, a0.fk.fb5, a0.f9, a0.ff3, a0.fa6, a0.fb4, a0.fc5, a0.fc4.fc3, a0.fc4.fa8))
abbrev CF : Prop := ∀ {a0 a1}, Fg (VR a0 a1) 102 [.agg (Qu a0), .agg (Vj a1)] (fun r => [.agg [.p (i4 r.fx.fk.fa0), .p (i4 r.fx.fk.fb2), .p (i4 r.fx.fk.fa8), .p (i4 r.fx.fk.fb7), .p (i4 r.fx.fk.fc5), .p (i4 r.fx.fk.fc7), .p (i4 r.fx.fk.fb5), .p (i4 r.fx.f9), .p (i4 r.fx.ff3), .p (.l 2 (List.map Qi r.fx.fa6)), .p (.l 4 (List.map Qc r.fx.fb4)), .p (.l 2 (List.map Qm r.fx.fc5)), .p (i4 r.fx.fc4.fc3), .p (.l 3 (List.map Qp r.fx.fc4.fa8)), .p (i4 r.fa.fc6), .p (i4 r.fa.fg3), .p (b4 r.fa.ff9), .p (.l 1 (mi r.fa.fc0)), .p (i4 r.fa.fb8), .p (i4 r.fa.ff.fj.f8), .p (i4 r.fa.ff.fj.fu), .p (i4 r.fa.ff.fj.fa4), .p (.v (.int .u64 r.fa.ff.fj.fa2)), .p (i4 r.fa.ff.fa1.fy), .p (i4 r.fa.ff.fa1.fa7), .p (b4 r.fa.ff.fa1.fc), .p (i4 r.fa.ff.fh.fa4), .p (i4 r.fa.ff.fh.fu), .p (.v (.int .u64 r.fa.ff.fh.fa2)), .p (.l 1 (mi r.fa.ff.fh.fb9)), .p (b4 r.fa.ff.fh.fc), .p (i4 r.fa.ff.f7.fa5), .p (.v (.int .u64 r.fa.ff.f7.fa2)), .p (.l 1 (mi r.fa.ff.f7.fa3)), .p (i4 r.fa.ff.fb0.fu), .p (i4 r.fa.ff.fb0.fy), .p (.l 3 (List.map Q1 r.fa.ff.fb0.fq)), .p (b4 r.fa.ff.fb0.fc), .p (i4 r.fa.ff.fi.fu), .p (i4 r.fa.ff.fi.fy), .p (i4 r.fa.ff.fi.fd3), .p (.l 3 (List.map Q1 r.fa.ff.fi.fq)), .p (b4 r.fa.ff.fi.fc), .p (i4 r.fa.ff.fw.fu), .p (i4 r.fa.ff.fw.fy), .p (i4 r.fa.ff.fw.fc8), .p (.l 1 (List.map (eL 1 eS) r.fa.ff.fw.fa9)), .p (b4 r.fa.ff.fw.fc), .p (i4 r.fa.fg.fj.f8), .p (i4 r.fa.fg.fj.fu), .p (i4 r.fa.fg.fj.fa4), .p (.v (.int .u64 r.fa.fg.fj.fa2)), .p (i4 r.fa.fg.fa1.fy), .p (i4 r.fa.fg.fa1.fa7), .p (b4 r.fa.fg.fa1.fc), .p (i4 r.fa.fg.fh.fa4), .p (i4 r.fa.fg.fh.fu), .p (.v (.int .u64 r.fa.fg.fh.fa2)), .p (.l 1 (mi r.fa.fg.fh.fb9)), .p (b4 r.fa.fg.fh.fc), .p (i4 r.fa.fg.f7.fa5), .p (.v (.int .u64 r.fa.fg.f7.fa2)), .p (.l 1 (mi r.fa.fg.f7.fa3)), .p (i4 r.fa.fg.fb0.fu), .p (i4 r.fa.fg.fb0.fy), .p (.l 3 (List.map Q1 r.fa.fg.fb0.fq)), .p (b4 r.fa.fg.fb0.fc), .p (i4 r.fa.fg.fi.fu), .p (i4 r.fa.fg.fi.fy), .p (i4 r.fa.fg.fi.fd3), .p (.l 3 (List.map Q1 r.fa.fg.fi.fq)), .p (b4 r.fa.fg.fi.fc), .p (i4 r.fa.fg.fw.fu), .p (i4 r.fa.fg.fw.fy), .p (i4 r.fa.fg.fw.fc8), .p (.l 1 (List.map (eL 1 eS) r.fa.fg.fw.fa9)), .p (b4 r.fa.fg.fw.fc), .p (i4 r.fa.fd7), .p (i4 r.fa.fg8), .p (i4 r.fa.fc1), .p (i4 r.fa.fd1), .p (i4 r.fa.fAt.fb8), .p (i4 r.fa.fAt.fd5), .p (.l 1 (List.map (eI .u8) r.fa.fc2)), .p (b4 r.fa.ff2), .p (i4 r.f0.fh6), .p (i4 r.f0.f9), .p (i4 r.f0.fg5), .p (i4 r.f0.fc1), .p (.l 1 (List.map eS r.f0.fb2)), .p (i4 r.f0.fb1.fg6), .p (i4 r.f0.fb1.ff4), .p (s4 r.f0.fb1.fd4), .p (.l 1 (mi r.f0.fb1.fg1)), .p (.l 3 (List.map Q1 r.f0.fb1.fq)), .p (b4 r.f0.fb1.fc), .p (.l 1 (List.map (eI .u8) r.f0.fc2)), .p (b4 r.fg4)]]) (fun _ => [])
instance Qft : ∀ {a0 a1}, Gm (VR a0 a1) := Z7 (VR.eq_1 _ _)
def Jb (a0 : Q2) (a1 : ByteArray) (a2 : Int) (Q : (Q9 × Int × Int) → Prop) : Prop :=
 ∃ v1, Rr (ZW a0 a1 a2) v1 ∧ ct (v1.2.2 != 0) (Q ((Q9.mk (Q7.mk 0 0 0 0) (Qb.mk 0 0 false) (Q3.mk 0 0 0 [] false) (Q8.mk 0 0 []) (Qd.mk 0 0 [] false) (Q4.mk 0 0 0 [] false) (Qa.mk 0 0 0 [] false)), 0, v1.2.2)) (∃ v3, Rr (VY a0 a1 a2) v3 ∧ ∃ v4, Rr (JP v3.1) v4 ∧ Q ((Q9.mk v4.1.fj v4.1.fa1 (Q3.mk v4.1.fh.fa4 v4.1.fh.fu v4.1.fh.fa2 v4.1.fh.fb9 v4.1.fh.fc) (Q8.mk v4.1.f7.fa5 v4.1.f7.fa2 v4.1.f7.fa3) (Qd.mk v4.1.fb0.fu v4.1.fb0.fy v4.1.fb0.fq v4.1.fb0.fc) (Q4.mk v4.1.fi.fu v4.1.fi.fy v4.1.fi.fd3 v4.1.fi.fq v4.1.fi.fc) (Qa.mk v4.1.fw.fu v4.1.fw.fy v4.1.fw.fc8 v4.1.fw.fa9 v4.1.fw.fc)), v1.2.1, 0))
abbrev YG : Prop := ∀ {a0 a1 a2}, Fg (Jb a0 a1 a2) 158 [.agg (Qu a0), .c (s4 a1), .c (i4 a2)] (fun r => [.agg [.p (i4 r.1.fj.f8), .p (i4 r.1.fj.fu), .p (i4 r.1.fj.fa4), .p (.v (.int .u64 r.1.fj.fa2)), .p (i4 r.1.fa1.fy), .p (i4 r.1.fa1.fa7), .p (b4 r.1.fa1.fc), .p (i4 r.1.fh.fa4), .p (i4 r.1.fh.fu), .p (.v (.int .u64 r.1.fh.fa2)), .own 1 (mi r.1.fh.fb9), .p (b4 r.1.fh.fc), .p (i4 r.1.f7.fa5), .p (.v (.int .u64 r.1.f7.fa2)), .own 1 (mi r.1.f7.fa3), .p (i4 r.1.fb0.fu), .p (i4 r.1.fb0.fy), .own 3 (List.map Q1 r.1.fb0.fq), .p (b4 r.1.fb0.fc), .p (i4 r.1.fi.fu), .p (i4 r.1.fi.fy), .p (i4 r.1.fi.fd3), .own 3 (List.map Q1 r.1.fi.fq), .p (b4 r.1.fi.fc), .p (i4 r.1.fw.fu), .p (i4 r.1.fw.fy), .p (i4 r.1.fw.fc8), .own 1 (List.map (eL 1 eS) r.1.fw.fa9), .p (b4 r.1.fw.fc)], .c (.p (i4 r.2.1)), .c (.p (i4 r.2.2))]) (fun _ => [])
instance Qjt : ∀ {a0 a1 a2}, Gm (Jb a0 a1 a2) := Z7 (Jb.eq_1 _ _ _)
def Jf (a0 : Q9) (Q : ((List Q5) × Int) → Prop) : Prop :=
 ∃ v2, Rr (ZA a0) v2 ∧ ct (v2 != 0) (Q ([], v2)) (jo (fun (p3 : Unit) => sh [] [] [] []) (fun p3 => Q ([], 10)) (fun J3 => ct (a0.fj.f8 == 4) (∃ v4, Rr (K1 a0.fb0.fq) v4 ∧ Q (v4, 0)) (ct (a0.fj.f8 == 5) (∃ v5, Rr (K1 a0.fi.fq) v5 ∧ jo (fun (p6 : List Q5) => sh [] [] [(5, .c (.sl (5, 1000) 0 (List.map Q1 p6).length))] [((5, 1000), some (.row 3 (List.map Q1 p6) true))]) (fun p6 => Q (p6, 0)) (fun J6 => lv (fun (s7 : (List Q5) × Int) => 0 ≤ s7.2 ∧ s7.2 ≤ (s7.1.length : Int) ∧ s7.1.length ≤ 2000000) (fun s7 => ((s7.1.length : Int) - s7.2 + 1).toNat) (fun s7 => sh [1] [(1, 0)] [(5, .c (.sl (5, 1000) 0 (List.map Q1 s7.1).length)), (6, tI s7.2)] [((5, 1000), some (.row 3 (List.map Q1 s7.1) true))]) (fun X7 s7 => ct (decide (s7.2 < (s7.1.length : Int))) (∃ v10, ix s7.1 s7.2 v10 ∧ Qg (Q5.mk v10.fd4 v10.fb6 a0.fi.fd3) (X7 ((List.set s7.1 (Int.toNat s7.2) (Q5.mk v10.fd4 v10.fb6 a0.fi.fd3)), (i64.wrap (s7.2 + 1))))) (J6 s7.1)) (v5, 0))) (J3 ()))))
abbrev Wm : Prop := ∀ {a0}, Fg (Jf a0) 160 [.agg (Kz a0)] (fun r => [.c (.own 3 (List.map Q1 r.1)), .c (.p (i4 r.2))]) (fun _ => [])
instance Qfu : ∀ {a0}, Gm (Jf a0) := Z7 (Jf.eq_1 _)
def KW (a0 : Q9) (Q : Bool → Prop) : Prop :=
 ct (a0.fj.f8 == 1) (Q a0.fa1.fc) (ct (a0.fj.f8 == 2) (Q a0.fh.fc) (ct (a0.fj.f8 == 4) (Q a0.fb0.fc) (ct (a0.fj.f8 == 5) (Q a0.fi.fc) (ct (a0.fj.f8 == 6) (Q a0.fw.fc) (Q false)))))
abbrev WT : Prop := ∀ {a0}, Fg (KW a0) 161 [.agg (Kz a0)] (fun r => [.c (.p (b4 r))]) (fun _ => [])
instance Qcj : ∀ {a0}, Gm (KW a0) := Z7 (KW.eq_1 _)
def ZM (a0 : Q3) (a1 : ByteArray) (Q : (Int × Int) → Prop) : Prop :=
 ∃ v2, Rr (QQ a0) v2 ∧ ct (v2 != 0) (Q (0, v2)) (∃ v4, Rr (ZD a1) v4 ∧ ct (!(v4)) (Q (0, 7)) (∃ v5, Rr (Y4 a0 0 a1) v5 ∧ ∃ v6, ix a0.fb9 v5 v6 ∧ jo (fun (p7 : Int) => sh [] [] [(7, tI p7)] []) (fun p7 => Q (p7, 0)) (fun J7 => lv (fun (s8 : Int × Int) => 1 ≤ s8.2) (fun s8 => (a0.fa4 - s8.2 + 1).toNat) (fun s8 => sh [1, 2] [(2, 0)] [(7, tI s8.1), (8, tI s8.2)] []) (fun X8 s8 => ct (decide (s8.2 < a0.fa4)) (∃ v11, Rr (Y4 a0 s8.2 a1) v11 ∧ ∃ v12, ix a0.fb9 v11 v12 ∧ X8 ((JE s8.1 v12), (i64.wrap (s8.2 + 1)))) (J7 s8.1)) (v6, 1))))
abbrev YH : Prop := ∀ {a0 a1}, Fg (ZM a0 a1) 213 [.agg (JG a0), .c (s4 a1)] (fun r => [.c (.p (i4 r.1)), .c (.p (i4 r.2))]) (fun _ => [])
instance TT : ∀ {a0 a1}, Gm (ZM a0 a1) := Z7 (ZM.eq_1 _ _)
def KT (a0 : Q4) (a1 : ByteArray) (Q : (Q5 × Bool × Int) → Prop) : Prop :=
 ∃ v2, Rr (QR a0) v2 ∧ ct (v2 != 0) (Q ((Q5.mk ByteArray.empty 0 0), false, v2)) (∃ v4, Rr (ZD a1) v4 ∧ ct (!(v4)) (Q ((Q5.mk ByteArray.empty 0 0), false, 7)) (∃ v6, Rr (ZH a0.fq a1) v6 ∧ ct (decide (v6 ≥ 0)) (∃ v7, ix a0.fq v6 v7 ∧ Q ((Q5.mk a1 v7.fb6 a0.fd3), true, 0)) (Q ((Q5.mk a1 0 a0.fd3), false, 0))))
abbrev UE : Prop := ∀ {a0 a1}, Fg (KT a0 a1) 215 [.agg (Vn a0), .c (s4 a1)] (fun r => [.agg [.p (s4 r.1.fd4), .p (i4 r.1.fb6), .p (i4 r.1.ff4)], .c (.p (b4 r.2.1)), .c (.p (i4 r.2.2))]) (fun _ => [])
instance Q7p : ∀ {a0 a1}, Gm (KT a0 a1) := Z7 (KT.eq_1 _ _)
def XC (a0 : Int) (a1 : Int) (Q : HA → Prop) : Prop :=
 Q (HA.mk (u64.wrap ((u64.wrap ((u64.wrap ((u64.wrap ((QC .u64 a0 32) * (QC .u64 a1 32))) + (QC .u64 (u64.wrap ((QC .u64 a0 32) * (QD .u64 a1 4294967295))) 32))) + (QC .u64 (u64.wrap ((QD .u64 a0 4294967295) * (QC .u64 a1 32))) 32))) + (QC .u64 (u64.wrap ((u64.wrap ((QC .u64 (u64.wrap ((QD .u64 a0 4294967295) * (QD .u64 a1 4294967295))) 32) + (QD .u64 (u64.wrap ((QC .u64 a0 32) * (QD .u64 a1 4294967295))) 4294967295))) + (QD .u64 (u64.wrap ((QD .u64 a0 4294967295) * (QC .u64 a1 32))) 4294967295))) 32))) (bOr .u64 (XX .u64 (u64.wrap ((u64.wrap ((QC .u64 (u64.wrap ((QD .u64 a0 4294967295) * (QD .u64 a1 4294967295))) 32) + (QD .u64 (u64.wrap ((QC .u64 a0 32) * (QD .u64 a1 4294967295))) 4294967295))) + (QD .u64 (u64.wrap ((QD .u64 a0 4294967295) * (QC .u64 a1 32))) 4294967295))) 32) (QD .u64 (u64.wrap ((QD .u64 a0 4294967295) * (QD .u64 a1 4294967295))) 4294967295)))
abbrev DW : Prop := ∀ {a0 a1}, Fg (XC a0 a1) 244 [.c (.v (.int .u64 a0)), .c (.v (.int .u64 a1))] (fun r => [.agg [.p (.v (.int .u64 r.fhigh)), .p (.v (.int .u64 r.flow))]]) (fun _ => [])
instance Qju : ∀ {a0 a1}, Gm (XC a0 a1) := Z7 (XC.eq_1 _ _)
def Ys (a0 : Int) (a1 : Int) (a2 : Int) (Q : (Int × Int) → Prop) : Prop :=
 ct (bif (bif decide (a0 < 0) then true else decide (a1 < 0)) then true else decide (a2 < 1)) (Q (0, 5)) (Qg (ZP.mk [0, 1, 2] [] 4) (∃ v2, Rr (XC (u64.wrap a0) (u64.wrap a1)) v2 ∧ jo (fun (p3 : Int) => sh [] [] [(10, .c (.p (.v (.int .u64 p3))))] []) (fun p3 => ct (decide (p3 > 4611686018427387904)) (Q (0, 5)) (Q ((i64.wrap p3), 0))) (fun J3 => lv (fun (s4 : Int × Int × Int) => -1 ≤ s4.2.2 ∧ s4.2.2 ≤ 127) (fun s4 => (s4.2.2 + 1).toNat) (fun s4 => sh [2, 8] [(8, 0)] [(9, .c (.p (.v (.int .u64 s4.1)))), (10, .c (.p (.v (.int .u64 s4.2.1)))), (11, tI s4.2.2)] []) (fun X4 s4 => ct (decide (s4.2.2 ≥ 0)) (jo (fun (p6 : Int × Int) => sh [2, 8, 11] [(8, 0)] [(9, .c (.p (.v (.int .u64 p6.1)))), (10, .c (.p (.v (.int .u64 p6.2))))] []) (fun p6 => X4 (p6.1, p6.2, (i64.wrap (s4.2.2 - 1)))) (fun J6 => ((0 : Int) ≤ (u64.wrap (QD .i64 s4.2.2 63))) ∧ jo (fun (p8 : Int) => sh [2, 8, 9, 10, 11] [(8, 0)] [(12, .c (.p (.v (.int .u64 p8))))] []) (fun p8 => ct (decide (s4.2.1 > 4611686018427387904)) (Q (0, 5)) (ct (decide ((bOr .u64 (XX .u64 s4.1 1) p8) ≥ (u64.wrap a2))) (J6 ((u64.wrap ((bOr .u64 (XX .u64 s4.1 1) p8) - (u64.wrap a2))), (bOr .u64 (XX .u64 s4.2.1 1) 1))) (J6 ((bOr .u64 (XX .u64 s4.1 1) p8), (XX .u64 s4.2.1 1))))) (fun J8 => ct (decide (s4.2.2 ≥ 64)) (((0 : Int) ≤ (u64.wrap (QD .i64 s4.2.2 63))) ∧ J8 (QD .u64 (QC .u64 v2.fhigh (u64.wrap (QD .i64 s4.2.2 63))) 1)) (J8 (QD .u64 (QC .u64 v2.flow (u64.wrap (QD .i64 s4.2.2 63))) 1))))) (J3 s4.2.1)) (0, 0, 127))))
abbrev F8 : Prop := ∀ {a0 a1 a2}, Fg (Ys a0 a1 a2) 238 [.c (i4 a0), .c (i4 a1), .c (i4 a2)] (fun r => [.c (.p (i4 r.1)), .c (.p (i4 r.2))]) (fun _ => [])
instance Qnb : ∀ {a0 a1 a2}, Gm (Ys a0 a1 a2) := Z7 (Ys.eq_1 _ _ _)
def Kb (a0 : Q8) (Q : (Int × Int) → Prop) : Prop :=
 ∃ v2, Rr (QZ a0) v2 ∧ ct (v2 != 0) (Q (0, v2)) (jo (fun (p3 : Int × Bool) => sh [1] [(1, 0)] [(5, tI p3.1), (6, tB p3.2)] []) (fun p3 => ct p3.2 (Q (0, 0)) (Qg (mi [541000, 627000, 673000, 697000, 709000, 715270, 718271]) (∃ v13, ix ([541000, 627000, 673000, 697000, 709000, 715270, 718271]) (i64.wrap (a0.fa5 - 2)) v13 ∧ ∃ v14, Rr (Ys (i64.wrap ((i64.wrap (v13 * (a0.fa3.length : Int))) * (a0.fa3.length : Int))) 1125899906842624 (KH p3.1 1)) v14 ∧ ct (v14.2 != 0) (Q (1099511627776, 0)) (Q ((JE (i64.wrap (v14.1.tdiv 1000000)) 1099511627776), 0))))) (fun J3 => lv (fun (s4 : Int × Bool × Int) => 0 ≤ s4.2.2 ∧ s4.2.2 ≤ (a0.fa3.length : Int)) (fun s4 => ((a0.fa3.length : Int) - s4.2.2 + 1).toNat) (fun s4 => sh [1] [(1, 0)] [(5, tI s4.1), (6, tB s4.2.1), (7, tI s4.2.2)] []) (fun X4 s4 => ct (decide (s4.2.2 < (a0.fa3.length : Int))) (jo (fun (p7 : Int) => sh [1, 6, 7] [(1, 0)] [(5, tI p7)] []) (fun p7 => ∃ v11, (s4.2.1 = true → ix a0.fa3 s4.2.2 v11) ∧ Qg (ZP.mk [1, 5, 6, 7] [(1, 0)] 8) (X4 (p7, (bif s4.2.1 then (v11 == 0) else false), (i64.wrap (s4.2.2 + 1))))) (fun J7 => ∃ v8, ix a0.fa3 s4.2.2 v8 ∧ ct (decide (v8 ≤ 50)) (∃ v9, ix a0.fa3 s4.2.2 v9 ∧ ((0 : Int) ≤ (u64.wrap (i64.wrap (50 - v9)))) ∧ J7 (i64.wrap (s4.1 + (XX .i64 1 (u64.wrap (i64.wrap (50 - v9))))))) (J7 s4.1))) (J3 (s4.1, s4.2.1))) (0, true, 0)))
abbrev WF : Prop := ∀ {a0}, Fg (Kb a0) 216 [.agg (XZ a0)] (fun r => [.c (.p (i4 r.1)), .c (.p (i4 r.2))]) (fun _ => [])
instance Q3m : ∀ {a0}, Gm (Kb a0) := Z7 (Kb.eq_1 _)
def YR (a0 : Qa) (a1 : ByteArray) (Q : Int → Prop) : Prop :=
 jo (fun (p1 : Int) => sh [] [] [(5, tI p1)] []) (fun p1 => Q p1) (fun J1 => lv (fun (s2 : Int × Int) => 0 ≤ s2.2 ∧ s2.2 ≤ (a0.fa9.length : Int)) (fun s2 => ((a0.fa9.length : Int) - s2.2 + 1).toNat) (fun s2 => sh [1, 2] [(2, 0)] [(5, tI s2.1), (6, tI s2.2)] []) (fun X2 s2 => ct (decide (s2.2 < (a0.fa9.length : Int))) (jo (fun (p4 : Int) => sh [1, 2, 6] [(2, 0)] [(5, tI p4)] []) (fun p4 => X2 (p4, (i64.wrap (s2.2 + 1)))) (fun J4 => lv (fun (s5 : Int × Int) => 0 ≤ s5.2 ∧ s5.2 ≤ (4000000 : Int)) (fun s5 => ((4000000 : Int) - s5.2 + 1).toNat) (fun s5 => sh [1, 2, 6] [(2, 0)] [(5, tI s5.1), (7, tI s5.2)] []) (fun X5 s5 => ∃ v7, ix a0.fa9 s2.2 v7 ∧ ct (decide (s5.2 < (v7.length : Int))) (jo (fun (p8 : Int) => sh [1, 2, 6, 7] [(2, 0)] [(5, tI p8)] []) (fun p8 => X5 (p8, (i64.wrap (s5.2 + 1)))) (fun J8 => ∃ v9, ix a0.fa9 s2.2 v9 ∧ ∃ v10, ix v9 s5.2 v10 ∧ ct (Op.bytesLess v10.toList a1.toList || v10.toList == a1.toList) (((0 : Int) ≤ (u64.wrap s2.2)) ∧ J8 (i64.wrap (s5.1 + (XX .i64 1 (u64.wrap s2.2))))) (J8 s5.1))) (J4 s5.1)) (s2.1, 0))) (J1 s2.1)) (0, 0))
abbrev EA : Prop := ∀ {a0 a1}, Fg (YR a0 a1) 239 [.agg (Xa a0), .c (s4 a1)] (fun r => [.c (.p (i4 r))]) (fun _ => [])
instance Qvq : ∀ {a0 a1}, Gm (YR a0 a1) := Z7 (YR.eq_1 _ _)
def Ud (a0 : Qa) (a1 : ByteArray) (Q : (Int × Int) → Prop) : Prop :=
 ∃ v2, Rr (QY a0) v2 ∧ ct (v2 != 0) (Q (0, v2)) (∃ v4, Rr (ZD a1) v4 ∧ ct (!(v4)) (Q (0, 7)) (∃ v5, Rr (YR a0 a1) v5 ∧ Q (v5, 0)))
abbrev HK : Prop := ∀ {a0 a1}, Fg (Ud a0 a1) 217 [.agg (Xa a0), .c (s4 a1)] (fun r => [.c (.p (i4 r.1)), .c (.p (i4 r.2))]) (fun _ => [])
instance Qvr : ∀ {a0 a1}, Gm (Ud a0 a1) := Z7 (Ud.eq_1 _ _)
def VS (a0 : Qa) (a1 : Int) (a2 : Int) (Q : (ByteArray × Int) → Prop) : Prop :=
 ∃ v2, Rr (QY a0) v2 ∧ ct (v2 != 0) (Q ((⟨#[]⟩ : ByteArray), v2)) (∃ v4, Rr (Qz a2 1 1000000) v4 ∧ ∃ v5, ((!(!(v4))) = true → Rr (Qz a1 0 a2) v5) ∧ ct (bif !(v4) then true else !(v5)) (Q ((⟨#[]⟩ : ByteArray), 5)) (Qg (ZP.mk [1, 2, 3] [(3, 0)] 7) (ct (a0.fy == 0) (Q ((⟨#[]⟩ : ByteArray), 17)) (∃ v7, Rr (Vy (i64.wrap (a1 * a0.fy)) a2) v7 ∧ jo (fun (p8 : ByteArray) => sh [] [] [(11, tS p8)] []) (fun p8 => Q (p8, 0)) (fun J8 => lv (fun (s9 : ByteArray × Int) => 0 ≤ s9.2 ∧ s9.2 ≤ (a0.fa9.length : Int) ∧ (s9.1.size ≤ 2000000)) (fun s9 => ((a0.fa9.length : Int) - s9.2 + 1).toNat) (fun s9 => sh [3, 9] [(3, 0)] [(11, tS s9.1), (12, tI s9.2)] []) (fun X9 s9 => ct (decide (s9.2 < (a0.fa9.length : Int))) (jo (fun (p11 : ByteArray) => sh [3, 9, 12] [(3, 0)] [(11, tS p11)] []) (fun p11 => X9 (p11, (i64.wrap (s9.2 + 1)))) (fun J11 => lv (fun (s12 : ByteArray × Int) => 0 ≤ s12.2 ∧ s12.2 ≤ (4000000 : Int) ∧ (s12.1.size ≤ 2000000)) (fun s12 => ((4000000 : Int) - s12.2 + 1).toNat) (fun s12 => sh [3, 9, 12] [(3, 0)] [(11, tS s12.1), (13, tI s12.2)] []) (fun X12 s12 => ∃ v14, ix a0.fa9 s9.2 v14 ∧ ct (decide (s12.2 < (v14.length : Int))) (jo (fun (p15 : ByteArray) => sh [3, 9, 12, 13] [(3, 0)] [(11, tS p15)] []) (fun p15 => X12 (p15, (i64.wrap (s12.2 + 1)))) (fun J15 => ∃ v16, ix a0.fa9 s9.2 v16 ∧ ∃ v17, ix v16 s12.2 v17 ∧ ∃ v18, Rr (YR a0 v17) v18 ∧ ct (bif decide (v18 ≥ (KH v7.1 1)) then (bif (s12.1.toList == (⟨#[]⟩ : ByteArray).toList) then true else (Op.bytesLess v17.toList s12.1.toList)) else false) (J15 v17) (J15 s12.1))) (J11 s12.1)) (s9.1, 0))) (J8 s9.1)) ((⟨#[]⟩ : ByteArray), 0))))))
abbrev CG : Prop := ∀ {a0 a1 a2}, Fg (VS a0 a1 a2) 218 [.agg (Xa a0), .c (i4 a1), .c (i4 a2)] (fun r => [.c (.p (s4 r.1)), .c (.p (i4 r.2))]) (fun _ => [])
instance Qfv : ∀ {a0 a1 a2}, Gm (VS a0 a1 a2) := Z7 (VS.eq_1 _ _ _)
def YS (a0 : Q9) (a1 : Qo) (Q : (Qj × Int) → Prop) : Prop :=
 ∃ v2, Rr (ZA a0) v2 ∧ ct (v2 != 0) (Q ((Qj.mk 0 0 ByteArray.empty [] [] false), v2)) (∃ v4, Rr (ZI a1) v4 ∧ ct (v4 != 0) (Q ((Qj.mk 0 0 ByteArray.empty [] [] false), v4)) (∃ v5, Rr (KW a0) v5 ∧ Qg (ZP.mk [2, 3, 4, 8, 9, 10] [(2, 0), (3, 0), (4, 0), (8, 0)] 11) (jo (fun (p6 : Int × Int × ByteArray × (List Int) × (List Q5)) => sh [4, 8] [(4, 0)] [] [((8, 2003), some (.row 1 (mi p6.2.2.2.1) true)), ((8, 0), some (.box ([.p (i4 p6.1), .p (i4 p6.2.1), .p (s4 p6.2.2.1), .sl (8, 2003) 0 (mi p6.2.2.2.1).length, .p (.l 3 (List.map Q1 p6.2.2.2.2)), .p (b4 v5)])))]) (fun p6 => Q ((Qj.mk p6.1 p6.2.1 p6.2.2.1 p6.2.2.2.1 p6.2.2.2.2 v5), 0)) (fun J6 => Qg (ZP.mk [2, 3, 4, 8, 9, 10, 46] [(2, 0), (3, 0), (4, 0), (8, 0)] 100046) (ct (bif (a1.f8 == 1) then (a0.fj.f8 == 1) else false) (J6 (a0.fa1.fy, 0, ByteArray.empty, [], [])) (Qg (ZP.mk [2, 3, 4, 8, 9, 10, 58] [(2, 0), (3, 0), (4, 0), (8, 0)] 100058) (ct (bif (a1.f8 == 1) then (a0.fj.f8 == 4) else false) (J6 (a0.fb0.fy, 0, ByteArray.empty, [], [])) (Qg (ZP.mk [2, 3, 4, 8, 9, 10, 70] [(2, 0), (3, 0), (4, 0), (8, 0)] 100070) (ct (bif (a1.f8 == 1) then (a0.fj.f8 == 5) else false) (J6 (a0.fi.fy, 0, ByteArray.empty, [], [])) (Qg (ZP.mk [2, 3, 4, 8, 9, 10, 82] [(2, 0), (3, 0), (4, 0), (8, 0)] 100082) (ct (bif (a1.f8 == 1) then (a0.fj.f8 == 6) else false) (J6 (a0.fw.fy, 0, ByteArray.empty, [], [])) (Qg (ZP.mk [2, 3, 4, 8, 9, 10, 94] [(2, 0), (3, 0), (4, 0), (8, 0)] 100094) (ct (bif (a1.f8 == 2) then (a0.fj.f8 == 2) else false) (∃ v7, Rr (ZM a0.fh a1.fd4) v7 ∧ J6 (v7.1, 0, ByteArray.empty, [], [])) (Qg (ZP.mk [2, 3, 4, 8, 9, 10, 111] [(2, 0), (3, 0), (4, 0), (8, 0)] 100111) (ct (bif (a1.f8 == 2) then (a0.fj.f8 == 4) else false) (∃ v8, Rr (ZL a0.fb0 a1.fd4) v8 ∧ J6 (v8.1.fb6, v8.1.ff4, ByteArray.empty, [], [])) (Qg (ZP.mk [2, 3, 4, 8, 9, 10, 134] [(2, 0), (3, 0), (4, 0), (8, 0)] 100134) (ct (bif (a1.f8 == 2) then (a0.fj.f8 == 5) else false) (∃ v9, Rr (KT a0.fi a1.fd4) v9 ∧ J6 (v9.1.fb6, v9.1.ff4, ByteArray.empty, [], [])) (Qg (ZP.mk [2, 3, 4, 8, 9, 10, 157] [(2, 0), (3, 0), (4, 0), (8, 0)] 100157) (ct (bif (a1.f8 == 3) then (a0.fj.f8 == 2) else false) ((a0.fh.fb9.length * 8 ≤ 140737488355328) ∧ J6 (0, 0, ByteArray.empty, a0.fh.fb9, [])) (Qg (ZP.mk [2, 3, 4, 8, 9, 10, 172] [(2, 0), (3, 0), (4, 0), (8, 0)] 100172) (ct (bif (a1.f8 == 3) then (a0.fj.f8 == 3) else false) ((a0.f7.fa3.length * 8 ≤ 140737488355328) ∧ J6 (0, 0, ByteArray.empty, a0.f7.fa3, [])) (Qg (ZP.mk [2, 3, 4, 8, 9, 10, 187] [(2, 0), (3, 0), (4, 0), (8, 0)] 100187) (ct (bif (a1.f8 == 4) then (a0.fj.f8 == 3) else false) (∃ v12, Rr (Kb a0.f7) v12 ∧ J6 (v12.1, 0, ByteArray.empty, [], [])) (Qg (ZP.mk [2, 3, 4, 8, 9, 202] [(2, 0), (3, 0), (4, 0), (8, 0)] 100202) (ct (bif (a1.f8 == 5) then (bif (a0.fj.f8 == 4) then true else (a0.fj.f8 == 5)) else false) (∃ v13, Rr (Jf a0) v13 ∧ ((0 : Int) ≤ (JE a1.fb6 (v13.1.length : Int)) ∧ (JE a1.fb6 (v13.1.length : Int) : Int) ≤ (((List.map Q1 v13.1).length : Nat) : Int)) ∧ J6 (0, 0, ByteArray.empty, [], (List.take (Int.toNat (JE a1.fb6 (v13.1.length : Int))) v13.1))) (ct (bif (a1.f8 == 6) then (a0.fj.f8 == 6) else false) (∃ v15, Rr (Ud a0.fw a1.fd4) v15 ∧ J6 (v15.1, a0.fw.fc8, ByteArray.empty, [], [])) (ct (bif (a1.f8 == 7) then (a0.fj.f8 == 6) else false) (∃ v16, Rr (VS a0.fw a1.fg9 a1.fh1) v16 ∧ ct (v16.2 != 0) (Q ((Qj.mk 0 0 ByteArray.empty [] [] false), v16.2)) (Qg (ZP.mk [2, 4, 8, 19] [(2, 0), (4, 0), (8, 0)] 43) (J6 (0, a0.fw.fc8, v16.1, [], [])))) (Q ((Qj.mk 0 0 ByteArray.empty [] [] false), 10)))))))))))))))))))))))))))))
abbrev EB : Prop := ∀ {a0 a1}, Fg (YS a0 a1) 159 [.agg (Kz a0), .agg (Hy a1)] (fun r => [.agg [.p (i4 r.1.fg6), .p (i4 r.1.ff4), .p (s4 r.1.fd4), .own 1 (mi r.1.fg1), .p (.l 3 (List.map Q1 r.1.fq)), .p (b4 r.1.fc)], .c (.p (i4 r.2))]) (fun _ => [])
instance Qvs : ∀ {a0 a1}, Gm (YS a0 a1) := Z7 (YS.eq_1 _ _)
def Ue (a0 : Q2) (a1 : List QH) (a2 : Int) (a3 : Int) (a4 : Qo) (Q : Qf → Prop) : Prop :=
 ∃ v1, Rr (KC a1 a2 a3) v1 ∧ ct (v1.2.2 != 0) (Q (Qf.mk v1.2.2 0 0 0 [] (Qj.mk 0 0 ByteArray.empty [] [] false) [])) (∃ v3, Rr (Jb a0 v1.2.1 v1.1.f9) v3 ∧ ∃ v4, Rr (YS (Q9.mk v3.1.fj v3.1.fa1 (Q3.mk v3.1.fh.fa4 v3.1.fh.fu v3.1.fh.fa2 v3.1.fh.fb9 v3.1.fh.fc) (Q8.mk v3.1.f7.fa5 v3.1.f7.fa2 v3.1.f7.fa3) (Qd.mk v3.1.fb0.fu v3.1.fb0.fy v3.1.fb0.fq v3.1.fb0.fc) (Q4.mk v3.1.fi.fu v3.1.fi.fy v3.1.fi.fd3 v3.1.fi.fq v3.1.fi.fc) (Qa.mk v3.1.fw.fu v3.1.fw.fy v3.1.fw.fc8 v3.1.fw.fa9 v3.1.fw.fc)) a4) v4 ∧ ct (v4.2 != 0) (Q (Qf.mk v4.2 0 0 0 [] (Qj.mk 0 0 ByteArray.empty [] [] false) [])) (Q (Qf.mk 0 v1.1.f9 v3.2.1 0 [] (Qj.mk v4.1.fg6 v4.1.ff4 v4.1.fd4 v4.1.fg1 v4.1.fq v4.1.fc) [])))
abbrev HL : Prop := ∀ {a0 a1 a2 a3 a4}, Fg (Ue a0 a1 a2 a3 a4) 104 [.agg (Qu a0), .c (.l 3 (List.map Kg a1)), .c (i4 a2), .c (i4 a3), .agg (Hy a4)] (fun r => [.agg [.p (i4 r.fh6), .p (i4 r.f9), .p (i4 r.fg5), .p (i4 r.fc1), .p (.l 1 (List.map eS r.fb2)), .p (i4 r.fb1.fg6), .p (i4 r.fb1.ff4), .p (s4 r.fb1.fd4), .own 1 (mi r.fb1.fg1), .p (.l 3 (List.map Q1 r.fb1.fq)), .p (b4 r.fb1.fc), .p (.l 1 (List.map (eI .u8) r.fc2))]]) (fun _ => [])
instance Qvt : ∀ {a0 a1 a2 a3 a4}, Gm (Ue a0 a1 a2 a3 a4) := Z7 (Ue.eq_1 _ _ _ _ _)
def Kc (a0 : Q2) (a1 : List QH) (a2 : Int) (Q : (Q2 × (List QH) × Qf) → Prop) : Prop :=
 ∃ v2, ((!(bif decide (a2 < 0) then true else decide (a2 ≥ (a1.length : Int)))) = true → ix a1 a2 v2) ∧ ct (bif (bif decide (a2 < 0) then true else decide (a2 ≥ (a1.length : Int))) then true else !(v2.fh9)) (Q (a0, a1, (Qf.mk 8 0 0 0 [] (Qj.mk 0 0 ByteArray.empty [] [] false) []))) (Qg (ZP.mk [1, 2, 3, 6, 8] [(3, 0), (6, 0), (8, 0)] 4) (∃ v3, ix a1 a2 v3 ∧ ∃ v4, Rr (Jy a0 v3.f9) v4 ∧ (a1.length * 40 ≤ 140737488355328) ∧ ∃ v6, ix a1 a2 v6 ∧ Qg (QH.mk false 0 []) (Q (v4.1, (List.set a1 (Int.toNat a2) (QH.mk false 0 [])), (Qf.mk 0 0 0 0 [] (Qj.mk 0 0 ByteArray.empty [] [] false) [])))))
abbrev WG : Prop := ∀ {a0 a1 a2}, Fg (Kc a0 a1 a2) 105 [.agg (Qu a0), .c (.l 3 (List.map Kg a1)), .c (i4 a2)] (fun r => [.agg [.p (i4 r.1.fk.fa0), .p (i4 r.1.fk.fb2), .p (i4 r.1.fk.fa8), .p (i4 r.1.fk.fb7), .p (i4 r.1.fk.fc5), .p (i4 r.1.fk.fc7), .p (i4 r.1.fk.fb5), .p (i4 r.1.f9), .p (i4 r.1.ff3), .p (.l 2 (List.map Qi r.1.fa6)), .p (.l 4 (List.map Qc r.1.fb4)), .p (.l 2 (List.map Qm r.1.fc5)), .p (i4 r.1.fc4.fc3), .p (.l 3 (List.map Qp r.1.fc4.fa8))], .c (.p (.l 3 (List.map Kg r.2.1))), .agg [.p (i4 r.2.2.fh6), .p (i4 r.2.2.f9), .p (i4 r.2.2.fg5), .p (i4 r.2.2.fc1), .p (.l 1 (List.map eS r.2.2.fb2)), .p (i4 r.2.2.fb1.fg6), .p (i4 r.2.2.fb1.ff4), .p (s4 r.2.2.fb1.fd4), .p (.l 1 (mi r.2.2.fb1.fg1)), .p (.l 3 (List.map Q1 r.2.2.fb1.fq)), .p (b4 r.2.2.fb1.fc), .p (.l 1 (List.map (eI .u8) r.2.2.fc2))]]) (fun _ => [])
instance Q3n : ∀ {a0 a1 a2}, Gm (Kc a0 a1 a2) := Z7 (Kc.eq_1 _ _ _)
def Jt (a0 : Q2) (a1 : List QH) (a2 : List Ze) (a3 : Int) (a4 : Int) (Q : (Q2 × (List Ze) × Qf) → Prop) : Prop :=
 ∃ v1, Rr (KC a1 a3 a4) v1 ∧ ct (v1.2.2 != 0) (Q (a0, a2, (Qf.mk v1.2.2 0 0 0 [] (Qj.mk 0 0 ByteArray.empty [] [] false) []))) (∃ v3, Rr (Jb a0 v1.2.1 v1.1.f9) v3 ∧ ∃ v5, Rr (Jf (Q9.mk v3.1.fj v3.1.fa1 (Q3.mk v3.1.fh.fa4 v3.1.fh.fu v3.1.fh.fa2 v3.1.fh.fb9 v3.1.fh.fc) (Q8.mk v3.1.f7.fa5 v3.1.f7.fa2 v3.1.f7.fa3) (Qd.mk v3.1.fb0.fu v3.1.fb0.fy v3.1.fb0.fq v3.1.fb0.fc) (Q4.mk v3.1.fi.fu v3.1.fi.fy v3.1.fi.fd3 v3.1.fi.fq v3.1.fi.fc) (Qa.mk v3.1.fw.fu v3.1.fw.fy v3.1.fw.fc8 v3.1.fw.fa9 v3.1.fw.fc))) v5 ∧ ct (v5.2 != 0) (Q (a0, a2, (Qf.mk v5.2 0 0 0 [] (Qj.mk 0 0 ByteArray.empty [] [] false) []))) (jo (fun (p6 : Int) => sh [2, 5, 10, 12, 13, 14] [(5, 0), (10, 0), (12, 0), (13, 0)] [(21, tI p6)] []) (fun p6 => ct (p6 == (a2.length : Int)) (Q (a0, a2, (Qf.mk 11 0 0 0 [] (Qj.mk 0 0 ByteArray.empty [] [] false) []))) (∃ v11, Rr (Xe a0 v1.1.f9) v11 ∧ ct (v11.2 != 0) (Q (a0, a2, (Qf.mk v11.2 0 0 0 [] (Qj.mk 0 0 ByteArray.empty [] [] false) []))) ((a2.length * 40 ≤ 140737488355328) ∧ ∃ v14, ix a2 p6 v14 ∧ Qg (Ze.mk true v1.1.f9 v1.2.1 0) (Q (v11.1, (List.set a2 (Int.toNat p6) (Ze.mk true v1.1.f9 v1.2.1 0)), (Qf.mk 0 v1.1.f9 0 p6 [] (Qj.mk 0 0 ByteArray.empty [] [] false) [])))))) (fun J6 => lv (fun (s7 : Int) => 0 ≤ s7 ∧ s7 ≤ (a2.length : Int)) (fun s7 => ((a2.length : Int) - s7 + 1).toNat) (fun s7 => sh [2, 5, 10, 12, 13, 14] [(5, 0), (10, 0), (12, 0), (13, 0)] [(21, tI s7)] []) (fun X7 s7 => ∃ v9, ((decide (s7 < (a2.length : Int))) = true → ix a2 s7 v9) ∧ ct (bif decide (s7 < (a2.length : Int)) then v9.fh9 else false) (Qg (ZP.mk [2, 5, 10, 12, 13, 14, 21] [(5, 0), (10, 0), (12, 0), (13, 0)] 11) (X7 (i64.wrap (s7 + 1)))) (J6 s7)) 0)))
abbrev Ap : Prop := ∀ {a0 a1 a2 a3 a4}, Fg (Jt a0 a1 a2 a3 a4) 106 [.agg (Qu a0), .c (.l 3 (List.map Kg a1)), .c (.l 4 (List.map VV a2)), .c (i4 a3), .c (i4 a4)] (fun r => [.agg [.p (i4 r.1.fk.fa0), .p (i4 r.1.fk.fb2), .p (i4 r.1.fk.fa8), .p (i4 r.1.fk.fb7), .p (i4 r.1.fk.fc5), .p (i4 r.1.fk.fc7), .p (i4 r.1.fk.fb5), .p (i4 r.1.f9), .p (i4 r.1.ff3), .p (.l 2 (List.map Qi r.1.fa6)), .p (.l 4 (List.map Qc r.1.fb4)), .p (.l 2 (List.map Qm r.1.fc5)), .p (i4 r.1.fc4.fc3), .p (.l 3 (List.map Qp r.1.fc4.fa8))], .c (.p (.l 4 (List.map VV r.2.1))), .agg [.p (i4 r.2.2.fh6), .p (i4 r.2.2.f9), .p (i4 r.2.2.fg5), .p (i4 r.2.2.fc1), .p (.l 1 (List.map eS r.2.2.fb2)), .p (i4 r.2.2.fb1.fg6), .p (i4 r.2.2.fb1.ff4), .p (s4 r.2.2.fb1.fd4), .p (.l 1 (mi r.2.2.fb1.fg1)), .p (.l 3 (List.map Q1 r.2.2.fb1.fq)), .p (b4 r.2.2.fb1.fc), .p (.l 1 (List.map (eI .u8) r.2.2.fc2))]]) (fun _ => [])
instance Q9v : ∀ {a0 a1 a2 a3 a4}, Gm (Jt a0 a1 a2 a3 a4) := Z7 (Jt.eq_1 _ _ _ _ _)
def Vg (a0 : Q2) (a1 : List Ze) (a2 : Int) (a3 : Int) (Q : ((List Ze) × Qf) → Prop) : Prop :=
 ∃ v2, ((!(bif decide (a2 < 0) then true else decide (a2 ≥ (a1.length : Int)))) = true → ix a1 a2 v2) ∧ ct (bif (bif decide (a2 < 0) then true else decide (a2 ≥ (a1.length : Int))) then true else !(v2.fh9)) (Q (a1, (Qf.mk 8 0 0 0 [] (Qj.mk 0 0 ByteArray.empty [] [] false) []))) (Qg (ZP.mk [1, 2, 3, 4, 9] [(4, 0), (9, 0)] 4) (ct (decide (a3 < 0)) (Q (a1, (Qf.mk 5 0 0 0 [] (Qj.mk 0 0 ByteArray.empty [] [] false) []))) (∃ v4, ix a1 a2 v4 ∧ ∃ v5, Rr (Jb a0 v4.fd2 v4.f9) v5 ∧ ∃ v6, Rr (Jf (Q9.mk v5.1.fj v5.1.fa1 (Q3.mk v5.1.fh.fa4 v5.1.fh.fu v5.1.fh.fa2 v5.1.fh.fb9 v5.1.fh.fc) (Q8.mk v5.1.f7.fa5 v5.1.f7.fa2 v5.1.f7.fa3) (Qd.mk v5.1.fb0.fu v5.1.fb0.fy v5.1.fb0.fq v5.1.fb0.fc) (Q4.mk v5.1.fi.fu v5.1.fi.fy v5.1.fi.fd3 v5.1.fi.fq v5.1.fi.fc) (Qa.mk v5.1.fw.fu v5.1.fw.fy v5.1.fw.fc8 v5.1.fw.fa9 v5.1.fw.fc))) v6 ∧ ((0 : Int) ≤ (JE (KH v4.fi0 0) (v6.1.length : Int)) ∧ (JE (KH v4.fi0 0) (v6.1.length : Int) : Int) ≤ (((List.map Q1 v6.1).length : Nat) : Int)) ∧ ((0 : Int) ≤ (JE a3 (((List.map Q1 v6.1).length - Int.toNat (JE (KH v4.fi0 0) (v6.1.length : Int)) : Nat) : Int)) ∧ (JE a3 (((List.map Q1 v6.1).length - Int.toNat (JE (KH v4.fi0 0) (v6.1.length : Int)) : Nat) : Int) : Int) ≤ (((List.map Q1 v6.1).length - Int.toNat (JE (KH v4.fi0 0) (v6.1.length : Int)) : Nat) : Int)) ∧ Qg (ZP.mk [1, 2, 9, 10, 11, 14] [(9, 0), (10, 0), (11, 0), (49, 10), (49, 14), (49, 17), (49, 22), (49, 27), (55, 0)] 11) ((a1.length * 40 ≤ 140737488355328) ∧ ∃ v10, ix a1 a2 v10 ∧ ∃ v11, ix a1 a2 v11 ∧ Qg (Ze.mk v11.fh9 v11.f9 v11.fd2 (i64.wrap (v10.fi0 + ((Int.toNat (JE a3 (((List.map Q1 v6.1).length - Int.toNat (JE (KH v4.fi0 0) (v6.1.length : Int)) : Nat) : Int)) : Nat) : Int)))) (∃ v12, Rr (KW (Q9.mk v5.1.fj v5.1.fa1 (Q3.mk v5.1.fh.fa4 v5.1.fh.fu v5.1.fh.fa2 v5.1.fh.fb9 v5.1.fh.fc) (Q8.mk v5.1.f7.fa5 v5.1.f7.fa2 v5.1.f7.fa3) (Qd.mk v5.1.fb0.fu v5.1.fb0.fy v5.1.fb0.fq v5.1.fb0.fc) (Q4.mk v5.1.fi.fu v5.1.fi.fy v5.1.fi.fd3 v5.1.fi.fq v5.1.fi.fc) (Qa.mk v5.1.fw.fu v5.1.fw.fy v5.1.fw.fc8 v5.1.fw.fa9 v5.1.fw.fc))) v12 ∧ Q ((List.set a1 (Int.toNat a2) (Ze.mk v11.fh9 v11.f9 v11.fd2 (i64.wrap (v10.fi0 + ((Int.toNat (JE a3 (((List.map Q1 v6.1).length - Int.toNat (JE (KH v4.fi0 0) (v6.1.length : Int)) : Nat) : Int)) : Nat) : Int))))), (Qf.mk 0 v4.f9 0 0 [] (Qj.mk 0 0 ByteArray.empty [] (List.take (Int.toNat (JE a3 (((List.map Q1 v6.1).length - Int.toNat (JE (KH v4.fi0 0) (v6.1.length : Int)) : Nat) : Int))) (List.drop (0 + Int.toNat (JE (KH v4.fi0 0) (v6.1.length : Int))) v6.1)) v12) [])))))))
abbrev BP : Prop := ∀ {a0 a1 a2 a3}, Fg (Vg a0 a1 a2 a3) 107 [.agg (Qu a0), .c (.l 4 (List.map VV a1)), .c (i4 a2), .c (i4 a3)] (fun r => [.c (.p (.l 4 (List.map VV r.1))), .agg [.p (i4 r.2.fh6), .p (i4 r.2.f9), .p (i4 r.2.fg5), .p (i4 r.2.fc1), .p (.l 1 (List.map eS r.2.fb2)), .p (i4 r.2.fb1.fg6), .p (i4 r.2.fb1.ff4), .p (s4 r.2.fb1.fd4), .p (.l 1 (mi r.2.fb1.fg1)), .p (.l 3 (List.map Q1 r.2.fb1.fq)), .p (b4 r.2.fb1.fc), .p (.l 1 (List.map (eI .u8) r.2.fc2))]]) (fun _ => [])
instance Qej : ∀ {a0 a1 a2 a3}, Gm (Vg a0 a1 a2 a3) := Z7 (Vg.eq_1 _ _ _ _)
def KU (a0 : Q2) (a1 : List Ze) (a2 : Int) (Q : (Q2 × (List Ze) × Qf) → Prop) : Prop :=
 ∃ v2, ((!(bif decide (a2 < 0) then true else decide (a2 ≥ (a1.length : Int)))) = true → ix a1 a2 v2) ∧ ct (bif (bif decide (a2 < 0) then true else decide (a2 ≥ (a1.length : Int))) then true else !(v2.fh9)) (Q (a0, a1, (Qf.mk 8 0 0 0 [] (Qj.mk 0 0 ByteArray.empty [] [] false) []))) (Qg (ZP.mk [1, 2, 3, 6, 8] [(3, 0), (6, 0), (8, 0)] 4) (∃ v3, ix a1 a2 v3 ∧ ∃ v4, Rr (Jy a0 v3.f9) v4 ∧ (a1.length * 40 ≤ 140737488355328) ∧ ∃ v6, ix a1 a2 v6 ∧ Qg (Ze.mk false 0 ByteArray.empty 0) (Q (v4.1, (List.set a1 (Int.toNat a2) (Ze.mk false 0 ByteArray.empty 0)), (Qf.mk 0 0 0 0 [] (Qj.mk 0 0 ByteArray.empty [] [] false) [])))))
abbrev UF : Prop := ∀ {a0 a1 a2}, Fg (KU a0 a1 a2) 108 [.agg (Qu a0), .c (.l 4 (List.map VV a1)), .c (i4 a2)] (fun r => [.agg [.p (i4 r.1.fk.fa0), .p (i4 r.1.fk.fb2), .p (i4 r.1.fk.fa8), .p (i4 r.1.fk.fb7), .p (i4 r.1.fk.fc5), .p (i4 r.1.fk.fc7), .p (i4 r.1.fk.fb5), .p (i4 r.1.f9), .p (i4 r.1.ff3), .p (.l 2 (List.map Qi r.1.fa6)), .p (.l 4 (List.map Qc r.1.fb4)), .p (.l 2 (List.map Qm r.1.fc5)), .p (i4 r.1.fc4.fc3), .p (.l 3 (List.map Qp r.1.fc4.fa8))], .c (.p (.l 4 (List.map VV r.2.1))), .agg [.p (i4 r.2.2.fh6), .p (i4 r.2.2.f9), .p (i4 r.2.2.fg5), .p (i4 r.2.2.fc1), .p (.l 1 (List.map eS r.2.2.fb2)), .p (i4 r.2.2.fb1.fg6), .p (i4 r.2.2.fb1.ff4), .p (s4 r.2.2.fb1.fd4), .p (.l 1 (mi r.2.2.fb1.fg1)), .p (.l 3 (List.map Q1 r.2.2.fb1.fq)), .p (b4 r.2.2.fb1.fc), .p (.l 1 (List.map (eI .u8) r.2.2.fc2))]]) (fun _ => [])
instance Q7q : ∀ {a0 a1 a2}, Gm (KU a0 a1 a2) := Z7 (KU.eq_1 _ _ _)
def Ju (a0 : List Qs) (a1 : Int) (Q : ((List Qs) × Int) → Prop) : Prop :=
 ∃ v2, Rr (ZJ a0) v2 ∧ ct (v2 != 0) (Q ([], v2)) (∃ v4, ((!((a0.length : Int) == 0)) = true → ix a0 (i64.wrap ((a0.length : Int) - 1)) v4) ∧ ct (bif ((a0.length : Int) == 0) then true else (v4.fTo != 0)) (Q ([], 17)) (Qg (ZP.mk [0, 1, 7] [] 8) (∃ v6, ix a0 (i64.wrap ((a0.length : Int) - 1)) v6 ∧ ct (decide (a1 ≤ v6.fd5)) (Q ([], 19)) ((a0.length * 48 ≤ 140737488355328) ∧ ∃ v8, ix a0 (i64.wrap ((a0.length : Int) - 1)) v8 ∧ Qg (Qs.mk v8.fd5 a1 v8.fu v8.fa8) (Q ((List.set a0 (Int.toNat (i64.wrap ((a0.length : Int) - 1))) (Qs.mk v8.fd5 a1 v8.fu v8.fa8)), 0))))))
abbrev Aq : Prop := ∀ {a0 a1}, Fg (Ju a0 a1) 219 [.c (.l 4 (List.map Za a0)), .c (i4 a1)] (fun r => [.c (.own 4 (List.map Za r.1)), .c (.p (i4 r.2))]) (fun _ => [])
instance Q9w : ∀ {a0 a1}, Gm (Ju a0 a1) := Z7 (Ju.eq_1 _ _)
def X0 (a0 : List Qn) (a1 : ByteArray) (Q : Int → Prop) : Prop :=
 jo (fun (p1 : Unit) => sh [] [] [] []) (fun p1 => Q (-1)) (fun J1 => lv (fun (s2 : Int) => 0 ≤ s2 ∧ s2 ≤ (a0.length : Int)) (fun s2 => ((a0.length : Int) - s2 + 1).toNat) (fun s2 => sh [0, 1] [] [(5, tI s2)] []) (fun X2 s2 => ct (decide (s2 < (a0.length : Int))) (∃ v5, ix a0 s2 v5 ∧ ∃ v6, ((v5.fd2.toList == a1.toList) = true → ix a0 s2 v6) ∧ ct (bif (v5.fd2.toList == a1.toList) then (v6.fTo == 0) else false) (Q s2) (Qg (ZP.mk [0, 1, 5] [] 4) (X2 (i64.wrap (s2 + 1))))) (J1 ())) 0)
abbrev De : Prop := ∀ {a0 a1}, Fg (X0 a0 a1) 241 [.c (.l 4 (List.map Qc a0)), .c (s4 a1)] (fun r => [.c (.p (i4 r))]) (fun _ => [])
instance Qrp : ∀ {a0 a1}, Gm (X0 a0 a1) := Z7 (X0.eq_1 _ _)
def XD (a0 : List Qn) (a1 : ByteArray) (a2 : Int) (Q : ((List Qn) × Int) → Prop) : Prop :=
 ∃ v2, Rr (Zf a0) v2 ∧ ct (v2 != 0) (Q ([], v2)) (∃ v4, Rr (Zw a1) v4 ∧ ct (!(v4)) (Q ([], 6)) (ct (decide (a2 < 1)) (Q ([], 5)) (∃ v7, Rr (VZ a0 a2) v7 ∧ ct v7 (Q ([], 19)) (∃ v8, Rr (X0 a0 a1) v8 ∧ ct (decide (v8 < 0)) (Q ([], 8)) (∃ v11, ix a0 v8 v11 ∧ ct (decide (a2 ≤ v11.fd5)) (Q ([], 19)) ((a0.length * 40 ≤ 140737488355328) ∧ ∃ v13, ix a0 v8 v13 ∧ Qg (Qn.mk v13.fd2 v13.fb8 v13.fd5 a2) (Q ((List.set a0 (Int.toNat v8) (Qn.mk v13.fd2 v13.fb8 v13.fd5 a2)), 0))))))))
abbrev DX : Prop := ∀ {a0 a1 a2}, Fg (XD a0 a1 a2) 220 [.c (.l 4 (List.map Qc a0)), .c (s4 a1), .c (i4 a2)] (fun r => [.c (.own 4 (List.map Qc r.1)), .c (.p (i4 r.2))]) (fun _ => [])
instance Qjv : ∀ {a0 a1 a2}, Gm (XD a0 a1 a2) := Z7 (XD.eq_1 _ _ _)
def Wd (a0 : Q2) (a1 : ByteArray) (Q : (Q2 × Int × Int) → Prop) : Prop :=
 ∃ v1, Rr (Kw a0 a1 a0.f9) v1 ∧ ct (!(v1.2.2)) (Q (a0, 0, 8)) (ct (decide (a0.f9 ≥ a0.fk.fc7)) (Q (a0, 0, 14)) ((a0.fa6.length * 32 ≤ 140737488355328) ∧ ∃ v5, ix a0.fa6 v1.1 v5 ∧ ∃ v6, Rr (Ju v5.fc0 (i64.wrap (a0.f9 + 1))) v6 ∧ ∃ v7, ix a0.fa6 v1.1 v7 ∧ Qg (Qw.mk v7.fID v6.1) (Qg (ZP.mk [1, 2, 4] [(2, 0), (35, 0), (4, 0)] 10) (∃ v8, Rr (XD a0.fb4 a1 (i64.wrap (a0.f9 + 1))) v8 ∧ Q ((Q2.mk a0.fk (i64.wrap (a0.f9 + 1)) a0.ff3 (List.set a0.fa6 (Int.toNat v1.1) (Qw.mk v7.fID v6.1)) v8.1 a0.fc5 a0.fc4), (i64.wrap (a0.f9 + 1)), 0)))))
abbrev Gn : Prop := ∀ {a0 a1}, Fg (Wd a0 a1) 162 [.agg (Qu a0), .c (s4 a1)] (fun r => [.agg [.p (i4 r.1.fk.fa0), .p (i4 r.1.fk.fb2), .p (i4 r.1.fk.fa8), .p (i4 r.1.fk.fb7), .p (i4 r.1.fk.fc5), .p (i4 r.1.fk.fc7), .p (i4 r.1.fk.fb5), .p (i4 r.1.f9), .p (i4 r.1.ff3), .p (.l 2 (List.map Qi r.1.fa6)), .p (.l 4 (List.map Qc r.1.fb4)), .p (.l 2 (List.map Qm r.1.fc5)), .p (i4 r.1.fc4.fc3), .p (.l 3 (List.map Qp r.1.fc4.fa8))], .c (.p (i4 r.2.1)), .c (.p (i4 r.2.2))]) (fun _ => [])
instance Qrq : ∀ {a0 a1}, Gm (Wd a0 a1) := Z7 (Wd.eq_1 _ _)
def XE (a0 : List Qn) (a1 : ByteArray) (a2 : ByteArray) (a3 : Int) (Q : ((List Qn) × Int) → Prop) : Prop :=
 ∃ v2, Rr (Zf a0) v2 ∧ ct (v2 != 0) (Q ([], v2)) (∃ v4, Rr (Zw a1) v4 ∧ ∃ v5, ((!(!(v4))) = true → Rr (Zw a2) v5) ∧ ct (bif !(v4) then true else !(v5)) (Q ([], 6)) (Qg (ZP.mk [0, 1, 2, 3] [] 7) (ct (decide (a3 < 1)) (Q ([], 5)) (∃ v8, Rr (VZ a0 a3) v8 ∧ ct v8 (Q ([], 19)) (∃ v9, Rr (X0 a0 a1) v9 ∧ ct (decide (v9 < 0)) (Q ([], 8)) (∃ v12, Rr (X0 a0 a2) v12 ∧ ct (decide (v12 ≥ 0)) (Q ([], 9)) (∃ v14, ix a0 v9 v14 ∧ ct (decide (a3 ≤ v14.fd5)) (Q ([], 19)) ((a0.length * 40 ≤ 140737488355328) ∧ ∃ v16, ix a0 v9 v16 ∧ Qg (Qn.mk v16.fd2 v16.fb8 v16.fd5 a3) (∃ v17, ix a0 v9 v17 ∧ ∃ v18, Rr (Xj (List.set a0 (Int.toNat v9) (Qn.mk v16.fd2 v16.fb8 v16.fd5 a3)) (Qn.mk a2 v17.fb8 a3 0)) v18 ∧ Q (v18, 0))))))))))
abbrev DY : Prop := ∀ {a0 a1 a2 a3}, Fg (XE a0 a1 a2 a3) 221 [.c (.l 4 (List.map Qc a0)), .c (s4 a1), .c (s4 a2), .c (i4 a3)] (fun r => [.c (.own 4 (List.map Qc r.1)), .c (.p (i4 r.2))]) (fun _ => [])
instance Qjw : ∀ {a0 a1 a2 a3}, Gm (XE a0 a1 a2 a3) := Z7 (XE.eq_1 _ _ _ _)
def XF (a0 : Q2) (a1 : ByteArray) (a2 : ByteArray) (Q : (Q2 × Int × Int) → Prop) : Prop :=
 ∃ v2, Rr (Zw a2) v2 ∧ ct (!(v2)) (Q (a0, 0, 6)) (∃ v3, Rr (Kx a0 a1) v3 ∧ ct (!(v3)) (Q (a0, 0, 8)) (∃ v4, Rr (Kx a0 a2) v4 ∧ ct v4 (Q (a0, 0, 9)) (ct (decide (a0.f9 ≥ a0.fk.fc7)) (Q (a0, 0, 14)) (∃ v5, Rr (XE a0.fb4 a1 a2 (i64.wrap (a0.f9 + 1))) v5 ∧ Qg (ZP.mk [3, 6] [(3, 0), (44, 0), (6, 0)] 12) (Q ((Q2.mk a0.fk (i64.wrap (a0.f9 + 1)) a0.ff3 a0.fa6 v5.1 a0.fc5 a0.fc4), (i64.wrap (a0.f9 + 1)), 0))))))
abbrev DZ : Prop := ∀ {a0 a1 a2}, Fg (XF a0 a1 a2) 163 [.agg (Qu a0), .c (s4 a1), .c (s4 a2)] (fun r => [.agg [.p (i4 r.1.fk.fa0), .p (i4 r.1.fk.fb2), .p (i4 r.1.fk.fa8), .p (i4 r.1.fk.fb7), .p (i4 r.1.fk.fc5), .p (i4 r.1.fk.fc7), .p (i4 r.1.fk.fb5), .p (i4 r.1.f9), .p (i4 r.1.ff3), .p (.l 2 (List.map Qi r.1.fa6)), .p (.l 4 (List.map Qc r.1.fb4)), .p (.l 2 (List.map Qm r.1.fc5)), .p (i4 r.1.fc4.fc3), .p (.l 3 (List.map Qp r.1.fc4.fa8))], .c (.p (i4 r.2.1)), .c (.p (i4 r.2.2))]) (fun _ => [])
instance Qjx : ∀ {a0 a1 a2}, Gm (XF a0 a1 a2) := Z7 (XF.eq_1 _ _ _)
def Yt (a0 : Q2) (a1 : Int) (Q : ((List ByteArray) × Int) → Prop) : Prop :=
 ∃ v2, Rr (Kv a0 a1) v2 ∧ ct (v2 != 0) (Q ([], v2)) (∃ v3, Rr (Y9 a0.fb4 a1) v3 ∧ Q (v3, 0))
abbrev F9 : Prop := ∀ {a0 a1}, Fg (Yt a0 a1) 164 [.agg (Qu a0), .c (i4 a1)] (fun r => [.c (.own 1 (List.map eS r.1)), .c (.p (i4 r.2))]) (fun _ => [])
instance Qnc : ∀ {a0 a1}, Gm (Yt a0 a1) := Z7 (Yt.eq_1 _ _)
def XG (a0 : Q2) (a1 : Qq) (Q : Qk → Prop) : Prop :=
 ct (a1.f8 == 1) (∃ v2, Rr (YO a1.fj) v2 ∧ ∃ v3, Rr (KY (Q9.mk v2.1.fj v2.1.fa1 (Q3.mk v2.1.fh.fa4 v2.1.fh.fu v2.1.fh.fa2 v2.1.fh.fb9 v2.1.fh.fc) (Q8.mk v2.1.f7.fa5 v2.1.f7.fa2 v2.1.f7.fa3) v2.1.fb0 v2.1.fi v2.1.fw)) v3 ∧ ∃ v4, Rr (Vz a0 a1.fd2 v3.1) v4 ∧ ∃ v5, Rr (Ke v4.1 v4.2.1 v4.2.2) v5 ∧ Q v5) (ct (a1.f8 == 2) (∃ v6, Rr (Wd a0 a1.fd2) v6 ∧ ct (v6.2.2 != 0) (∃ v8, Rr (QW a0 v6.2.2) v8 ∧ Q v8) (∃ v9, Rr (Zj v6.1 (Qf.mk 0 v6.2.1 0 0 [] (Qj.mk 0 0 ByteArray.empty [] [] false) [])) v9 ∧ Q v9)) (ct (a1.f8 == 3) (∃ v10, Rr (XF a0 a1.fd2 a1.fg) v10 ∧ ct (v10.2.2 != 0) (∃ v12, Rr (QW a0 v10.2.2) v12 ∧ Q v12) (∃ v13, Rr (ZW v10.1 a1.fg v10.1.f9) v13 ∧ ∃ v14, Rr (Zj v10.1 (Qf.mk 0 v10.2.1 v13.2.1 0 [] (Qj.mk 0 0 ByteArray.empty [] [] false) [])) v14 ∧ Q v14)) (ct (a1.f8 == 4) (∃ v15, Rr (Yt a0 a0.f9) v15 ∧ ∃ v16, Rr (Zj a0 (Qf.mk 0 a0.f9 0 0 v15.1 (Qj.mk 0 0 ByteArray.empty [] [] false) [])) v16 ∧ Q v16) (∃ v17, Rr (Jb a0 a1.fd2 a0.f9) v17 ∧ ct (v17.2.2 != 0) (∃ v19, Rr (QW a0 v17.2.2) v19 ∧ Q v19) (∃ v20, Rr (YS (Q9.mk v17.1.fj v17.1.fa1 (Q3.mk v17.1.fh.fa4 v17.1.fh.fu v17.1.fh.fa2 v17.1.fh.fb9 v17.1.fh.fc) (Q8.mk v17.1.f7.fa5 v17.1.f7.fa2 v17.1.f7.fa3) (Qd.mk v17.1.fb0.fu v17.1.fb0.fy v17.1.fb0.fq v17.1.fb0.fc) (Q4.mk v17.1.fi.fu v17.1.fi.fy v17.1.fi.fd3 v17.1.fi.fq v17.1.fi.fc) (Qa.mk v17.1.fw.fu v17.1.fw.fy v17.1.fw.fc8 v17.1.fw.fa9 v17.1.fw.fc)) a1.fb3) v20 ∧ ct (v20.2 != 0) (∃ v22, Rr (QW a0 v20.2) v22 ∧ Q v22) (∃ v23, Rr (Zj a0 (Qf.mk 0 a0.f9 v17.2.1 0 [] (Qj.mk v20.1.fg6 v20.1.ff4 v20.1.fd4 v20.1.fg1 v20.1.fq v20.1.fc) [])) v23 ∧ Q v23))))))
abbrev E0 : Prop := ∀ {a0 a1}, Fg (XG a0 a1) 109 [.agg (Qu a0), .agg (JF a1)] (fun r => [.agg [.p (i4 r.fx.fk.fa0), .p (i4 r.fx.fk.fb2), .p (i4 r.fx.fk.fa8), .p (i4 r.fx.fk.fb7), .p (i4 r.fx.fk.fc5), .p (i4 r.fx.fk.fc7), .p (i4 r.fx.fk.fb5), .p (i4 r.fx.f9), .p (i4 r.fx.ff3), .p (.l 2 (List.map Qi r.fx.fa6)), .p (.l 4 (List.map Qc r.fx.fb4)), .p (.l 2 (List.map Qm r.fx.fc5)), .p (i4 r.fx.fc4.fc3), .p (.l 3 (List.map Qp r.fx.fc4.fa8)), .p (i4 r.fa.fc6), .p (i4 r.fa.fg3), .p (b4 r.fa.ff9), .p (.l 1 (mi r.fa.fc0)), .p (i4 r.fa.fb8), .p (i4 r.fa.ff.fj.f8), .p (i4 r.fa.ff.fj.fu), .p (i4 r.fa.ff.fj.fa4), .p (.v (.int .u64 r.fa.ff.fj.fa2)), .p (i4 r.fa.ff.fa1.fy), .p (i4 r.fa.ff.fa1.fa7), .p (b4 r.fa.ff.fa1.fc), .p (i4 r.fa.ff.fh.fa4), .p (i4 r.fa.ff.fh.fu), .p (.v (.int .u64 r.fa.ff.fh.fa2)), .p (.l 1 (mi r.fa.ff.fh.fb9)), .p (b4 r.fa.ff.fh.fc), .p (i4 r.fa.ff.f7.fa5), .p (.v (.int .u64 r.fa.ff.f7.fa2)), .p (.l 1 (mi r.fa.ff.f7.fa3)), .p (i4 r.fa.ff.fb0.fu), .p (i4 r.fa.ff.fb0.fy), .p (.l 3 (List.map Q1 r.fa.ff.fb0.fq)), .p (b4 r.fa.ff.fb0.fc), .p (i4 r.fa.ff.fi.fu), .p (i4 r.fa.ff.fi.fy), .p (i4 r.fa.ff.fi.fd3), .p (.l 3 (List.map Q1 r.fa.ff.fi.fq)), .p (b4 r.fa.ff.fi.fc), .p (i4 r.fa.ff.fw.fu), .p (i4 r.fa.ff.fw.fy), .p (i4 r.fa.ff.fw.fc8), .p (.l 1 (List.map (eL 1 eS) r.fa.ff.fw.fa9)), .p (b4 r.fa.ff.fw.fc), .p (i4 r.fa.fg.fj.f8), .p (i4 r.fa.fg.fj.fu), .p (i4 r.fa.fg.fj.fa4), .p (.v (.int .u64 r.fa.fg.fj.fa2)), .p (i4 r.fa.fg.fa1.fy), .p (i4 r.fa.fg.fa1.fa7), .p (b4 r.fa.fg.fa1.fc), .p (i4 r.fa.fg.fh.fa4), .p (i4 r.fa.fg.fh.fu), .p (.v (.int .u64 r.fa.fg.fh.fa2)), .p (.l 1 (mi r.fa.fg.fh.fb9)), .p (b4 r.fa.fg.fh.fc), .p (i4 r.fa.fg.f7.fa5), .p (.v (.int .u64 r.fa.fg.f7.fa2)), .p (.l 1 (mi r.fa.fg.f7.fa3)), .p (i4 r.fa.fg.fb0.fu), .p (i4 r.fa.fg.fb0.fy), .p (.l 3 (List.map Q1 r.fa.fg.fb0.fq)), .p (b4 r.fa.fg.fb0.fc), .p (i4 r.fa.fg.fi.fu), .p (i4 r.fa.fg.fi.fy), .p (i4 r.fa.fg.fi.fd3), .p (.l 3 (List.map Q1 r.fa.fg.fi.fq)), .p (b4 r.fa.fg.fi.fc), .p (i4 r.fa.fg.fw.fu), .p (i4 r.fa.fg.fw.fy), .p (i4 r.fa.fg.fw.fc8), .p (.l 1 (List.map (eL 1 eS) r.fa.fg.fw.fa9)), .p (b4 r.fa.fg.fw.fc), .p (i4 r.fa.fd7), .p (i4 r.fa.fg8), .p (i4 r.fa.fc1), .p (i4 r.fa.fd1), .p (i4 r.fa.fAt.fb8), .p (i4 r.fa.fAt.fd5), .p (.l 1 (List.map (eI .u8) r.fa.fc2)), .p (b4 r.fa.ff2), .p (i4 r.f0.fh6), .p (i4 r.f0.f9), .p (i4 r.f0.fg5), .p (i4 r.f0.fc1), .p (.l 1 (List.map eS r.f0.fb2)), .p (i4 r.f0.fb1.fg6), .p (i4 r.f0.fb1.ff4), .p (s4 r.f0.fb1.fd4), .p (.l 1 (mi r.f0.fb1.fg1)), .p (.l 3 (List.map Q1 r.f0.fb1.fq)), .p (b4 r.f0.fb1.fc), .p (.l 1 (List.map (eI .u8) r.f0.fc2)), .p (b4 r.fg4)]]) (fun _ => [])
instance Qjy : ∀ {a0 a1}, Gm (XG a0 a1) := Z7 (XG.eq_1 _ _)
def We (a0 : Q2) (a1 : Q6) (Q : (Qk × Q6) → Prop) : Prop :=
 ct (a1.fOp.f8 == 6) (∃ v2, Rr (Yn a0 a0.fk.fb5 a1.fOp a1.fa) v2 ∧ Q (v2, a1)) (jo (fun (p3 : Bool) => sh [1, 2, 4, 5, 6, 7, 31] [ZZ, (2, 0), (4, 0), (5, 0), (6, 0), (7, 0)] [(40, tB p3)] []) (fun p3 => ct p3 (∃ v4, Rr (Xx a0 a0.fk.fb5 a1.fOp a1.fa) v4 ∧ Q (v4, a1)) (ct (a1.fOp.f8 == 15) (∃ v5, Rr (Xy a0 a0.fk a1.fd0 a1.fOp a1.fa) v5 ∧ Q (v5, a1)) (ct (a1.fOp.f8 == 16) (∃ v6, Rr (XA a0 a0.fk a1.fOp a1.fa) v6 ∧ Q (v6, a1)) (ct (a1.fOp.f8 == 9) (∃ v7, Rr (Wa a0 a0.fk.fb5 a1.fd0 a1.fOp a1.fa) v7 ∧ jo (fun (p8 : List QH) => sh [4, 8] [(4, 0), (8, 0)] [] [(ZZ, some (.box ([.p (b4 a1.ff5), .p (i4 a1.fOp.f8), .p (s4 a1.fOp.fd2), .p (s4 a1.fOp.fg), .p (.l 1 (List.map eS a1.fOp.fb2)), .p (i4 a1.fOp.fj.f8), .p (i4 a1.fOp.fj.fu), .p (i4 a1.fOp.fj.fa4), .p (.v (.int .u64 a1.fOp.fj.fa2)), .p (.l 2 (List.map Zg a1.fOp.fa7)), .p (.l 1 (List.map (eI .u8) a1.fOp.ff8)), .p (i4 a1.fOp.fd8), .p (i4 a1.fOp.ff7), .p (i4 a1.fOp.fc1), .p (i4 a1.fOp.fg2), .p (i4 a1.fOp.fd1), .p (i4 a1.fOp.fb6), .p (i4 a1.fOp.fb3.f8), .p (s4 a1.fOp.fb3.fd4), .p (i4 a1.fOp.fb3.fb6), .p (i4 a1.fOp.fb3.fg9), .p (i4 a1.fOp.fb3.fh1), .p (.l 1 (List.map (eI .u8) a1.fOp.fc2)), .p (i4 a1.fa.fc6), .p (i4 a1.fa.fg3), .p (b4 a1.fa.ff9), .p (.l 1 (mi a1.fa.fc0)), .p (i4 a1.fa.fb8), .p (i4 a1.fa.ff.fj.f8), .p (i4 a1.fa.ff.fj.fu), .p (i4 a1.fa.ff.fj.fa4), .p (.v (.int .u64 a1.fa.ff.fj.fa2)), .p (i4 a1.fa.ff.fa1.fy), .p (i4 a1.fa.ff.fa1.fa7), .p (b4 a1.fa.ff.fa1.fc), .p (i4 a1.fa.ff.fh.fa4), .p (i4 a1.fa.ff.fh.fu), .p (.v (.int .u64 a1.fa.ff.fh.fa2)), .p (.l 1 (mi a1.fa.ff.fh.fb9)), .p (b4 a1.fa.ff.fh.fc), .p (i4 a1.fa.ff.f7.fa5), .p (.v (.int .u64 a1.fa.ff.f7.fa2)), .p (.l 1 (mi a1.fa.ff.f7.fa3)), .p (i4 a1.fa.ff.fb0.fu), .p (i4 a1.fa.ff.fb0.fy), .p (.l 3 (List.map Q1 a1.fa.ff.fb0.fq)), .p (b4 a1.fa.ff.fb0.fc), .p (i4 a1.fa.ff.fi.fu), .p (i4 a1.fa.ff.fi.fy), .p (i4 a1.fa.ff.fi.fd3), .p (.l 3 (List.map Q1 a1.fa.ff.fi.fq)), .p (b4 a1.fa.ff.fi.fc), .p (i4 a1.fa.ff.fw.fu), .p (i4 a1.fa.ff.fw.fy), .p (i4 a1.fa.ff.fw.fc8), .p (.l 1 (List.map (eL 1 eS) a1.fa.ff.fw.fa9)), .p (b4 a1.fa.ff.fw.fc), .p (i4 a1.fa.fg.fj.f8), .p (i4 a1.fa.fg.fj.fu), .p (i4 a1.fa.fg.fj.fa4), .p (.v (.int .u64 a1.fa.fg.fj.fa2)), .p (i4 a1.fa.fg.fa1.fy), .p (i4 a1.fa.fg.fa1.fa7), .p (b4 a1.fa.fg.fa1.fc), .p (i4 a1.fa.fg.fh.fa4), .p (i4 a1.fa.fg.fh.fu), .p (.v (.int .u64 a1.fa.fg.fh.fa2)), .p (.l 1 (mi a1.fa.fg.fh.fb9)), .p (b4 a1.fa.fg.fh.fc), .p (i4 a1.fa.fg.f7.fa5), .p (.v (.int .u64 a1.fa.fg.f7.fa2)), .p (.l 1 (mi a1.fa.fg.f7.fa3)), .p (i4 a1.fa.fg.fb0.fu), .p (i4 a1.fa.fg.fb0.fy), .p (.l 3 (List.map Q1 a1.fa.fg.fb0.fq)), .p (b4 a1.fa.fg.fb0.fc), .p (i4 a1.fa.fg.fi.fu), .p (i4 a1.fa.fg.fi.fy), .p (i4 a1.fa.fg.fi.fd3), .p (.l 3 (List.map Q1 a1.fa.fg.fi.fq)), .p (b4 a1.fa.fg.fi.fc), .p (i4 a1.fa.fg.fw.fu), .p (i4 a1.fa.fg.fw.fy), .p (i4 a1.fa.fg.fw.fc8), .p (.l 1 (List.map (eL 1 eS) a1.fa.fg.fw.fa9)), .p (b4 a1.fa.fg.fw.fc), .p (i4 a1.fa.fd7), .p (i4 a1.fa.fg8), .p (i4 a1.fa.fc1), .p (i4 a1.fa.fd1), .p (i4 a1.fa.fAt.fb8), .p (i4 a1.fa.fAt.fd5), .p (.l 1 (List.map (eI .u8) a1.fa.fc2)), .p (b4 a1.fa.ff2), .p (i4 a1.fd6), .p (.l 3 (List.map Kg p8)), .p (.l 4 (List.map VV a1.ff6))])))]) (fun p8 => Q (v7, (Q6.mk a1.ff5 a1.fOp a1.fa a1.fd6 p8 a1.ff6))) (fun J8 => Qg (ZP.mk [1, 4, 5, 6, 8, 86] [ZZ, (4, 0), (5, 0), (6, 0), (8, 0)] 100086) (ct (bif v7.fg4 then (v7.f0.fh6 == 0) else false) ((a1.fd0.length * 40 ≤ 140737488355328) ∧ ∃ v10, ix a1.fd0 a1.fa.fc1 v10 ∧ Qg (QH.mk true a1.fa.fg3 a1.fOp.fb2) (J8 (List.set a1.fd0 (Int.toNat a1.fa.fc1) (QH.mk true a1.fa.fg3 a1.fOp.fb2)))) (J8 a1.fd0)))) (ct (a1.fOp.f8 == 17) (∃ v11, Rr (VR a0 a1.fa) v11 ∧ Q (v11, a1)) (ct (a1.fOp.f8 == 10) (∃ v12, Rr (Ue a0 a1.fd0 a1.fOp.fc1 a1.fOp.fg2 a1.fOp.fb3) v12 ∧ ∃ v13, Rr (Zj a0 (Qf.mk v12.fh6 v12.f9 v12.fg5 v12.fc1 v12.fb2 (Qj.mk v12.fb1.fg6 v12.fb1.ff4 v12.fb1.fd4 v12.fb1.fg1 v12.fb1.fq v12.fb1.fc) v12.fc2)) v13 ∧ Q (v13, a1)) (ct (a1.fOp.f8 == 11) (∃ v14, Rr (Kc a0 a1.fd0 a1.fOp.fc1) v14 ∧ ∃ v15, Rr (Zj v14.1 v14.2.2) v15 ∧ Q (v15, (Q6.mk a1.ff5 a1.fOp a1.fa a1.fd6 v14.2.1 a1.ff6))) (ct (a1.fOp.f8 == 12) (∃ v16, Rr (Jt a0 a1.fd0 a1.ff6 a1.fOp.fc1 a1.fOp.fg2) v16 ∧ Qg (ZP.mk [4, 12, 14] [(4, 0), (12, 0), (14, 0), ZZ] 30) (∃ v17, Rr (Zj v16.1 v16.2.2) v17 ∧ Q (v17, (Q6.mk a1.ff5 a1.fOp a1.fa a1.fd6 a1.fd0 v16.2.1)))) (ct (a1.fOp.f8 == 13) (∃ v18, Rr (Vg a0 a1.ff6 a1.fOp.fd1 a1.fOp.fb6) v18 ∧ Qg (ZP.mk [2, 4, 16] [(2, 0), (4, 0), (16, 0), ZZ] 34) (∃ v19, Rr (Zj a0 v18.2) v19 ∧ Q (v19, (Q6.mk a1.ff5 a1.fOp a1.fa a1.fd6 a1.fd0 v18.1)))) (ct (a1.fOp.f8 == 14) (∃ v20, Rr (KU a0 a1.ff6 a1.fOp.fd1) v20 ∧ Qg (ZP.mk [4, 17, 19] [(4, 0), (17, 0), (19, 0), ZZ] 38) (∃ v21, Rr (Zj v20.1 v20.2.2) v21 ∧ Q (v21, (Q6.mk a1.ff5 a1.fOp a1.fa a1.fd6 a1.fd0 v20.2.1)))) (∃ v22, Rr (XG a0 a1.fOp) v22 ∧ Q (v22, a1)))))))))))) (fun J3 => ct (a1.fOp.f8 == 7) (J3 (a1.fOp.f8 == 7)) (J3 (a1.fOp.f8 == 8))))
abbrev Gp : Prop := ∀ {a0 a1}, Fq (We a0 a1) Q6 57 QF a1 [.agg (List.map CV.p (Qu a0)), .c (.ptr ZZ 0 0)] (fun r => [.agg [.p (i4 r.1.fx.fk.fa0), .p (i4 r.1.fx.fk.fb2), .p (i4 r.1.fx.fk.fa8), .p (i4 r.1.fx.fk.fb7), .p (i4 r.1.fx.fk.fc5), .p (i4 r.1.fx.fk.fc7), .p (i4 r.1.fx.fk.fb5), .p (i4 r.1.fx.f9), .p (i4 r.1.fx.ff3), .p (.l 2 (List.map Qi r.1.fx.fa6)), .p (.l 4 (List.map Qc r.1.fx.fb4)), .p (.l 2 (List.map Qm r.1.fx.fc5)), .p (i4 r.1.fx.fc4.fc3), .p (.l 3 (List.map Qp r.1.fx.fc4.fa8)), .p (i4 r.1.fa.fc6), .p (i4 r.1.fa.fg3), .p (b4 r.1.fa.ff9), .p (.l 1 (mi r.1.fa.fc0)), .p (i4 r.1.fa.fb8), .p (i4 r.1.fa.ff.fj.f8), .p (i4 r.1.fa.ff.fj.fu), .p (i4 r.1.fa.ff.fj.fa4), .p (.v (.int .u64 r.1.fa.ff.fj.fa2)), .p (i4 r.1.fa.ff.fa1.fy), .p (i4 r.1.fa.ff.fa1.fa7), .p (b4 r.1.fa.ff.fa1.fc), .p (i4 r.1.fa.ff.fh.fa4), .p (i4 r.1.fa.ff.fh.fu), .p (.v (.int .u64 r.1.fa.ff.fh.fa2)), .p (.l 1 (mi r.1.fa.ff.fh.fb9)), .p (b4 r.1.fa.ff.fh.fc), .p (i4 r.1.fa.ff.f7.fa5), .p (.v (.int .u64 r.1.fa.ff.f7.fa2)), .p (.l 1 (mi r.1.fa.ff.f7.fa3)), .p (i4 r.1.fa.ff.fb0.fu), .p (i4 r.1.fa.ff.fb0.fy), .p (.l 3 (List.map Q1 r.1.fa.ff.fb0.fq)), .p (b4 r.1.fa.ff.fb0.fc), .p (i4 r.1.fa.ff.fi.fu), .p (i4 r.1.fa.ff.fi.fy), .p (i4 r.1.fa.ff.fi.fd3), .p (.l 3 (List.map Q1 r.1.fa.ff.fi.fq)), .p (b4 r.1.fa.ff.fi.fc), .p (i4 r.1.fa.ff.fw.fu), .p (i4 r.1.fa.ff.fw.fy), .p (i4 r.1.fa.ff.fw.fc8), .p (.l 1 (List.map (eL 1 eS) r.1.fa.ff.fw.fa9)), .p (b4 r.1.fa.ff.fw.fc), .p (i4 r.1.fa.fg.fj.f8), .p (i4 r.1.fa.fg.fj.fu), .p (i4 r.1.fa.fg.fj.fa4), .p (.v (.int .u64 r.1.fa.fg.fj.fa2)), .p (i4 r.1.fa.fg.fa1.fy), .p (i4 r.1.fa.fg.fa1.fa7), .p (b4 r.1.fa.fg.fa1.fc), .p (i4 r.1.fa.fg.fh.fa4), .p (i4 r.1.fa.fg.fh.fu), .p (.v (.int .u64 r.1.fa.fg.fh.fa2)), .p (.l 1 (mi r.1.fa.fg.fh.fb9)), .p (b4 r.1.fa.fg.fh.fc), .p (i4 r.1.fa.fg.f7.fa5), .p (.v (.int .u64 r.1.fa.fg.f7.fa2)), .p (.l 1 (mi r.1.fa.fg.f7.fa3)), .p (i4 r.1.fa.fg.fb0.fu), .p (i4 r.1.fa.fg.fb0.fy), .p (.l 3 (List.map Q1 r.1.fa.fg.fb0.fq)), .p (b4 r.1.fa.fg.fb0.fc), .p (i4 r.1.fa.fg.fi.fu), .p (i4 r.1.fa.fg.fi.fy), .p (i4 r.1.fa.fg.fi.fd3), .p (.l 3 (List.map Q1 r.1.fa.fg.fi.fq)), .p (b4 r.1.fa.fg.fi.fc), .p (i4 r.1.fa.fg.fw.fu), .p (i4 r.1.fa.fg.fw.fy), .p (i4 r.1.fa.fg.fw.fc8), .p (.l 1 (List.map (eL 1 eS) r.1.fa.fg.fw.fa9)), .p (b4 r.1.fa.fg.fw.fc), .p (i4 r.1.fa.fd7), .p (i4 r.1.fa.fg8), .p (i4 r.1.fa.fc1), .p (i4 r.1.fa.fd1), .p (i4 r.1.fa.fAt.fb8), .p (i4 r.1.fa.fAt.fd5), .p (.l 1 (List.map (eI .u8) r.1.fa.fc2)), .p (b4 r.1.fa.ff2), .p (i4 r.1.f0.fh6), .p (i4 r.1.f0.f9), .p (i4 r.1.f0.fg5), .p (i4 r.1.f0.fc1), .p (.l 1 (List.map eS r.1.f0.fb2)), .p (i4 r.1.f0.fb1.fg6), .p (i4 r.1.f0.fb1.ff4), .p (s4 r.1.f0.fb1.fd4), .p (.l 1 (mi r.1.f0.fb1.fg1)), .p (.l 3 (List.map Q1 r.1.f0.fb1.fq)), .p (b4 r.1.f0.fb1.fc), .p (.l 1 (List.map (eI .u8) r.1.f0.fc2)), .p (b4 r.1.fg4)]]) (fun r => r.2)
instance Qrr : ∀ {a0 a1}, Gm (We a0 a1) := Z7 (We.eq_1 _ _)
def Wg (a0 : Ql) (a1 : Int) (a2 : Int) (Q : (Ql × Ku) → Prop) : Prop :=
 ∃ v1, ix a0.fa0 a1 v1 ∧ ∃ v2, ix a0.ff1 v1.fd6 v2 ∧ ∃ v3, Rr (We a0.fx v1) v3 ∧ ct (!(v3.1.fg4)) (Qg (Q6.mk v3.2.ff5 v3.2.fOp v3.1.fa v3.2.fd6 v3.2.fd0 v3.2.ff6) (jo (fun (p5 : (List Q6) × (List QG)) => sh [3, 6, 7] [(6, 0), (7, 0)] [] [((3, 2014), some (.row 97 (List.map QF p5.1) true)), ((3, 2015), some (.row 38 (List.map ZB p5.2) true)), ((3, 0), some (.box ([.p (i4 v3.1.fx.fk.fa0), .p (i4 v3.1.fx.fk.fb2), .p (i4 v3.1.fx.fk.fa8), .p (i4 v3.1.fx.fk.fb7), .p (i4 v3.1.fx.fk.fc5), .p (i4 v3.1.fx.fk.fc7), .p (i4 v3.1.fx.fk.fb5), .p (i4 v3.1.fx.f9), .p (i4 v3.1.fx.ff3), .p (.l 2 (List.map Qi v3.1.fx.fa6)), .p (.l 4 (List.map Qc v3.1.fx.fb4)), .p (.l 2 (List.map Qm v3.1.fx.fc5)), .p (i4 v3.1.fx.fc4.fc3), .p (.l 3 (List.map Qp v3.1.fx.fc4.fa8)), .sl (3, 2014) 0 (List.map QF p5.1).length, .sl (3, 2015) 0 (List.map ZB p5.2).length, .p (i4 a0.ff0)])))]) (fun p5 => Q ((Ql.mk v3.1.fx p5.1 p5.2 a0.ff0), (Ku.mk 0 false (Qf.mk 0 0 0 0 [] (Qj.mk 0 0 ByteArray.empty [] [] false) [])))) (fun J5 => ct (bif v3.1.fa.ff2 then decide (v2.ff2 < 0) else false) (Qg (QG.mk v2.fd9 v2.fOp v2.fh5 a2 v2.fh8 v2.f0) (J5 ((List.set (List.set a0.fa0 (Int.toNat a1) v3.2) (Int.toNat a1) (Q6.mk v3.2.ff5 v3.2.fOp v3.1.fa v3.2.fd6 v3.2.fd0 v3.2.ff6)), (List.set a0.ff1 (Int.toNat v1.fd6) (QG.mk v2.fd9 v2.fOp v2.fh5 a2 v2.fh8 v2.f0))))) (J5 ((List.set (List.set a0.fa0 (Int.toNat a1) v3.2) (Int.toNat a1) (Q6.mk v3.2.ff5 v3.2.fOp v3.1.fa v3.2.fd6 v3.2.fd0 v3.2.ff6)), a0.ff1))))) (Qg (QG.mk v2.fd9 v2.fOp v2.fh5 v2.ff2 a2 v2.f0) (Qg (QG.mk v2.fd9 v2.fOp v2.fh5 v2.ff2 a2 v3.1.f0) (jo (fun (p6 : (List Q6) × (List QG)) => sh [1, 3, 6, 7, 10] [(6, 0), (7, 0), (10, 0)] [] [((3, 2014), some (.row 97 (List.map QF p6.1) true)), ((3, 2015), some (.row 38 (List.map ZB p6.2) true)), ((3, 0), some (.box ([.p (i4 v3.1.fx.fk.fa0), .p (i4 v3.1.fx.fk.fb2), .p (i4 v3.1.fx.fk.fa8), .p (i4 v3.1.fx.fk.fb7), .p (i4 v3.1.fx.fk.fc5), .p (i4 v3.1.fx.fk.fc7), .p (i4 v3.1.fx.fk.fb5), .p (i4 v3.1.fx.f9), .p (i4 v3.1.fx.ff3), .p (.l 2 (List.map Qi v3.1.fx.fa6)), .p (.l 4 (List.map Qc v3.1.fx.fb4)), .p (.l 2 (List.map Qm v3.1.fx.fc5)), .p (i4 v3.1.fx.fc4.fc3), .p (.l 3 (List.map Qp v3.1.fx.fc4.fa8)), .sl (3, 2014) 0 (List.map QF p6.1).length, .sl (3, 2015) 0 (List.map ZB p6.2).length, .p (i4 a0.ff0)])))]) (fun p6 => ∃ v7, Rr (Kl p6.1 a1) v7 ∧ Q ((Ql.mk v3.1.fx v7.1 p6.2 a0.ff0), (Ku.mk 0 true v3.1.f0))) (fun J6 => ct (decide (v2.ff2 < 0)) (Qg (QG.mk v2.fd9 v2.fOp v2.fh5 a2 a2 v3.1.f0) (J6 ((List.set a0.fa0 (Int.toNat a1) v3.2), (List.set (List.set (List.set a0.ff1 (Int.toNat v1.fd6) (QG.mk v2.fd9 v2.fOp v2.fh5 v2.ff2 a2 v2.f0)) (Int.toNat v1.fd6) (QG.mk v2.fd9 v2.fOp v2.fh5 v2.ff2 a2 v3.1.f0)) (Int.toNat v1.fd6) (QG.mk v2.fd9 v2.fOp v2.fh5 a2 a2 v3.1.f0))))) (J6 ((List.set a0.fa0 (Int.toNat a1) v3.2), (List.set (List.set a0.ff1 (Int.toNat v1.fd6) (QG.mk v2.fd9 v2.fOp v2.fh5 v2.ff2 a2 v2.f0)) (Int.toNat v1.fd6) (QG.mk v2.fd9 v2.fOp v2.fh5 v2.ff2 a2 v3.1.f0))))))))
abbrev Gq : Prop := ∀ {a0 a1 a2}, Fh (Wg a0 a1 a2) 29 [(97, List.map QF a0.fa0), (38, List.map ZB a0.ff1)] [.agg ([.p (i4 a0.fx.fk.fa0), .p (i4 a0.fx.fk.fb2), .p (i4 a0.fx.fk.fa8), .p (i4 a0.fx.fk.fb7), .p (i4 a0.fx.fk.fc5), .p (i4 a0.fx.fk.fc7), .p (i4 a0.fx.fk.fb5), .p (i4 a0.fx.f9), .p (i4 a0.fx.ff3), .p (.l 2 (List.map Qi a0.fx.fa6)), .p (.l 4 (List.map Qc a0.fx.fb4)), .p (.l 2 (List.map Qm a0.fx.fc5)), .p (i4 a0.fx.fc4.fc3), .p (.l 3 (List.map Qp a0.fx.fc4.fa8)), .sl (65537, 0) 0 (List.map QF a0.fa0).length, .sl (65538, 0) 0 (List.map ZB a0.ff1).length, .p (i4 a0.ff0)]), .c (.p (i4 a1)), .c (.p (i4 a2))] (fun r => [.agg [.p (i4 r.1.fx.fk.fa0), .p (i4 r.1.fx.fk.fb2), .p (i4 r.1.fx.fk.fa8), .p (i4 r.1.fx.fk.fb7), .p (i4 r.1.fx.fk.fc5), .p (i4 r.1.fx.fk.fc7), .p (i4 r.1.fx.fk.fb5), .p (i4 r.1.fx.f9), .p (i4 r.1.fx.ff3), .p (.l 2 (List.map Qi r.1.fx.fa6)), .p (.l 4 (List.map Qc r.1.fx.fb4)), .p (.l 2 (List.map Qm r.1.fx.fc5)), .p (i4 r.1.fx.fc4.fc3), .p (.l 3 (List.map Qp r.1.fx.fc4.fa8)), .own 97 (List.map QF r.1.fa0), .own 38 (List.map ZB r.1.ff1), .p (i4 r.1.ff0)], .agg [.p (i4 r.2.fh6), .p (b4 r.2.fg4), .p (i4 r.2.f0.fh6), .p (i4 r.2.f0.f9), .p (i4 r.2.f0.fg5), .p (i4 r.2.f0.fc1), .p (.l 1 (List.map eS r.2.f0.fb2)), .p (i4 r.2.f0.fb1.fg6), .p (i4 r.2.f0.fb1.ff4), .p (s4 r.2.f0.fb1.fd4), .p (.l 1 (mi r.2.f0.fb1.fg1)), .p (.l 3 (List.map Q1 r.2.f0.fb1.fq)), .p (b4 r.2.f0.fb1.fc), .p (.l 1 (List.map (eI .u8) r.2.f0.fc2))]]) (fun _ => [none, none])
instance Qrs : ∀ {a0 a1 a2}, Gm (Wg a0 a1 a2) := Z7 (Wg.eq_1 _ _ _)
def Xk (a0 : Ql) (a1 : QB) (Q : (Ql × Ku) → Prop) : Prop :=
 ct (bif decide (a1.f8 < 1) then true else decide (a1.f8 > 3)) (Q ((Ql.mk a0.fx a0.fa0 a0.ff1 (i64.wrap (a0.ff0 + 1))), (Ku.mk 8 false (Qf.mk 0 0 0 0 [] (Qj.mk 0 0 ByteArray.empty [] [] false) [])))) (ct (bif decide (a1.fd9 < 0) then true else decide (a1.fd9 ≥ (a0.fa0.length : Int))) (Q ((Ql.mk a0.fx a0.fa0 a0.ff1 (i64.wrap (a0.ff0 + 1))), (Ku.mk 5 false (Qf.mk 0 0 0 0 [] (Qj.mk 0 0 ByteArray.empty [] [] false) [])))) (Qg (ZP.mk [2, 3, 4, 5, 6] [(2, 0), (3, 0), (4, 0), (5, 0)] 8) (ct (a1.f8 == 1) (∃ v3, Rr (Kk a0.fa0 a1.fd9 a1.fOp (a0.ff1.length : Int)) v3 ∧ ct (v3.2 != 0) (Q ((Ql.mk a0.fx a0.fa0 a0.ff1 (i64.wrap (a0.ff0 + 1))), (Ku.mk v3.2 false (Qf.mk 0 0 0 0 [] (Qj.mk 0 0 ByteArray.empty [] [] false) [])))) ((a0.ff1.length * 464 ≤ 140737488355328) ∧ Qg (List.map ZB [(QG.mk a1.fd9 a1.fOp a0.ff0 (-1) (-1) (Qf.mk 0 0 0 0 [] (Qj.mk 0 0 ByteArray.empty [] [] false) []))]) (((a0.ff1.length + ([(QG.mk a1.fd9 a1.fOp a0.ff0 (-1) (-1) (Qf.mk 0 0 0 0 [] (Qj.mk 0 0 ByteArray.empty [] [] false) []))]).length) * 464 ≤ 140737488355328) ∧ Q ((Ql.mk a0.fx v3.1 (a0.ff1 ++ ([(QG.mk a1.fd9 a1.fOp a0.ff0 (-1) (-1) (Qf.mk 0 0 0 0 [] (Qj.mk 0 0 ByteArray.empty [] [] false) []))])) (i64.wrap (a0.ff0 + 1))), (Ku.mk 0 false (Qf.mk 0 0 0 0 [] (Qj.mk 0 0 ByteArray.empty [] [] false) [])))))) (∃ v8, ix a0.fa0 a1.fd9 v8 ∧ ct (!(v8.ff5)) (Q ((Ql.mk a0.fx a0.fa0 a0.ff1 (i64.wrap (a0.ff0 + 1))), (Ku.mk 13 false (Qf.mk 0 0 0 0 [] (Qj.mk 0 0 ByteArray.empty [] [] false) [])))) ((a0.fa0.length * 1088 ≤ 140737488355328) ∧ (a0.ff1.length * 464 ≤ 140737488355328) ∧ ct (a1.f8 == 3) (∃ v12, Rr (Xt (Ql.mk a0.fx a0.fa0 a0.ff1 (i64.wrap (a0.ff0 + 1))) a1.fd9 a0.ff0) v12 ∧ Q ((Ql.mk v12.1.fx v12.1.fa0 v12.1.ff1 v12.1.ff0), v12.2)) (∃ v13, Rr (Wg (Ql.mk a0.fx a0.fa0 a0.ff1 (i64.wrap (a0.ff0 + 1))) a1.fd9 a0.ff0) v13 ∧ Q ((Ql.mk v13.1.fx v13.1.fa0 v13.1.ff1 v13.1.ff0), v13.2)))))))
abbrev Fa : Prop := ∀ {a0 a1}, Fg (Xk a0 a1) 10 [.agg (Nb a0), .agg (Z1 a1)] (fun r => [.agg [.p (i4 r.1.fx.fk.fa0), .p (i4 r.1.fx.fk.fb2), .p (i4 r.1.fx.fk.fa8), .p (i4 r.1.fx.fk.fb7), .p (i4 r.1.fx.fk.fc5), .p (i4 r.1.fx.fk.fc7), .p (i4 r.1.fx.fk.fb5), .p (i4 r.1.fx.f9), .p (i4 r.1.fx.ff3), .p (.l 2 (List.map Qi r.1.fx.fa6)), .p (.l 4 (List.map Qc r.1.fx.fb4)), .p (.l 2 (List.map Qm r.1.fx.fc5)), .p (i4 r.1.fx.fc4.fc3), .p (.l 3 (List.map Qp r.1.fx.fc4.fa8)), .p (.l 97 (List.map QF r.1.fa0)), .p (.l 38 (List.map ZB r.1.ff1)), .p (i4 r.1.ff0)], .agg [.p (i4 r.2.fh6), .p (b4 r.2.fg4), .p (i4 r.2.f0.fh6), .p (i4 r.2.f0.f9), .p (i4 r.2.f0.fg5), .p (i4 r.2.f0.fc1), .p (.l 1 (List.map eS r.2.f0.fb2)), .p (i4 r.2.f0.fb1.fg6), .p (i4 r.2.f0.fb1.ff4), .p (s4 r.2.f0.fb1.fd4), .p (.l 1 (mi r.2.f0.fb1.fg1)), .p (.l 3 (List.map Q1 r.2.f0.fb1.fq)), .p (b4 r.2.f0.fb1.fc), .p (.l 1 (List.map (eI .u8) r.2.f0.fc2))]]) (fun _ => [])
instance Qnd : ∀ {a0 a1}, Gm (Xk a0 a1) := Z7 (Xk.eq_1 _ _)
def V3 (a0 : List Q6) (Q : (List Int) → Prop) : Prop :=
 jo (fun (p1 : List Int) => sh [] [] [(3, .c (.sl (3, 1000) 0 (mi p1).length))] [((3, 1000), some (.row 1 (mi p1) true))]) (fun p1 => Q p1) (fun J1 => lv (fun (s2 : (List Int) × Int) => 0 ≤ s2.2 ∧ s2.2 ≤ (a0.length : Int) ∧ (s2.1.length : Int) ≤ (([] : List Int).length : Int) + (s2.2 - 0)) (fun s2 => ((a0.length : Int) - s2.2 + 1).toNat) (fun s2 => sh [0] [] [(3, .c (.sl (3, 1000) 0 (mi s2.1).length)), (4, tI s2.2)] [((3, 1000), some (.row 1 (mi s2.1) true))]) (fun X2 s2 => ct (decide (s2.2 < (a0.length : Int))) (jo (fun (p4 : List Int) => sh [0, 4] [] [(3, .c (.sl (3, 1000) 0 (mi p4).length))] [((3, 1000), some (.row 1 (mi p4) true))]) (fun p4 => X2 (p4, (i64.wrap (s2.2 + 1)))) (fun J4 => ∃ v5, ix a0 s2.2 v5 ∧ ct v5.ff5 (Qg (mi [s2.2]) (((s2.1.length + ([s2.2]).length) * 8 ≤ 140737488355328) ∧ J4 (s2.1 ++ ([s2.2])))) (J4 s2.1))) (J1 s2.1)) ([], 0))
abbrev CI : Prop := ∀ {a0}, Fg (V3 a0) 11 [.c (.l 97 (List.map QF a0))] (fun r => [.c (.own 1 (mi r))]) (fun _ => [])
instance Qfw : ∀ {a0}, Gm (V3 a0) := Z7 (V3.eq_1 _)
def Jg (a0 : Int) (a1 : Int) (Q : (Int × Int) → Prop) : Prop :=
 ct (bif decide (a0 < 0) then true else decide (a1 < 1)) (Q (0, 5)) (Qg (ZP.mk [0, 1] [] 4) (((a1 : Int) ≠ 0) ∧ jo (fun (p3 : Int) => sh [] [] [(6, tI p3)] []) (fun p3 => Q (p3, 0)) (fun J3 => ((a1 : Int) ≠ 0) ∧ ct (decide ((a0.tmod a1) > 0)) (J3 (i64.wrap ((i64.wrap (a0.tdiv a1)) + 1))) (J3 (i64.wrap (a0.tdiv a1))))))
abbrev A1 : Prop := ∀ {a0 a1}, Fg (Jg a0 a1) 60 [.c (i4 a0), .c (i4 a1)] (fun r => [.c (.p (i4 r.1)), .c (.p (i4 r.2))]) (fun _ => [])
instance Qfx : ∀ {a0 a1}, Gm (Jg a0 a1) := Z7 (Jg.eq_1 _ _)
def Yu (a0 : Int) (Q : Bool → Prop) : Prop :=
 Q (bif decide (a0 ≥ 1) then decide (a0 ≤ 1024) else false)
abbrev Fb : Prop := ∀ {a0}, Fg (Yu a0) 61 [.c (i4 a0)] (fun r => [.c (.p (b4 r))]) (fun _ => [])
instance Qne : ∀ {a0}, Gm (Yu a0) := Z7 (Yu.eq_1 _)
def Xl (a0 : Int) (a1 : Int) (Q : (Int × Int) → Prop) : Prop :=
 ∃ v2, ((!(decide (a0 < 0))) = true → Rr (Yu a1) v2) ∧ ct (bif decide (a0 < 0) then true else !(v2)) (Q (0, 5)) (Qg (ZP.mk [0, 1] [] 4) (∃ v3, Rr (Jg a0 a1) v3 ∧ Q (v3.1, 0)))
abbrev Fc : Prop := ∀ {a0 a1}, Fg (Xl a0 a1) 33 [.c (i4 a0), .c (i4 a1)] (fun r => [.c (.p (i4 r.1)), .c (.p (i4 r.2))]) (fun _ => [])
instance Qnf : ∀ {a0 a1}, Gm (Xl a0 a1) := Z7 (Xl.eq_1 _ _)
def XH (a0 : Int) (Q : Bool → Prop) : Prop := Q (Q10 a0)
abbrev Ar : Prop := ∀ {a0}, Fg (XH a0) 34 [.c (i4 a0)] (fun r => [.c (.p (b4 r))]) (fun _ => [])
instance Ln : ∀ {a0}, Gm (XH a0) := Z7 (XH.eq_1 _)
def EC (a0 a1 a2 : Int) (Q : Int × Bool → Prop) : Prop := (Er a0 ∧ Er a1 ∧ Er a2) ∧ Q (EU a0 a1 a2, Qqs a0 a1 a2)
abbrev HM : Prop := ∀ {a0 a1 a2}, Fg (EC a0 a1 a2) 58 [.c (i4 a0), .c (i4 a1), .c (i4 a2)] (fun r => [.c (.p (i4 r.1)), .c (.p (b4 r.2))]) (fun _ => [])
instance Q5n : ∀ {a0 a1 a2}, Gm (EC a0 a1 a2) := Z7 (EC.eq_1 _ _ _)
def ED (a0 a1 a2 : Int) (Q : Int × Bool → Prop) : Prop := (Er a0 ∧ Er a1 ∧ Er a2) ∧ Q (Ms a0 a1 a2, Qir a0 a1 a2)
abbrev HN : Prop := ∀ {a0 a1 a2}, Fg (ED a0 a1 a2) 59 [.c (i4 a0), .c (i4 a1), .c (i4 a2)] (fun r => [.c (.p (i4 r.1)), .c (.p (b4 r.2))]) (fun _ => [])
instance Q5o : ∀ {a0 a1 a2}, Gm (ED a0 a1 a2) := Z7 (ED.eq_1 _ _ _)
def KX (a0 : Int) (a1 : Int) (Q : Int → Prop) : Prop :=
 ∃ v1, Rr (EC a0 a1 1099511627776) v1 ∧ Q (v1.1)
abbrev EE : Prop := ∀ {a0 a1}, Fg (KX a0 a1) 30 [.c (i4 a0), .c (i4 a1)] (fun r => [.c (.p (i4 r))]) (fun _ => [])
instance Qvu : ∀ {a0 a1}, Gm (KX a0 a1) := Z7 (KX.eq_1 _ _)
def V4 (a0 : Int) (a1 : Int) (Q : Int → Prop) : Prop :=
 ∃ v1, Rr (ED a0 a1 1099511627776) v1 ∧ Q (v1.1)
abbrev CJ : Prop := ∀ {a0 a1}, Fg (V4 a0 a1) 31 [.c (i4 a0), .c (i4 a1)] (fun r => [.c (.p (i4 r))]) (fun _ => [])
instance Qfy : ∀ {a0 a1}, Gm (V4 a0 a1) := Z7 (V4.eq_1 _ _)
def ZN (a0 : QA) (a1 : Int) (Q : Int → Prop) : Prop :=
 ∃ v1, Rr (Jg (KH a1 0) (KH a0.fb5 1)) v1 ∧ Q (KH v1.1 1)
abbrev E2 : Prop := ∀ {a0 a1}, Fg (ZN a0 a1) 32 [.agg (XY a0), .c (i4 a1)] (fun r => [.c (.p (i4 r))]) (fun _ => [])
instance Qjz : ∀ {a0 a1}, Gm (ZN a0 a1) := Z7 (ZN.eq_1 _ _)
def JB (a0 : QA) (a1 : Qq) (a2 : Int) (a3 : Int) (Q : Int → Prop) : Prop :=
 ∃ v1, Rr (KX a3 1) v1 ∧ ct (a1.f8 == 6) (∃ v3, Rr (ZN a0 (a1.fa7.length : Int)) v3 ∧ ∃ v4, Rr (KX 2 v3) v4 ∧ ∃ v5, Rr (V4 v1 v4) v5 ∧ Q v5) (ct (a1.f8 == 7) (∃ v6, Rr (ZN a0 a2) v6 ∧ ∃ v7, Rr (KX 2 v6) v7 ∧ ∃ v8, Rr (V4 v1 v7) v8 ∧ Q v8) (ct (a1.f8 == 8) (∃ v9, Rr (ZN a0 a2) v9 ∧ ∃ v10, Rr (KX 2 v9) v10 ∧ Q v10) (ct (a1.f8 == 9) (∃ v11, Rr (ZN a0 (a1.fb2.length : Int)) v11 ∧ ∃ v12, Rr (KX 1 v11) v12 ∧ Q v12) (ct (a1.f8 == 15) (∃ v13, Rr (ZN a0 a2) v13 ∧ ∃ v14, Rr (KX 1 v13) v14 ∧ Q v14) (ct (a1.f8 == 16) (∃ v15, Rr (Xl (a1.fc2.length : Int) a0.fb7) v15 ∧ ∃ v16, Rr (ZN a0 v15.1) v16 ∧ ∃ v17, Rr (KX 2 v16) v17 ∧ Q v17) (ct (a1.f8 == 17) (∃ v18, Rr (ZN a0 a2) v18 ∧ Q (JE v18 1099511627776)) (∃ v20, Rr (XH a1.f8) v20 ∧ ct v20 (Q 1) (Q 0))))))))
abbrev US : Prop := ∀ {a0 a1 a2 a3}, Fg (JB a0 a1 a2 a3) 12 [.agg (XY a0), .agg (JF a1), .c (i4 a2), .c (i4 a3)] (fun r => [.c (.p (i4 r))]) (fun _ => [])
instance Qng : ∀ {a0 a1 a2 a3}, Gm (JB a0 a1 a2 a3) := Z7 (JB.eq_1 _ _ _ _)
def Yv (a0 : Int) (Q : Int → Prop) : Prop :=
 Q (i64.wrap (300 + (i64.wrap (2 * a0))))
abbrev Fe : Prop := ∀ {a0}, Fg (Yv a0) 13 [.c (i4 a0)] (fun r => [.c (.p (i4 r))]) (fun _ => [])
instance Qnh : ∀ {a0}, Gm (Yv a0) := Z7 (Yv.eq_1 _)
def Yw (a0 : QA) (a1 : List Q6) (a2 : Int) (Q : Int → Prop) : Prop :=
 jo (fun (p1 : Int) => sh [1, 2, 3] [(3, 0)] [(7, tI p1)] []) (fun p1 => jo (fun (p6 : Int) => sh [] [] [(10, tI p6)] []) (fun p6 => Q p6) (fun J6 => lv (fun (s7 : Int × Int) => True) (fun s7 => 0) (fun s7 => sh [2, 3, 7, 24, 25] [(3, 0)] [(10, tI s7.1), (26, tI s7.2)] []) (fun X7 s7 => ct (decide (s7.2 < (a1.length : Int))) (jo (fun (p9 : Int) => sh [2, 3, 7, 24, 25, 26] [(3, 0)] [(10, tI p9)] []) (fun p9 => X7 (p9, (i64.wrap (s7.2 + 1)))) (fun J9 => ∃ v10, ix a1 s7.2 v10 ∧ ct v10.ff5 (∃ v11, Rr (JB a0 v10.fOp a2 p1) v11 ∧ ∃ v12, Rr (KX s7.1 v11) v12 ∧ J9 v12) (J9 s7.1))) (J6 s7.1)) (0, 0))) (fun J1 => lv (fun (s2 : Int × Int) => True) (fun s2 => 0) (fun s2 => sh [1, 2, 3, 13, 14] [(3, 0)] [(7, tI s2.1), (15, tI s2.2)] []) (fun X2 s2 => ct (decide (s2.2 < (a1.length : Int))) (jo (fun (p4 : Int) => sh [1, 2, 3, 13, 14, 15] [(3, 0)] [(7, tI p4)] []) (fun p4 => X2 (p4, (i64.wrap (s2.2 + 1)))) (fun J4 => ∃ v5, ix a1 s2.2 v5 ∧ ct v5.ff5 (J4 (i64.wrap (s2.1 + 1))) (J4 s2.1))) (J1 s2.1)) (0, 0))
abbrev Ff : Prop := ∀ {a0 a1 a2}, Fg (Yw a0 a1 a2) 15 [.agg (XY a0), .c (.l 97 (List.map QF a1)), .c (i4 a2)] (fun r => [.c (.p (i4 r))]) (fun _ => [])
instance Qni : ∀ {a0 a1 a2}, Gm (Yw a0 a1 a2) := Z7 (Yw.eq_1 _ _ _)
def Yx  (Q : Bool → Prop) : Prop :=
 ∃ v1, Rr (Jx 0) v1 ∧ ∃ v2, Rr (JB v1 (Qq.mk 4 ByteArray.empty ByteArray.empty [] (Q7.mk 0 0 0 0) [] [] 0 0 0 0 0 0 (Qo.mk 0 ByteArray.empty 0 0 0) []) 9 9) v2 ∧ cs (v2 == 1) (Qg (List.map Zg [(Z5.mk (⟨#[97]⟩ : ByteArray) 1)]) (∃ v3, Rr (JB v1 (Qq.mk 6 (⟨#[97]⟩ : ByteArray) ByteArray.empty [] (Q7.mk 0 0 0 0) ([(Z5.mk (⟨#[97]⟩ : ByteArray) 1)]) [] 0 0 0 0 0 0 (Qo.mk 0 ByteArray.empty 0 0 0) []) 0 0) v3 ∧ cs (v3 == 3) (∃ v4, Rr (Yw v1 [] 5) v4 ∧ Q (v4 == 0)) (Q false))) (Q false)
abbrev Fi : Prop := Fg Yx 14 [] (fun r => [.c (.p (b4 r))]) (fun _ => [])
instance Qnj : Gm Yx := Z7 (Yx.eq_1)
def VF (a0 : Int) (a1 : List Int) (a2 : List Int) (Q : Bool → Prop) : Prop :=
 ∃ v1, Rr (Jx (QD .i64 a0 65535)) v1 ∧ ∃ v2, Rr (U1 v1) v2 ∧ ∃ v3, Rr (YV a1) v3 ∧ ∃ v4, Rr (Yl a1 v1.fa0 30) v4 ∧ ((v3.length + v4.length) * 280 ≤ 140737488355328) ∧ jo (fun (p6 : (List QB) × Int × Int × Int × Int × Int × Int × Int × Int × Int × (List Qw) × (List Qn) × (List QP) × Int × (List QE) × (List Q6) × (List QG) × Int) => sh [2, 7, 8] [(7, 0)] [(10, .c (.sl (10, 1000) 0 (List.map Z1 p6.1).length))] [((10, 1000), some (.row 24 (List.map Z1 p6.1) true)), ((8, 0), some (.box ([.p (i4 p6.2.1), .p (i4 p6.2.2.1), .p (i4 p6.2.2.2.1), .p (i4 p6.2.2.2.2.1), .p (i4 p6.2.2.2.2.2.1), .p (i4 p6.2.2.2.2.2.2.1), .p (i4 p6.2.2.2.2.2.2.2.1), .p (i4 p6.2.2.2.2.2.2.2.2.1), .p (i4 (q8 p6).2.1), .p (.l 2 (List.map Qi (q8 p6).2.2.1)), .p (.l 4 (List.map Qc (q8 p6).2.2.2.1)), .p (.l 2 (List.map Qm (q8 p6).2.2.2.2.1)), .p (i4 (q8 p6).2.2.2.2.2.1), .p (.l 3 (List.map Qp (q8 p6).2.2.2.2.2.2.1)), .p (.l 97 (List.map QF (q8 p6).2.2.2.2.2.2.2.1)), .p (.l 38 (List.map ZB (q8 (q8 p6)).1)), .p (i4 (q8 (q8 p6)).2)])))]) (fun p6 => ∃ v12, Rr (V3 p6.2.2.2.2.2.2.2.2.2.2.2.2.2.2.2.1) v12 ∧ ((0 : Int) ≤ v1.fa0 ∧ (v1.fa0 : Int) * ((8 : Nat) : Int) ≤ 140737488355328) ∧ Qg (fun _ : Unit => ((eI .i64), (0 : Int))) (jo (fun (p14 : List Int) => sh [2, 8, 12] [(8, 0)] [(13, .c (.sl (13, 1000) 0 (mi p14).length))] [((13, 1000), some (.row 1 (mi p14) true))]) (fun p14 => jo (fun (p23 : Unit) => sh [] [] [] []) (fun p23 => ∃ v40, Rr (Yx ) v40 ∧ Q v40) (fun J23 => lv (fun (s24 : (List Int) × Int × Int × Int × Int × Int × Int × Int × Int × Int × Int × (List Qw) × (List Qn) × (List QP) × Int × (List QE) × (List Q6) × (List QG) × Int) => True) (fun s24 => 0) (fun s24 => sh [2, 8, 12] [] [(13, .c (.sl (13, 1000) 0 (mi s24.1).length)), (15, tI s24.2.1)] [((13, 1000), some (.row 1 (mi s24.1) true)), ((8, 0), some (.box ([.p (i4 s24.2.2.1), .p (i4 s24.2.2.2.1), .p (i4 s24.2.2.2.2.1), .p (i4 s24.2.2.2.2.2.1), .p (i4 s24.2.2.2.2.2.2.1), .p (i4 s24.2.2.2.2.2.2.2.1), .p (i4 s24.2.2.2.2.2.2.2.2.1), .p (i4 (q8 s24).2.1), .p (i4 (q8 s24).2.2.1), .p (.l 2 (List.map Qi (q8 s24).2.2.2.1)), .p (.l 4 (List.map Qc (q8 s24).2.2.2.2.1)), .p (.l 2 (List.map Qm (q8 s24).2.2.2.2.2.1)), .p (i4 (q8 s24).2.2.2.2.2.2.1), .p (.l 3 (List.map Qp (q8 s24).2.2.2.2.2.2.2.1)), .p (.l 97 (List.map QF (q8 (q8 s24)).1)), .p (.l 38 (List.map ZB (q8 (q8 s24)).2.1)), .p (i4 (q8 (q8 s24)).2.2)])))]) (fun X24 s24 => ct (bif decide (s24.2.1 < 60) then decide ((v12.length : Int) > 0) else false) (Qg (ZP.mk [2, 8, 12, 13, 15] [(8, 0), (13, 1000)] 19) (jo (fun (p27 : (List Int) × Int) => sh [2, 8, 12, 15] [(8, 0)] [(13, .c (.sl (13, 1000) 0 (mi p27.1).length)), (16, tI p27.2)] [((13, 1000), some (.row 1 (mi p27.1) true))]) (fun p27 => ∃ v31, Rr (V3 s24.2.2.2.2.2.2.2.2.2.2.2.2.2.2.2.2.1) v31 ∧ ct ((v31.length : Int) == 0) (J23 ()) ((((v31.length : Int) : Int) ≠ 0) ∧ ∃ v34, ix v31 (p27.2.tmod (v31.length : Int)) v34 ∧ ∃ v36, ix p27.1 v34 v36 ∧ ct (v36 == 0) (Q false) (∃ v37, ix p27.1 v34 v37 ∧ ∃ v38, ix p27.1 v34 v38 ∧ Qg (i64.wrap (v37 - 1)) (∃ v39, Rr (Xk (Ql.mk (Q2.mk (QA.mk s24.2.2.1 s24.2.2.2.1 s24.2.2.2.2.1 s24.2.2.2.2.2.1 s24.2.2.2.2.2.2.1 s24.2.2.2.2.2.2.2.1 s24.2.2.2.2.2.2.2.2.1) s24.2.2.2.2.2.2.2.2.2.1 s24.2.2.2.2.2.2.2.2.2.2.1 s24.2.2.2.2.2.2.2.2.2.2.2.1 s24.2.2.2.2.2.2.2.2.2.2.2.2.1 s24.2.2.2.2.2.2.2.2.2.2.2.2.2.1 (Qy.mk s24.2.2.2.2.2.2.2.2.2.2.2.2.2.2.1 s24.2.2.2.2.2.2.2.2.2.2.2.2.2.2.2.1)) s24.2.2.2.2.2.2.2.2.2.2.2.2.2.2.2.2.1 s24.2.2.2.2.2.2.2.2.2.2.2.2.2.2.2.2.2.1 s24.2.2.2.2.2.2.2.2.2.2.2.2.2.2.2.2.2.2) (QB.mk 2 v34 (Qq.mk 0 ByteArray.empty ByteArray.empty [] (Q7.mk 0 0 0 0) [] [] 0 0 0 0 0 0 (Qo.mk 0 ByteArray.empty 0 0 0) []))) v39 ∧ X24 ((List.set p27.1 (Int.toNat v34) (i64.wrap (v37 - 1))), (i64.wrap (s24.2.1 + 1)), v39.1.fx.fk.fa0, v39.1.fx.fk.fb2, v39.1.fx.fk.fa8, v39.1.fx.fk.fb7, v39.1.fx.fk.fc5, v39.1.fx.fk.fc7, v39.1.fx.fk.fb5, v39.1.fx.f9, v39.1.fx.ff3, v39.1.fx.fa6, v39.1.fx.fb4, v39.1.fx.fc5, v39.1.fx.fc4.fc3, v39.1.fx.fc4.fa8, v39.1.fa0, v39.1.ff1, v39.1.ff0))))) (fun J27 => ct (decide ((a2.length : Int) > 0)) ((((a2.length : Int) : Int) ≠ 0) ∧ ∃ v29, ix a2 (s24.2.1.tmod (a2.length : Int)) v29 ∧ ((0 : Int) ≤ (u64.wrap (s24.2.1.tmod 16))) ∧ J27 (s24.1, (QD .i64 (QC .i64 v29 (u64.wrap (s24.2.1.tmod 16))) 255))) (J27 (s24.1, 0))))) (J23 ())) (p14, 0, p6.2.1, p6.2.2.1, p6.2.2.2.1, p6.2.2.2.2.1, p6.2.2.2.2.2.1, p6.2.2.2.2.2.2.1, p6.2.2.2.2.2.2.2.1, p6.2.2.2.2.2.2.2.2.1, p6.2.2.2.2.2.2.2.2.2.1, p6.2.2.2.2.2.2.2.2.2.2.1, p6.2.2.2.2.2.2.2.2.2.2.2.1, p6.2.2.2.2.2.2.2.2.2.2.2.2.1, p6.2.2.2.2.2.2.2.2.2.2.2.2.2.1, p6.2.2.2.2.2.2.2.2.2.2.2.2.2.2.1, p6.2.2.2.2.2.2.2.2.2.2.2.2.2.2.2.1, p6.2.2.2.2.2.2.2.2.2.2.2.2.2.2.2.2.1, p6.2.2.2.2.2.2.2.2.2.2.2.2.2.2.2.2.2))) (fun J14 => lv (fun (s15 : (List QB) × (List Int) × Int) => True) (fun s15 => 0) (fun s15 => sh [2, 7, 8, 12] [(7, 0), (8, 0)] [(10, .c (.sl (10, 1000) 0 (List.map Z1 s15.1).length)), (13, .c (.sl (13, 1000) 0 (mi s15.2.1).length)), (14, tI s15.2.2)] [((10, 1000), some (.row 24 (List.map Z1 s15.1) true)), ((13, 1000), some (.row 1 (mi s15.2.1) true))]) (fun X15 s15 => ct (decide (s15.2.2 < v1.fa0)) (jo (fun (p17 : (List QB) × (List Int)) => sh [2, 7, 8, 12, 14] [(7, 0), (8, 0)] [(10, .c (.sl (10, 1000) 0 (List.map Z1 p17.1).length)), (13, .c (.sl (13, 1000) 0 (mi p17.2).length))] [((10, 1000), some (.row 24 (List.map Z1 p17.1) true)), ((13, 1000), some (.row 1 (mi p17.2) true))]) (fun p17 => X15 (p17.1, p17.2, (i64.wrap (s15.2.2 + 1)))) (fun J17 => ∃ v18, ix p6.2.2.2.2.2.2.2.2.2.2.2.2.2.2.2.1 s15.2.2 v18 ∧ ct v18.ff5 (∃ v19, ix p6.2.2.2.2.2.2.2.2.2.2.2.2.2.2.2.1 s15.2.2 v19 ∧ ∃ v20, Rr (Yv (s15.1.length : Int)) v20 ∧ ∃ v21, Rr (JB v1 v19.fOp v20 (v12.length : Int)) v21 ∧ ∃ v22, ix s15.2.1 s15.2.2 v22 ∧ Qg v21 (J17 (s15.1, (List.set s15.2.1 (Int.toNat s15.2.2) v21)))) (J17 (s15.1, s15.2.1)))) (J14 s15.2.1)) (p6.1, (List.replicate (Int.toNat v1.fa0) 0), 0)))) (fun J6 => lv (fun (s7 : (List QB) × Int × Int × Int × Int × Int × Int × Int × Int × Int × Int × (List Qw) × (List Qn) × (List QP) × Int × (List QE) × (List Q6) × (List QG) × Int) => True) (fun s7 => 0) (fun s7 => sh [2, 7, 8] [(7, 0)] [(10, .c (.sl (10, 1000) 0 (List.map Z1 s7.1).length)), (11, tI s7.2.1)] [((10, 1000), some (.row 24 (List.map Z1 s7.1) true)), ((8, 0), some (.box ([.p (i4 s7.2.2.1), .p (i4 s7.2.2.2.1), .p (i4 s7.2.2.2.2.1), .p (i4 s7.2.2.2.2.2.1), .p (i4 s7.2.2.2.2.2.2.1), .p (i4 s7.2.2.2.2.2.2.2.1), .p (i4 s7.2.2.2.2.2.2.2.2.1), .p (i4 (q8 s7).2.1), .p (i4 (q8 s7).2.2.1), .p (.l 2 (List.map Qi (q8 s7).2.2.2.1)), .p (.l 4 (List.map Qc (q8 s7).2.2.2.2.1)), .p (.l 2 (List.map Qm (q8 s7).2.2.2.2.2.1)), .p (i4 (q8 s7).2.2.2.2.2.2.1), .p (.l 3 (List.map Qp (q8 s7).2.2.2.2.2.2.2.1)), .p (.l 97 (List.map QF (q8 (q8 s7)).1)), .p (.l 38 (List.map ZB (q8 (q8 s7)).2.1)), .p (i4 (q8 (q8 s7)).2.2)])))]) (fun X7 s7 => ct (decide (s7.2.1 < (s7.1.length : Int))) (∃ v10, ix s7.1 s7.2.1 v10 ∧ ∃ v11, Rr (Xk (Ql.mk (Q2.mk (QA.mk s7.2.2.1 s7.2.2.2.1 s7.2.2.2.2.1 s7.2.2.2.2.2.1 s7.2.2.2.2.2.2.1 s7.2.2.2.2.2.2.2.1 s7.2.2.2.2.2.2.2.2.1) s7.2.2.2.2.2.2.2.2.2.1 s7.2.2.2.2.2.2.2.2.2.2.1 s7.2.2.2.2.2.2.2.2.2.2.2.1 s7.2.2.2.2.2.2.2.2.2.2.2.2.1 s7.2.2.2.2.2.2.2.2.2.2.2.2.2.1 (Qy.mk s7.2.2.2.2.2.2.2.2.2.2.2.2.2.2.1 s7.2.2.2.2.2.2.2.2.2.2.2.2.2.2.2.1)) s7.2.2.2.2.2.2.2.2.2.2.2.2.2.2.2.2.1 s7.2.2.2.2.2.2.2.2.2.2.2.2.2.2.2.2.2.1 s7.2.2.2.2.2.2.2.2.2.2.2.2.2.2.2.2.2.2) v10) v11 ∧ X7 (s7.1, (i64.wrap (s7.2.1 + 1)), v11.1.fx.fk.fa0, v11.1.fx.fk.fb2, v11.1.fx.fk.fa8, v11.1.fx.fk.fb7, v11.1.fx.fk.fc5, v11.1.fx.fk.fc7, v11.1.fx.fk.fb5, v11.1.fx.f9, v11.1.fx.ff3, v11.1.fx.fa6, v11.1.fx.fb4, v11.1.fx.fc5, v11.1.fx.fc4.fc3, v11.1.fx.fc4.fa8, v11.1.fa0, v11.1.ff1, v11.1.ff0)) (J6 (s7.1, s7.2.2.1, s7.2.2.2.1, s7.2.2.2.2.1, s7.2.2.2.2.2.1, s7.2.2.2.2.2.2.1, s7.2.2.2.2.2.2.2.1, s7.2.2.2.2.2.2.2.2.1, s7.2.2.2.2.2.2.2.2.2.1, s7.2.2.2.2.2.2.2.2.2.2.1, s7.2.2.2.2.2.2.2.2.2.2.2.1, s7.2.2.2.2.2.2.2.2.2.2.2.2.1, s7.2.2.2.2.2.2.2.2.2.2.2.2.2.1, s7.2.2.2.2.2.2.2.2.2.2.2.2.2.2.1, s7.2.2.2.2.2.2.2.2.2.2.2.2.2.2.2.1, s7.2.2.2.2.2.2.2.2.2.2.2.2.2.2.2.2.1, s7.2.2.2.2.2.2.2.2.2.2.2.2.2.2.2.2.2.1, s7.2.2.2.2.2.2.2.2.2.2.2.2.2.2.2.2.2.2))) ((v3 ++ v4), 0, v2.1.fx.fk.fa0, v2.1.fx.fk.fb2, v2.1.fx.fk.fa8, v2.1.fx.fk.fb7, v2.1.fx.fk.fc5, v2.1.fx.fk.fc7, v2.1.fx.fk.fb5, v2.1.fx.f9, v2.1.fx.ff3, v2.1.fx.fa6, v2.1.fx.fb4, v2.1.fx.fc5, v2.1.fx.fc4.fc3, v2.1.fx.fc4.fa8, v2.1.fa0, v2.1.ff1, v2.1.ff0))
abbrev EF : Prop := ∀ {a0 a1 a2}, Fg (VF a0 a1 a2) 3 [.c (i4 a0), .c (.l 1 (mi a1)), .c (.l 1 (mi a2))] (fun r => [.c (.p (b4 r))]) (fun _ => [])
instance Qck : ∀ {a0 a1 a2}, Gm (VF a0 a1 a2) := Z7 (VF.eq_1 _ _ _)
theorem idS {st tg : St} (h : Aa st tg) : Aa st tg := h
theorem idF0 {P : Program} {T : Tb P} {fn : Func} {r : List RS} {e : Exit} {st : St} (h : NY T fn r e st) : NY T fn r e st := h
theorem idFR {P : Program} {T : Tb P} {fn : Func} {r : List RS} {out : List RV} {e : Exit} {st : St} (h : Qdp T fn r out e st) : Qdp T fn r out e st := h
theorem idFH {P : Program} {T : Tb P} {fn : Func} {ins : List (Nat × List (List PV))} {r : List RS} {outs : List (Option (List (List PV)))} {e : Exit} {st : St} (h : Qii T fn ins r outs e st) : Qii T fn ins r outs e st := h
theorem idFP {P : Program} {T : Tb P} {fn : Func} {fm : Frm} {r : List RS} {out : List PV} {e : Exit} {st : St} (h : Qin T fn fm r out e st) : Qin T fn fm r out e st := h
theorem kBld {P : Program} {E : En} {N : Nat} {ops : Array Oper} {st : St} {ty t : Nat} {pos : String} {af : Array Edge} {gg : Option (Nat × Bool)} {dst : Option Nat} {f : Fp} {ef : Ef} {ps : Array (Nat × Operand)} (h : Zz E N P ops ⟨dst, .build t ps, ty, pos, af, gg⟩ st f ef) : Zz E N P ops ⟨dst, .build t ps, ty, pos, af, gg⟩ st f ef := h
theorem Qyk {st : St} {cs : List CV} {rvs : List RV} {r : COs} (h : GO st cs rvs = some r) (hp : Xm r.ps) (he : r.x = rvs) : AM st cs rvs r.o r.bs := by
 subst he; exact Dz h hp
theorem rn0 {R : Type} {W W' : (R → Prop) → Prop} {f : Nat} {fn : Func} {body : Code} {N : Nat} {cs : List RV} {avs : List AV} {fr : List (Nat × TV)} {ad : List CV} {H : List (Qr × Option Bk)} {res : R → List RS} {out : R → List RV} (hW : ∀ Q, W Q = W' Q) (hf : Tryz.prog.funcs[f]? = some fn) (hb : fn.body = some body := by exact rfl) (he : IZ Tryz.prog f = true := by kernel_rfl) (hN : fn.ntmps = N := by exact rfl) (hN2 : Nat.ble N 65536 = true := by kernel_rfl) (hl : Nat.ble (avs.length + 1) N = true := by kernel_rfl) (hn : avs.any AV.isRef = false := by kernel_rfl) (hfr : FN (S3 1 avs) [] = some fr := by exact rfl) (had : FN (ES 65536 1 cs) [] = some ad := by exact rfl) (hH : FN (AP 65536 1 cs) [] = some H := by exact rfl)
  (run : ∀ r, W' (fun x => r = x) → ∀ E (Q : Exit → St → Prop), (∀ e st, Qdp tb fn (res r) (out r) e st → Q e st) → AW E N Tryz.prog body Q ⟨(0, .c (.ptr ZZ 0 0)) :: fr, (ZZ, some (.box ad)) :: H⟩) : Fn W f (.ref cs :: avs) res out := by
 refine ⟨fun r h => Qdq tb hf hb he hN hN2 (Nat.le_of_ble_eq_true hl) hn fun E => ?_⟩
 have h1 := KJ hfr
 have h2 := KJ had
 have h3 := KJ hH
 rw [List.append_nil] at h1 h2 h3
 rw [← h1, ← h2, ← h3]
 unfold Rr at h
 rw [hW] at h
 exact run r h E _ fun _ _ h => h
theorem wk_ {p : Prop} (h : p := by
  intro r h E Q hQ
  repeat' first
    | (with_reducible refine idR ?_
       first
        | with_reducible refine rt ?_
        | with_reducible refine rd ?_
        | refine dM rfl ?_
        | (with_reducible refine rcs h (fun hs h => ?_) (fun hs h => ?_)
           all_goals rewrite [hs])
        | (with_reducible apply e1
           case w => exact rfl
           case a => first
            | ((with_reducible apply Qxt); first | exact D3 | exact Mi | exact Hn | exact Mi rfl rfl (by simp; done) | exact FZ | exact Q4s rfl rfl rfl rfl)
            | ((with_reducible apply Qi5); first | exact FY rfl rfl (gm (by exact hi_)) | exact EQ rfl rfl (gm (by exact hi_)))
            | ((with_reducible apply Qi6); first | exact Z4 rfl rfl QO rfl Ky | exact QT rfl rfl JZ rfl Ky | exact Z4 rfl rfl QO rfl TJ | exact QT rfl rfl JZ rfl TJ | exact Z4 rfl rfl QO rfl TI | exact QT rfl rfl JZ rfl TI | exact Q8u rfl rfl rfl rfl rfl | exact Q8v rfl rfl rfl rfl rfl)
            | ((with_reducible apply kBlt); first | exact Qpr rfl rfl rfl | exact Qpq rfl rfl rfl)
            | ((with_reducible apply Qdx); exact Qy7)
            | ((with_reducible apply TO); first | exact Le | exact Ht | exact o_string_nil rfl rfl rfl rfl rfl rfl rfl rfl)
            | ((with_reducible apply Qxv); first | exact Qy8 (hf := by kernel_rfl) | exact eqs (hf := by kernel_rfl))
            | ((with_reducible apply kBld); exact NP)
            | ((with_reducible apply kSli); exact Qdt rfl rfl rfl rfl rfl rfl rfl rfl rfl rfl rfl)
           case c => exact rfl)
        | (obtain ⟨v, hv, h⟩ := h
           have hc := Lh hv
           with_reducible apply e1
           case w => exact rfl
           case a => ((with_reducible apply Qi4); first | exact Q0r hc | exact cal1 hc | exact JY hc nl_ (hargs := by exact Lg rfl Li rfl) | exact Hq hc (hargs := by exact Lg rfl Li rfl) | exact Qdr hc (hcs := by exact Qyk rfl Li rfl) (hargs := by exact Lg rfl Li rfl))
           case c => exact rfl)
        | (obtain ⟨v, hv, h⟩ := h
           have hc := cch hv
           with_reducible apply e1
           case w => exact rfl
           case a => ((with_reducible apply Qi4); exact callh hc)
           case c => exact rfl)
        | (obtain ⟨v, hv, h⟩ := h
           with_reducible apply e1
           case w => exact rfl
           case a => ((with_reducible apply Qi4); exact Qyb (ccp hv))
           case c => exact rfl)
        | (obtain ⟨v, hv, h⟩ := h
           have hk := hv.2
           with_reducible apply e1
           case w => exact rfl
           case a => first
            | ((with_reducible apply Qdx); first | exact Q0j hv | exact FL hv | exact FL hv rfl rfl (by simp; done) | exact N6 hv rfl rfl rfl rfl rfl rfl rfl rfl)
            | ((with_reducible apply kIx); exact Hs hv)
           case c => exact rfl)
        | (obtain ⟨hv, h⟩ := h
           with_reducible apply e1
           case w => exact rfl
           case a => first
            | ((with_reducible apply Qi7); exact Dr hv (hsrc := by first | exact Ab Qt | exact Xp Qt rfl rfl rfl rfl rfl | exact ZY Qt | exact ZY Qt rfl rfl rfl (by simp; done) | exact Xq Qt | exact Xr Qt rfl rfl rfl rfl))
            | ((with_reducible apply Qxu); first | exact FM hv (hsrc := by first | exact Ab Qt | exact Xp Qt rfl rfl rfl rfl rfl | exact ZY Qt | exact ZY Qt rfl rfl rfl (by simp; done) | exact Xq Qt | exact Xr Qt rfl rfl rfl rfl) | exact FM hv rfl rfl rfl (by simp; done) (hsrc := by first | exact Ab Qt | exact Xp Qt rfl rfl rfl rfl rfl | exact ZY Qt | exact ZY Qt rfl rfl rfl (by simp; done) | exact Xq Qt | exact Xr Qt rfl rfl rfl rfl) | exact Dr hv (hsrc := by first | exact Ab Qt | exact Xp Qt rfl rfl rfl rfl rfl | exact ZY Qt | exact ZY Qt rfl rfl rfl (by simp; done) | exact Xq Qt | exact Xr Qt rfl rfl rfl rfl) | exact Nc hv (hsrc := by first | exact Ab Qt | exact Xp Qt rfl rfl rfl rfl rfl | exact ZY Qt | exact ZY Qt rfl rfl rfl (by simp; done) | exact Xq Qt | exact Xr Qt rfl rfl rfl rfl))
            | ((with_reducible apply Qxw); exact Qi0 hv)
            | ((with_reducible apply Qxx); exact Qhz hv)
            | ((with_reducible apply Qxy); exact Qbt hv)
            | ((with_reducible apply Qxz); exact Qbu hv)
            | ((with_reducible apply Qy0); exact Q0a rfl rfl hv rfl rfl)
            | ((with_reducible apply kSL); first | exact Lb hv | exact Q0k hv | exact Pg hv rfl rfl rfl rfl rfl rfl)
            | ((with_reducible apply kSH); first | exact Lc hv | exact Q0l hv | exact Ph hv rfl rfl rfl rfl rfl rfl)
            | ((with_reducible apply kSB); first | exact G4 hv | exact N8 hv rfl rfl rfl rfl rfl rfl rfl rfl rfl rfl rfl | exact Ld hv rfl rfl rfl rfl rfl rfl rfl rfl)
            | ((with_reducible apply TO); exact Q0o hv rfl rfl rfl rfl rfl rfl rfl)
           case c => exact rfl)
        | (with_reducible apply e1
           case w => exact rfl
           case a => first | exact bsl h | exact bsl0 h | exact Qya h | (apply fz1; (case m => exact rfl); (case c => exact rfl); (case k => exact Qya h); (case a => exact rfl)) | (apply fz1; (case m => exact rfl); (case c => exact rfl); (case k => (apply fz1; (case m => exact rfl); (case c => exact rfl); (case k => exact Qya h); (case a => exact rfl))); (case a => exact rfl))
           case c => exact rfl
           replace h := Qg.out h)
        | (with_reducible apply e0
           case w => exact rfl
           case a => first | exact srow h | exact Qig h | (apply fz1; (case m => exact rfl); (case c => exact rfl); (case k => exact Qig h); (case a => exact rfl)) | (apply fz1; (case m => exact rfl); (case c => exact rfl); (case k => (apply fz1; (case m => exact rfl); (case c => exact rfl); (case k => exact Qig h); (case a => exact rfl))); (case a => exact rfl))
           case c => exact rfl
           replace h := Qg.out h)
        | (obtain ⟨hv, h⟩ := h
           with_reducible apply e1
           case w => exact rfl
           case a => exact mk_ h hv
           case c => exact rfl
           replace h := Qg.out h)
        | (with_reducible apply eg1
           case hj => exact rfl
           case hb => exact rfl
           case hg => first | exact JZ | exact QO
           case a =>
             intro hg
             first | simp only [QS hg, QS (NR hg)] | simp only [QS hg] | skip
             first
              | ((with_reducible apply Qxt); first | exact D3 | exact Mi | exact Hn | exact FZ)
              | ((with_reducible apply Qi5); first | exact pV | exact FY rfl rfl (gm (by first | exact (hv hg).2 | exact hi_)) | exact EQ rfl rfl (gm (by first | exact (hv hg).2 | exact hi_)))
              | ((with_reducible apply Qi6); first | exact Z4 rfl rfl (Hu hg) rfl Ky | exact QT rfl rfl (XN hg) rfl Ky | exact Z4 rfl rfl (Hu hg) rfl TJ | exact QT rfl rfl (XN hg) rfl TJ | exact Z4 rfl rfl (Hu hg) rfl TI | exact QT rfl rfl (XN hg) rfl TI)
              | ((with_reducible apply Qdx); exact Qy7)
              | ((with_reducible apply TO); first | exact pV | exact Le | exact Ht)
              | ((with_reducible apply Qxv); first | exact pV | exact Qy8 (hf := by kernel_rfl) | exact eqs (hf := by kernel_rfl))
              | (exact pV))
        | (with_reducible apply eg
           case hj => exact rfl
           case hb => exact rfl
           case hg => first | exact Z2 | exact Dy
           case a =>
             intro hg
             first | simp only [QS hg, QS (NR hg)] | simp only [QS hg] | skip
             first
              | ((with_reducible apply Qxt); first | exact D3 | exact Mi | exact Hn | exact FZ)
              | ((with_reducible apply Qi5); first | exact pV | exact FY rfl rfl (gm (by first | exact (hv hg).2 | exact hi_)) | exact EQ rfl rfl (gm (by first | exact (hv hg).2 | exact hi_)))
              | ((with_reducible apply Qi6); first | exact Z4 rfl rfl (Hu hg) rfl Ky | exact QT rfl rfl (XN hg) rfl Ky | exact Z4 rfl rfl (Hu hg) rfl TJ | exact QT rfl rfl (XN hg) rfl TJ | exact Z4 rfl rfl (Hu hg) rfl TI | exact QT rfl rfl (XN hg) rfl TI)
              | ((with_reducible apply Qdx); exact Qy7)
              | ((with_reducible apply TO); first | exact pV | exact Le | exact Ht)
              | ((with_reducible apply Qxv); first | exact pV | exact Qy8 (hf := by kernel_rfl) | exact eqs (hf := by kernel_rfl))
              | (exact pV))
        | (obtain ⟨v, hv, h⟩ := h
           with_reducible apply eg1
           case hj => exact rfl
           case hb => exact rfl
           case hg => first | exact JZ | exact QO
           case a =>
             intro hg
             first | simp only [QS hg, QS (NR hg)] | simp only [QS hg] | skip
             (with_reducible apply Qi4)
             have hc := Lh (hv hg)
             first
              | exact Q0r hc
              | exact JY hc nl_ (hargs := by exact Lg rfl Li rfl)
              | exact Hq hc (hargs := by exact Lg rfl Li rfl))
        | (obtain ⟨v, hv, h⟩ := h
           with_reducible apply eg
           case hj => exact rfl
           case hb => exact rfl
           case hg => first | exact Z2 | exact Dy
           case a =>
             intro hg
             first | simp only [QS hg, QS (NR hg)] | simp only [QS hg] | skip
             (with_reducible apply Qi4)
             have hc := Lh (hv hg)
             first
              | exact Q0r hc
              | exact JY hc nl_ (hargs := by exact Lg rfl Li rfl)
              | exact Hq hc (hargs := by exact Lg rfl Li rfl))
        | (obtain ⟨v, hv, h⟩ := h
           with_reducible apply eg1
           case hj => exact rfl
           case hb => exact rfl
           case hg => first | exact JZ | exact QO
           case a =>
             intro hg
             first | simp only [QS hg, QS (NR hg)] | simp only [QS hg] | skip
             have hv := hv hg
             first
              | ((with_reducible apply Qdx); first | exact Q0j hv | exact FL hv | exact FL hv rfl rfl (by simp; done) | exact N6 hv rfl rfl rfl rfl rfl rfl rfl rfl)
              | ((with_reducible apply kIx); exact Hs hv))
        | (obtain ⟨v, hv, h⟩ := h
           with_reducible apply eg
           case hj => exact rfl
           case hb => exact rfl
           case hg => first | exact Z2 | exact Dy
           case a =>
             intro hg
             first | simp only [QS hg, QS (NR hg)] | simp only [QS hg] | skip
             have hv := hv hg
             first
              | ((with_reducible apply Qdx); first | exact Q0j hv | exact FL hv | exact FL hv rfl rfl (by simp; done) | exact N6 hv rfl rfl rfl rfl rfl rfl rfl rfl)
              | ((with_reducible apply kIx); exact Hs hv))
        | (obtain ⟨hv, h⟩ := h
           with_reducible apply eg1
           case hj => exact rfl
           case hb => exact rfl
           case hg => first | exact JZ | exact QO
           case a =>
             intro hg
             first | simp only [QS hg, QS (NR hg)] | simp only [QS hg] | skip
             have hv := hv hg
             first
              | ((with_reducible apply Qi7); exact Dr hv (hsrc := by first | exact Ab Qt | exact Xp Qt rfl rfl rfl rfl rfl | exact ZY Qt | exact ZY Qt rfl rfl rfl (by simp; done) | exact Xq Qt | exact Xr Qt rfl rfl rfl rfl))
              | ((with_reducible apply Qxu); first | exact FM hv (hsrc := by first | exact Ab Qt | exact Xp Qt rfl rfl rfl rfl rfl | exact ZY Qt | exact ZY Qt rfl rfl rfl (by simp; done) | exact Xq Qt | exact Xr Qt rfl rfl rfl rfl) | exact FM hv rfl rfl rfl (by simp; done) (hsrc := by first | exact Ab Qt | exact Xp Qt rfl rfl rfl rfl rfl | exact ZY Qt | exact ZY Qt rfl rfl rfl (by simp; done) | exact Xq Qt | exact Xr Qt rfl rfl rfl rfl) | exact Dr hv (hsrc := by first | exact Ab Qt | exact Xp Qt rfl rfl rfl rfl rfl | exact ZY Qt | exact ZY Qt rfl rfl rfl (by simp; done) | exact Xq Qt | exact Xr Qt rfl rfl rfl rfl) | exact Nc hv (hsrc := by first | exact Ab Qt | exact Xp Qt rfl rfl rfl rfl rfl | exact ZY Qt | exact ZY Qt rfl rfl rfl (by simp; done) | exact Xq Qt | exact Xr Qt rfl rfl rfl rfl))
              | ((with_reducible apply Qxw); exact Qi0 hv)
              | ((with_reducible apply Qxx); exact Qhz hv)
              | ((with_reducible apply Qxy); exact Qbt hv)
              | ((with_reducible apply Qxz); exact Qbu hv)
              | ((with_reducible apply Qy0); exact Q0a rfl rfl hv rfl rfl)
              | ((with_reducible apply kSL); first | exact Lb hv | exact Q0k hv | exact Pg hv rfl rfl rfl rfl rfl rfl)
              | ((with_reducible apply kSH); first | exact Lc hv | exact Q0l hv | exact Ph hv rfl rfl rfl rfl rfl rfl)
              | ((with_reducible apply kSB); first | exact G4 hv | exact N8 hv rfl rfl rfl rfl rfl rfl rfl rfl rfl rfl rfl | exact Ld hv rfl rfl rfl rfl rfl rfl rfl rfl)
              | ((with_reducible apply TO); exact Q0o hv rfl rfl rfl rfl rfl rfl rfl))
        | (obtain ⟨hv, h⟩ := h
           with_reducible apply eg
           case hj => exact rfl
           case hb => exact rfl
           case hg => first | exact Z2 | exact Dy
           case a =>
             intro hg
             first | simp only [QS hg, QS (NR hg)] | simp only [QS hg] | skip
             have hv := hv hg
             first
              | ((with_reducible apply Qi7); exact Dr hv (hsrc := by first | exact Ab Qt | exact Xp Qt rfl rfl rfl rfl rfl | exact ZY Qt | exact ZY Qt rfl rfl rfl (by simp; done) | exact Xq Qt | exact Xr Qt rfl rfl rfl rfl))
              | ((with_reducible apply Qxu); first | exact FM hv (hsrc := by first | exact Ab Qt | exact Xp Qt rfl rfl rfl rfl rfl | exact ZY Qt | exact ZY Qt rfl rfl rfl (by simp; done) | exact Xq Qt | exact Xr Qt rfl rfl rfl rfl) | exact FM hv rfl rfl rfl (by simp; done) (hsrc := by first | exact Ab Qt | exact Xp Qt rfl rfl rfl rfl rfl | exact ZY Qt | exact ZY Qt rfl rfl rfl (by simp; done) | exact Xq Qt | exact Xr Qt rfl rfl rfl rfl) | exact Dr hv (hsrc := by first | exact Ab Qt | exact Xp Qt rfl rfl rfl rfl rfl | exact ZY Qt | exact ZY Qt rfl rfl rfl (by simp; done) | exact Xq Qt | exact Xr Qt rfl rfl rfl rfl) | exact Nc hv (hsrc := by first | exact Ab Qt | exact Xp Qt rfl rfl rfl rfl rfl | exact ZY Qt | exact ZY Qt rfl rfl rfl (by simp; done) | exact Xq Qt | exact Xr Qt rfl rfl rfl rfl))
              | ((with_reducible apply Qxw); exact Qi0 hv)
              | ((with_reducible apply Qxx); exact Qhz hv)
              | ((with_reducible apply Qxy); exact Qbt hv)
              | ((with_reducible apply Qxz); exact Qbu hv)
              | ((with_reducible apply Qy0); exact Q0a rfl rfl hv rfl rfl)
              | ((with_reducible apply kSL); first | exact Lb hv | exact Q0k hv | exact Pg hv rfl rfl rfl rfl rfl rfl)
              | ((with_reducible apply kSH); first | exact Lc hv | exact Q0l hv | exact Ph hv rfl rfl rfl rfl rfl rfl)
              | ((with_reducible apply kSB); first | exact G4 hv | exact N8 hv rfl rfl rfl rfl rfl rfl rfl rfl rfl rfl rfl | exact Ld hv rfl rfl rfl rfl rfl rfl rfl rfl)
              | ((with_reducible apply TO); exact Q0o hv rfl rfl rfl rfl rfl rfl rfl))
        | refine Qha rfl ?_
        | ((fail_if_success with_reducible refine idC ?_)
           refine rcp rfl ?_))
    | (with_reducible refine idA ?_
       first
        | refine Qq8 h ?_ fun h => ?_
        | refine tDp rfl rfl ?_
        | refine cn h (fun h => ?_) fun h => ?_
        | refine aw_jo h (fun p h => ?_) fun J L hL h => ?_
        | refine aw_lo h ?_ fun X L hL s h => ?_
        | refine tEp rfl rfl ?_
        | with_reducible refine tk fun L hL => ?_
        | with_reducible refine dk mixed fun L hL => ?_
        | with_reducible refine tl fun L hL => ?_
        | with_reducible refine dl mixed fun L hL => ?_
        | with_reducible refine sk fun L hL => ?_
        | with_reducible refine WR ?_
        | with_reducible refine Qpt ?_
        | with_reducible refine Qhk ?_
        | (with_reducible refine AO ?_
           obtain rfl := h
           refine hQ _ _ ?_
           first | ((with_reducible apply idF0); exact fin0 rfl rfl Li (by kernel_rfl) (by kernel_rfl) (by kernel_rfl) (.inr rfl)) | ((with_reducible apply idFR); exact finR rfl rfl rfl rfl Li Li (by kernel_rfl) (by kernel_rfl) (by kernel_rfl) (by kernel_rfl) (.inr rfl)) | ((with_reducible apply idFH); exact finH rfl rfl rfl Li Li (by kernel_rfl) (by kernel_rfl) (by kernel_rfl) (by kernel_rfl) (.inr rfl)) | ((with_reducible apply idFP); exact finP rfl rfl rfl rfl Li Li (by kernel_rfl) (by kernel_rfl) (by kernel_rfl) (by kernel_rfl) (.inr rfl)))
        | refine Qhj ?_
        | refine Qdk rfl rfl ?_
        | refine Qdl rfl rfl ?_
        | refine Qi2 rfl fun G hL => ?_
        | refine Qq4 ⟨rfl, ?_⟩)
    | (with_reducible refine idS ?_
       exact sub_)
    | ((fail_if_success with_reducible refine idR ?_)
       (fail_if_success with_reducible refine idA ?_)
       (fail_if_success with_reducible refine idS ?_)
       first
        | refine hL _ ?_
        | (refine hL _ _ h ?_
           exact sub_)
        | exact h
        | apply_assumption
        | (obtain rfl := h
           refine hQ _ _ ?_
           first | ((with_reducible apply idF0); exact fin0 rfl rfl Li (by kernel_rfl) (by kernel_rfl) (by kernel_rfl) (.inl rfl)) | ((with_reducible apply idFR); exact finR rfl rfl rfl rfl Li Li (by kernel_rfl) (by kernel_rfl) (by kernel_rfl) (by kernel_rfl) (.inl rfl)) | ((with_reducible apply idFH); exact finH rfl rfl rfl Li Li (by kernel_rfl) (by kernel_rfl) (by kernel_rfl) (by kernel_rfl) (.inl rfl)) | ((with_reducible apply idFP); exact finP rfl rfl rfl rfl Li Li (by kernel_rfl) (by kernel_rfl) (by kernel_rfl) (by kernel_rfl) (.inl rfl))))
  all_goals fail) : p := h
theorem Zb {R : Type} {W W' : (R → Prop) → Prop} {f : Nat} {fn : Func} {body : Code} {N : Nat} {avs : List AV} {fr : List (Nat × TV)} {res : R → List RS} (hW : ∀ Q, W Q = W' Q) (hf : Tryz.prog.funcs[f]? = some fn) (hb : fn.body = some body := by exact rfl) (he : IZ Tryz.prog f = true := by kernel_rfl) (hN : fn.ntmps = N := by exact rfl) (hN2 : Nat.ble N 65536 = true := by kernel_rfl) (hl : Nat.ble avs.length N = true := by kernel_rfl) (hn : avs.any AV.isRef = false := by kernel_rfl) (hfr : FN (S3 0 avs) [] = some fr := by exact rfl)
  (gm : GM W' W' := by exact gm_) (run : ∀ r, W' (fun x => r = x) → ∀ E (Q : Exit → St → Prop), (∀ e st, NY tb fn (res r) e st → Q e st) → AW E N Tryz.prog body Q ⟨fr, []⟩ := by exact wk_) : Fg W f avs res (fun _ => []) := { toFn := fn0 hW hf hb he hN hN2 hl hn hfr run, gm := gm0 hW gm }
theorem rg0 {R : Type} {W W' : (R → Prop) → Prop} {f : Nat} {fn : Func} {body : Code} {N : Nat} {cs : List RV} {avs : List AV} {fr : List (Nat × TV)} {ad : List CV} {H : List (Qr × Option Bk)} {res : R → List RS} {out : R → List RV} (hW : ∀ Q, W Q = W' Q) (hf : Tryz.prog.funcs[f]? = some fn) (hb : fn.body = some body := by exact rfl) (he : IZ Tryz.prog f = true := by kernel_rfl) (hN : fn.ntmps = N := by exact rfl) (hN2 : Nat.ble N 65536 = true := by kernel_rfl) (hl : Nat.ble (avs.length + 1) N = true := by kernel_rfl) (hn : avs.any AV.isRef = false := by kernel_rfl) (hfr : FN (S3 1 avs) [] = some fr := by exact rfl) (had : FN (ES 65536 1 cs) [] = some ad := by exact rfl) (hH : FN (AP 65536 1 cs) [] = some H := by exact rfl)
  (gm : GM W' W' := by exact gm_) (run : ∀ r, W' (fun x => r = x) → ∀ E (Q : Exit → St → Prop), (∀ e st, Qdp tb fn (res r) (out r) e st → Q e st) → AW E N Tryz.prog body Q ⟨(0, .c (.ptr ZZ 0 0)) :: fr, (ZZ, some (.box ad)) :: H⟩ := by exact wk_) : Fg W f (.ref cs :: avs) res out := { toFn := rn0 hW hf hb he hN hN2 hl hn hfr had hH run, gm := gm0 hW gm }
theorem fh0 {R : Type} {W W' : (R → Prop) → Prop} {f : Nat} {fn : Func} {body : Code} {N : Nat} {ins : List (Nat × List (List PV))} {ts : List TV} {fr : List (Nat × TV)} {H : List (Qr × Option Bk)} {res : R → List RS} {outs : R → List (Option (List (List PV)))} (hW : ∀ Q, W Q = W' Q) (hf : Tryz.prog.funcs[f]? = some fn) (hb : fn.body = some body := by exact rfl) (he : IZ Tryz.prog f = true := by kernel_rfl) (hN : fn.ntmps = N := by exact rfl) (hN2 : Nat.ble N 65536 = true := by kernel_rfl) (hl : Nat.ble ts.length N = true := by kernel_rfl) (hfr : FN (enT 0 ts) [] = some fr := by exact rfl) (hH : FN (inH 0 ins) [] = some H := by exact rfl)
  (gm : GM W' W' := by exact gm_) (run : ∀ r, W' (fun x => r = x) → ∀ E (Q : Exit → St → Prop), (∀ e st, Qii tb fn ins (res r) (outs r) e st → Q e st) → AW E N Tryz.prog body Q ⟨fr, H⟩ := by exact wk_) : Fh W f ins ts res outs := by
 refine { toGm := ⟨gm0 hW gm⟩, run := fun r h => ?_ }
 refine ⟨he, tb, fn, body, hf, hb, by rw [hN]; exact Nat.le_of_ble_eq_true hN2, by rw [hN]; exact Nat.le_of_ble_eq_true hl, fun E => ?_⟩
 have h1 := KJ hfr
 have h2 := KJ hH
 rw [List.append_nil] at h1 h2
 rw [← h1, ← h2, hN]
 unfold Rr at h
 rw [hW] at h
 exact run r h E _ fun _ _ h => h
theorem fp0 {R V : Type} {W W' : (R → Prop) → Prop} {f : Nat} {fn : Func} {body : Code} {N : Nat} {enc : V → List PV} {x : V} {ts : List TV} {fr : List (Nat × TV)} {cs : List CV} {res : R → List RS} {out : R → V} (hW : ∀ Q, W Q = W' Q) (hf : Tryz.prog.funcs[f]? = some fn) (hb : fn.body = some body := by exact rfl) (he : IZ Tryz.prog f = true := by kernel_rfl) (hN : fn.ntmps = N := by exact rfl) (hN2 : Nat.ble N 65536 = true := by kernel_rfl) (hl : Nat.ble ts.length N = true := by kernel_rfl) (hfr : FN (enT 0 ts) [] = some fr := by exact rfl) (hcs : FN ((enc x).map .p) [] = some cs := by exact rfl)
  (gm : GM W' W' := by exact gm_) (run : ∀ fm r, W' (fun x => r = x) → ∀ E (Q : Exit → St → Prop), (∀ e st, Qin tb fn fm (res r) (enc (out r)) e st → Q e st) → AW E N Tryz.prog body Q ⟨fr, [(ZZ, some (.box cs (some fm)))]⟩ := by exact fun fm => wk_) : Fq W V f enc x ts res out := by
 refine { toGm := ⟨gm0 hW gm⟩, run := fun L i r h => ?_ }
 refine ⟨he, tb, fn, body, hf, hb, by rw [hN]; exact Nat.le_of_ble_eq_true hN2, by rw [hN]; exact Nat.le_of_ble_eq_true hl, fun E => ?_⟩
 have h1 := KJ hfr
 have h2 := KJ hcs
 rw [List.append_nil] at h1 h2
 rw [← h1, ← h2, hN]
 unfold Rr at h
 rw [hW] at h
 exact run _ r h E _ fun _ _ h => h
end Go.Proofs.YtimfmcpbkdpmoaaGreat
namespace Go.Proofs.YtimfmcpbkdpmoaaGreat
open Go.RowKit Go.ChangeShapes Go.WideShapes
end Go.Proofs.YtimfmcpbkdpmoaaGreat
namespace Go.Proofs.YtimfmcpbkdpmoaaGreat
open Go.RowKit Go.ChangeShapes Go.WideShapes
theorem Cp {σ : Type} {step : (σ → Prop) → σ → Prop} (I : Nat → σ → Prop) (h : ∀ k s, I k s → ∀ X : σ → Prop, (∀ k' s', k' < k → I k' s' → X s') → step X s) {k : Nat} {s : σ} (h0 : I k s) : lp step s := by
 intro X hX
 have key : ∀ k s, I k s → X s := by
  intro k
  induction k using Nat.strongRecOn with
  | _ k ih => exact fun s hs => hX s (h k s hs X fun k' s' hk hs' => ih k' hk s' hs')
 exact key k s h0
theorem KI {n : Int} (h : -9223372036854775808 ≤ n ∧ n ≤ 9223372036854775807) : IntKind.i64.wrap n = n := by rw [IntKind.wrap_i64]; omega
theorem Q16 (n : Nat) : Int.toNat (n : Int) = n := by simp
end Go.Proofs.YtimfmcpbkdpmoaaGreat
namespace Go.Proofs.YtimfmcpbkdpmoaaGreat
open Go.RowKit Go.ChangeShapes Go.WideShapes
theorem Qk0 (x : Int) (j : Nat) (hj : j ≤ 62) (m : Int) (hm : m = 2 ^ j - 1) : bits BinOp.and IntKind.i64 x m = x % 2 ^ j := by
 have hp : (2 : Nat) ^ j ≤ 2 ^ 62 := Nat.pow_le_pow_right (by omega) hj
 have hp1 : 1 ≤ (2 : Nat) ^ j := Nat.one_le_two_pow
 have e0 : (2 : Int) ^ j = ((2 ^ j : Nat) : Int) := by simp
 have e1 : m = ((2 ^ j - 1 : Nat) : Int) := by rw [hm, e0]; omega
 show IntKind.i64.wrap ((BitVec.ofInt 64 x &&& BitVec.ofInt 64 m).toNat : Int) = _
 rw [BitVec.toNat_and, e1, BitVec.ofInt_natCast, BitVec.toNat_ofNat, Nat.mod_eq_of_lt (a := 2 ^ j - 1) (by omega), Nat.and_two_pow_sub_one_eq_mod, BitVec.toNat_ofInt]
 have hd : ((2 ^ j : Nat) : Int) ∣ (2 ^ 64 : Nat) := by
  refine ⟨((2 ^ (64 - j) : Nat) : Int), ?_⟩
  rw [← Int.natCast_mul, ← Nat.pow_add, show j + (64 - j) = 64 from by omega]
 have h2 : ((x % ((2 ^ 64 : Nat) : Int)).toNat % 2 ^ j : Nat) = (x % (2 ^ j : Nat)).toNat := by
  have hx0 : 0 ≤ x % ((2 ^ 64 : Nat) : Int) := Int.emod_nonneg _ (by decide)
  have hx1 : 0 ≤ x % ((2 ^ j : Nat) : Int) := Int.emod_nonneg _ (by omega)
  apply Int.ofNat.inj
  show (((x % ((2 ^ 64 : Nat) : Int)).toNat % 2 ^ j : Nat) : Int) = (((x % (2 ^ j : Nat)).toNat : Nat) : Int)
  rw [Int.natCast_emod, Int.toNat_of_nonneg hx0, Int.toNat_of_nonneg hx1, Int.emod_emod_of_dvd _ hd]
 rw [h2, Int.toNat_of_nonneg (Int.emod_nonneg _ (by omega)), e0, IntKind.wrap_i64]
 have hb0 : 0 ≤ x % ((2 ^ j : Nat) : Int) := Int.emod_nonneg _ (by omega)
 have hb1 : x % ((2 ^ j : Nat) : Int) < ((2 ^ j : Nat) : Int) := Int.emod_lt_of_pos _ (by omega)
 omega
theorem bA (x : Int) (j : Nat) (hj : j ≤ 62) (m : Int) (hm : m = 2 ^ j - 1) : QD .i64 x m = x % 2 ^ j := Qk0 x j hj m hm
theorem bA1 (x : Int) : QD .i64 x 1 = x % 2 := bA x 1 (by decide) 1 (by decide)
theorem bA3 (x : Int) : QD .i64 x 3 = x % 4 := bA x 2 (by decide) 3 (by decide)
theorem bA7 (x : Int) : QD .i64 x 7 = x % 8 := bA x 3 (by decide) 7 (by decide)
theorem bA15 (x : Int) : QD .i64 x 15 = x % 16 := bA x 4 (by decide) 15 (by decide)
theorem bA31 (x : Int) : QD .i64 x 31 = x % 32 := bA x 5 (by decide) 31 (by decide)
theorem bA63 (x : Int) : QD .i64 x 63 = x % 64 := bA x 6 (by decide) 63 (by decide)
theorem Qk1 (x : Int) : QD .i64 x 255 = x % 256 := bA x 8 (by decide) 255 (by decide)
theorem Qrt (x : Int) : QD .i64 x 65535 = x % 65536 := bA x 16 (by decide) 65535 (by decide)
theorem Lo (x : Int) : QD .i64 x 16777215 = x % 16777216 := bA x 24 (by decide) 16777215 (by decide)
theorem Ps {a b : Int} (ha : 0 ≤ a) : a.tmod b = a % b := Int.tmod_eq_emod_of_nonneg ha
theorem Yy {α : Type} {l : List α} {n : Int} (h0 : 0 ≤ n) (h1 : n < l.length) : ∃ x, ix l n x ∧ l[n.toNat]? = some x := by
 have : n.toNat < l.length := by omega
 exact ⟨l[n.toNat], ⟨h0, by simp [this]⟩, by simp [this]⟩
theorem Qk2 {n : Int} (h : 0 ≤ n ∧ n ≤ 18446744073709551615) : IntKind.u64.wrap n = n := by rw [IntKind.wrap_u64]; omega
theorem shr8 (x : Int) : QC .i64 x 8 = x / 256 := by
 show x.fdiv (2 ^ 8) = x / 256
 rw [Int.fdiv_eq_ediv_of_nonneg x (by decide)]; rfl
theorem Dt (x : Int) : 0 ≤ IntKind.u64.wrap x ∧ IntKind.u64.wrap x ≤ 18446744073709551615 := by rw [IntKind.wrap_u64]; omega
theorem Ng {d s : Int} (h1 : 1 ≤ d ∧ d ≤ 8) (h2 : 1 ≤ s ∧ s ≤ 64) : 1 ≤ d * s ∧ d * s ≤ 512 := by
 have h : d = 1 ∨ d = 2 ∨ d = 3 ∨ d = 4 ∨ d = 5 ∨ d = 6 ∨ d = 7 ∨ d = 8 := by omega
 rcases h with rfl | rfl | rfl | rfl | rfl | rfl | rfl | rfl <;> omega
theorem Pt {p : Int} (h : 2 ≤ p ∧ p ≤ 8) : 4 ≤ XX .i64 1 (IntKind.u64.wrap p) ∧ XX .i64 1 (IntKind.u64.wrap p) ≤ 256 := by
 have h : p = 2 ∨ p = 3 ∨ p = 4 ∨ p = 5 ∨ p = 6 ∨ p = 7 ∨ p = 8 := by omega
 rcases h with rfl | rfl | rfl | rfl | rfl | rfl | rfl <;> decide
theorem Qvv {p v : Int} (hp : 2 ≤ p ∧ p ≤ 8) (h0 : 0 ≤ v) (h1 : v ≤ 18446744073709551615) : 0 ≤ QC .u64 v (IntKind.u64.wrap (IntKind.i64.wrap (64 - p))) ∧ QC .u64 v (IntKind.u64.wrap (IntKind.i64.wrap (64 - p))) < XX .i64 1 (IntKind.u64.wrap p) := by
 have h : p = 2 ∨ p = 3 ∨ p = 4 ∨ p = 5 ∨ p = 6 ∨ p = 7 ∨ p = 8 := by omega
 have hd : ∀ m : Int, 0 < m → v.fdiv m = v / m := fun m hm => Int.fdiv_eq_ediv_of_nonneg v (by omega)
 rcases h with rfl | rfl | rfl | rfl | rfl | rfl | rfl
 ·have e1 : IntKind.u64.wrap (IntKind.i64.wrap (64 - 2)) = 62 := by decide
  have e2 : XX .i64 1 (IntKind.u64.wrap 2) = 4 := by decide
  rw [e1, e2]; show 0 ≤ v.fdiv 4611686018427387904 ∧ v.fdiv 4611686018427387904 < 4; rw [hd _ (by decide)]; omega
 ·have e1 : IntKind.u64.wrap (IntKind.i64.wrap (64 - 3)) = 61 := by decide
  have e2 : XX .i64 1 (IntKind.u64.wrap 3) = 8 := by decide
  rw [e1, e2]; show 0 ≤ v.fdiv 2305843009213693952 ∧ v.fdiv 2305843009213693952 < 8; rw [hd _ (by decide)]; omega
 ·have e1 : IntKind.u64.wrap (IntKind.i64.wrap (64 - 4)) = 60 := by decide
  have e2 : XX .i64 1 (IntKind.u64.wrap 4) = 16 := by decide
  rw [e1, e2]; show 0 ≤ v.fdiv 1152921504606846976 ∧ v.fdiv 1152921504606846976 < 16; rw [hd _ (by decide)]; omega
 ·have e1 : IntKind.u64.wrap (IntKind.i64.wrap (64 - 5)) = 59 := by decide
  have e2 : XX .i64 1 (IntKind.u64.wrap 5) = 32 := by decide
  rw [e1, e2]; show 0 ≤ v.fdiv 576460752303423488 ∧ v.fdiv 576460752303423488 < 32; rw [hd _ (by decide)]; omega
 ·have e1 : IntKind.u64.wrap (IntKind.i64.wrap (64 - 6)) = 58 := by decide
  have e2 : XX .i64 1 (IntKind.u64.wrap 6) = 64 := by decide
  rw [e1, e2]; show 0 ≤ v.fdiv 288230376151711744 ∧ v.fdiv 288230376151711744 < 64; rw [hd _ (by decide)]; omega
 ·have e1 : IntKind.u64.wrap (IntKind.i64.wrap (64 - 7)) = 57 := by decide
  have e2 : XX .i64 1 (IntKind.u64.wrap 7) = 128 := by decide
  rw [e1, e2]; show 0 ≤ v.fdiv 144115188075855872 ∧ v.fdiv 144115188075855872 < 128; rw [hd _ (by decide)]; omega
 ·have e1 : IntKind.u64.wrap (IntKind.i64.wrap (64 - 8)) = 56 := by decide
  have e2 : XX .i64 1 (IntKind.u64.wrap 8) = 256 := by decide
  rw [e1, e2]; show 0 ≤ v.fdiv 72057594037927936 ∧ v.fdiv 72057594037927936 < 256; rw [hd _ (by decide)]; omega
theorem sh0 {p : Int} (h : 2 ≤ p ∧ p ≤ 8) : 0 ≤ XX .i64 1 (IntKind.u64.wrap p) := by have := Pt h; omega
theorem sh1 {p : Int} (h : 2 ≤ p ∧ p ≤ 8) : 0 < XX .i64 1 (IntKind.u64.wrap p) := by have := Pt h; omega
theorem sh2 {p : Int} (h : 2 ≤ p ∧ p ≤ 8) : XX .i64 1 (IntKind.u64.wrap p) * ((8 : Nat) : Int) ≤ 140737488355328 := by have := Pt h; omega
theorem sh3 {p : Int} {α : Type} {x : α} (h : 2 ≤ p ∧ p ≤ 8) : (List.replicate (XX .i64 1 (IntKind.u64.wrap p)).toNat x).length ≤ 2000000 := by have := Pt h; rw [List.length_replicate]; omega
theorem sh4 {p : Int} {n : Nat} (e : (n : Int) = XX .i64 1 (IntKind.u64.wrap p)) (h : 2 ≤ p ∧ p ≤ 8) : n ≤ 256 := by have := Pt h; omega
theorem sr0 {p v : Int} (hp : 2 ≤ p ∧ p ≤ 8) (h : 0 ≤ v ∧ v ≤ 18446744073709551615) : 0 ≤ IntKind.i64.wrap (QC .u64 v (IntKind.u64.wrap (IntKind.i64.wrap (64 - p)))) := by
 have := Pt hp; have := Qvv hp h.1 h.2; rw [KI (by omega)]; omega
theorem sr1 {p v : Int} (hp : 2 ≤ p ∧ p ≤ 8) (h : 0 ≤ v ∧ v ≤ 18446744073709551615) : IntKind.i64.wrap (QC .u64 v (IntKind.u64.wrap (IntKind.i64.wrap (64 - p)))) < XX .i64 1 (IntKind.u64.wrap p) := by
 have := Pt hp; have := Qvv hp h.1 h.2; rw [KI (by omega)]; omega
theorem mu0 {a b : Int} (h1 : 1 ≤ a ∧ a ≤ 8) (h2 : 1 ≤ b ∧ b ≤ 64) : 0 ≤ IntKind.i64.wrap (a * b) := by have := Ng h1 h2; rw [KI (by omega)]; omega
theorem mu2 {a b : Int} (h1 : 1 ≤ a ∧ a ≤ 8) (h2 : 1 ≤ b ∧ b ≤ 64) : IntKind.i64.wrap (a * b) * ((8 : Nat) : Int) ≤ 140737488355328 := by have := Ng h1 h2; rw [KI (by omega)]; omega
theorem mu3 {a b : Int} {α : Type} {x : α} (h1 : 1 ≤ a ∧ a ≤ 8) (h2 : 1 ≤ b ∧ b ≤ 64) : (List.replicate (IntKind.i64.wrap (a * b)).toNat x).length ≤ 2000000 := by have := Ng h1 h2; rw [KI (by omega), List.length_replicate]; omega
theorem mu4 {a b l : Int} (e : l = IntKind.i64.wrap (a * b)) (h1 : 1 ≤ a ∧ a ≤ 8) (h2 : 1 ≤ b ∧ b ≤ 64) : l = a * b := by have := Ng h1 h2; rw [KI (by omega)] at e; exact e
theorem mu5 {a b : Int} {l : Nat} (e : (l : Int) = IntKind.i64.wrap (a * b)) (h1 : 1 ≤ a ∧ a ≤ 8) (h2 : 1 ≤ b ∧ b ≤ 64) : l ≤ 512 := by have := Ng h1 h2; rw [KI (by omega)] at e; omega
theorem ce_ {d s i v l : Int} (e : l = d * s) (h1 : 1 ≤ d ∧ d ≤ 8) (h2 : 1 ≤ s ∧ s ≤ 64) (hi : 0 ≤ i ∧ i < d) (hv : 0 ≤ v ∧ v < s) : 0 ≤ IntKind.i64.wrap (IntKind.i64.wrap (i * s) + v) ∧ IntKind.i64.wrap (IntKind.i64.wrap (i * s) + v) < l := by
 have hm := Ng h1 h2
 have p1 : 0 ≤ i * s := Int.mul_nonneg hi.1 (by omega)
 have p2 : (i + 1) * s ≤ d * s := Int.mul_le_mul_of_nonneg_right (by omega) (by omega)
 rw [Int.add_mul, Int.one_mul] at p2
 rw [KI (n := i * s) (by omega), KI (by omega)]
 omega
theorem ce0 {d s i v l : Int} (e : l = d * s) (h1 : 1 ≤ d ∧ d ≤ 8) (h2 : 1 ≤ s ∧ s ≤ 64) (hi : 0 ≤ i ∧ i < d) (hv : 0 ≤ v ∧ v < s) : 0 ≤ IntKind.i64.wrap (IntKind.i64.wrap (i * s) + v) := (ce_ e h1 h2 hi hv).1
theorem ce1 {d s i v l : Int} (e : l = d * s) (h1 : 1 ≤ d ∧ d ≤ 8) (h2 : 1 ≤ s ∧ s ≤ 64) (hi : 0 ≤ i ∧ i < d) (hv : 0 ≤ v ∧ v < s) : IntKind.i64.wrap (IntKind.i64.wrap (i * s) + v) < l := (ce_ e h1 h2 hi hv).2
theorem co_ {v c : Int} (h : 0 ≤ v) (hc : 1 ≤ c ∧ c ≤ 64) : 0 ≤ IntKind.i64.wrap (v.tmod (IntKind.u64.wrap c)) ∧ IntKind.i64.wrap (v.tmod (IntKind.u64.wrap c)) < c := by
 rw [Qk2 (n := c) (by omega), Ps h]
 have m0 := Int.emod_nonneg v (b := c) (by omega)
 have m1 := Int.emod_lt_of_pos v (b := c) (by omega)
 rw [KI (by omega)]
 exact ⟨m0, m1⟩
theorem co0 {v c : Int} (h : 0 ≤ v) (hc : 1 ≤ c ∧ c ≤ 64) : 0 ≤ IntKind.i64.wrap (v.tmod (IntKind.u64.wrap c)) := (co_ h hc).1
theorem co1 {v c : Int} (h : 0 ≤ v) (hc : 1 ≤ c ∧ c ≤ 64) : IntKind.i64.wrap (v.tmod (IntKind.u64.wrap c)) < c := (co_ h hc).2
theorem w8b {x : Int} : IntKind.u8.wrap x ≤ 255 := by simp [IntKind.wrap, IntKind.bits, IntKind.signed]; omega
theorem w8a {x : Int} : 0 ≤ IntKind.u8.wrap x := by simp [IntKind.wrap, IntKind.bits, IntKind.signed]; omega
theorem w8c {x : Int} : 0 ≤ IntKind.u8.wrap x ∧ IntKind.u8.wrap x ≤ 255 := ⟨w8a, w8b⟩
theorem sI_b {s : ByteArray} : ∀ x ∈ sI s, 0 ≤ x ∧ x ≤ 255 := by
 intro x hx
 simp only [sI, List.mem_map] at hx
 obtain ⟨y, _, rfl⟩ := hx
 have := y.toNat_lt; omega
theorem mu6 {a b : Int} (h1 : 0 ≤ a ∧ a ≤ 8) (h2 : 0 ≤ b ∧ b ≤ 64) : IntKind.i64.wrap (a * b) ≤ 512 := by
 have h : a = 0 ∨ a = 1 ∨ a = 2 ∨ a = 3 ∨ a = 4 ∨ a = 5 ∨ a = 6 ∨ a = 7 ∨ a = 8 := by omega
 rcases h with rfl | rfl | rfl | rfl | rfl | rfl | rfl | rfl | rfl <;> rw [KI (by omega)] <;> omega
theorem bo0 {a b : Int} : 0 ≤ bOr .u64 a b := (Dt _).1
theorem sz1 {l : List Int} {n : Nat} (h : l.length ≤ n) : (strOfNums l).size ≤ n := by simpa [strOfNums, ByteArray.size] using h
theorem sz0 : (⟨#[]⟩ : ByteArray).size ≤ 2000000 := by decide
theorem sh6 {p : Int} (h : 0 ≤ p ∧ p ≤ 8) : XX .i64 1 (IntKind.u64.wrap p) ≤ 512 := by
 have h : p = 0 ∨ p = 1 ∨ p = 2 ∨ p = 3 ∨ p = 4 ∨ p = 5 ∨ p = 6 ∨ p = 7 ∨ p = 8 := by omega
 rcases h with rfl | rfl | rfl | rfl | rfl | rfl | rfl | rfl | rfl <;> decide
theorem xr0 {a b : Int} : 0 ≤ O1 .u64 a b := (Dt _).1
theorem xr1 {a b : Int} : O1 .u64 a b ≤ 18446744073709551615 := (Dt _).2
theorem tm0 {a n : Int} (h : 0 ≤ a) : 0 ≤ a.tmod n := by rw [Ps h]; by_cases hn : n = 0; simp [hn, h]; exact Int.emod_nonneg _ hn
theorem tm1 {a n : Int} (h : 0 ≤ a) (hn : 0 < n) : a.tmod n < n := by rw [Ps h]; exact Int.emod_lt_of_pos _ hn
theorem tm2 {a n : Int} (h : 0 ≤ a) (hn : 0 < n) : a.tmod n ≤ n := Int.le_of_lt (tm1 h hn)
theorem GP {α : Type} {l : List α} {j : Nat} (h : j < l.length) : ix l (j : Int) l[j] := ⟨by omega, by simp [h]⟩
theorem sn0 {x j : Int} (h : 0 ≤ x) : 0 ≤ QC .i64 x j := Int.fdiv_nonneg h (Int.pow_nonneg (by decide))
theorem pig (l : List Int) (m : Nat) (h : ∀ k : Nat, k < m → ((k : Int) + 1) ∈ l) : m ≤ l.length := by
 induction m generalizing l with
 | zero => omega
 | succ m ih =>
  have hm := h m (by omega)
  have e := List.length_erase_of_mem hm
  have p := List.length_pos_of_mem hm
  have := ih (l.erase ((m : Int) + 1)) fun k hk => (List.mem_erase_of_ne (by omega)).2 (h k (by omega))
  omega
theorem Qyl {X c : Int} (h0 : 0 ≤ X) (h1 : X < 72057594037927936) (c0 : 0 ≤ c) (c1 : c ≤ 255) : bOr .u64 (XX .u64 X 8) (IntKind.u64.wrap c) = X * 256 + c := by
 rw [show XX .u64 X 8 = IntKind.u64.wrap (X * 256) from rfl, Qk2 (by omega), Qk2 (by omega)]
 exact bits_join .u64 64 (by decide) (fun n a b => by rw [IntKind.wrap_u64]; omega) 8 (X * 256) c (by omega) (by omega) (by omega) c0 (by omega) (by omega)
theorem p256 {k : Nat} (h : k ≤ 7) : (256 : Int) ^ k ≤ 72057594037927936 := by
 match k, h with
 | 0, _ => decide
 | 1, _ => decide
 | 2, _ => decide
 | 3, _ => decide
 | 4, _ => decide
 | 5, _ => decide
 | 6, _ => decide
 | 7, _ => decide
class Nx {R : Type} (W : (R → Prop) → Prop) (Pre : outParam Prop) (Post : outParam (R → Prop)) : Prop where
 go : Pre → ∃ r, Rr W r ∧ Post r
theorem Uf {R : Type} {W : (R → Prop) → Prop} {Pre : Prop} {Post : R → Prop} [g : Nx W Pre Post] {K : R → Prop} (h : Pre) (k : ∀ v, Rr W v → Post v → K v) : ∃ v, Rr W v ∧ K v := let ⟨v, h1, h2⟩ := g.go h; ⟨v, h1, k v h1 h2⟩
theorem nxg {R : Type} [Inhabited R] {W : (R → Prop) → Prop} {Pre : Prop} {Post : R → Prop} [g : Nx W Pre Post] {c : Prop} {K : R → Prop} (h : c → Pre) (k : ∀ v, (c → Rr W v) → (c → Post v) → K v) : ∃ v, (c → Rr W v) ∧ K v := by
 by_cases hc : c
 ·obtain ⟨v, h1, h2⟩ := g.go (h hc); exact ⟨v, fun _ => h1, k v (fun _ => h1) fun _ => h2⟩
 ·exact ⟨default, fun h => absurd h hc, k _ (fun h => absurd h hc) fun h => absurd h hc⟩
theorem IS {a b : Bool} : (bif a then b else false) = (a && b) := by cases a <;> rfl
theorem Du {a b : Bool} : (bif a then true else b) = (a || b) := by cases a <;> rfl
theorem ZX {c : Bool} {A B : Prop} (h1 : c = true → A) (h2 : c = false → B) : ct c A B := ⟨h1, h2⟩
theorem joi {α : Type} {S : α → St → Option St} {k : α → Prop} {m : (α → Prop) → Prop} (h : m k) : jo S k m := h
theorem Iq {α : Type} {S : α → St → Option St} {k : α → Prop} {m : (α → Prop) → Prop} (P : α → Prop) (h1 : ∀ p, P p → k p) (h2 : ∀ J : α → Prop, (∀ p, P p → J p) → m J) : jo S k m := h2 k h1
theorem CZ {α : Sort _} {x : α} {K : Prop} (h : K) : Qg x K := h
theorem NT {A B K : Prop} (h : A → B → K) : A ∧ B → K := fun x => h x.1 x.2
def Jp {σ : Type} (X : σ → Prop) : σ → Prop := X
theorem idJ {σ : Type} {X : σ → Prop} {s : σ} (h : Jp X s) : Jp X s := h
theorem lvi {σ : Type} {I : σ → Prop} {m : σ → Nat} {S : σ → St → Option St} {step : (σ → Prop) → σ → Prop} {s : σ} (h0 : I s) (h : ∀ s, I s → ∀ X : σ → Prop, (∀ s', I s' → m s' < m s → Jp X s') → step (Jp X) s) : lv I m S step s :=
 Cp (I := fun k s => I s ∧ k = m s) (fun k s ⟨hi, hk⟩ X hX => h s hi X fun s' hi' hm => hX (m s') s' (by rw [hk]; exact hm) ⟨hi', rfl⟩) ⟨h0, rfl⟩
theorem ixi {α : Type} {L : List α} {n : Int} {K : α → Prop} (h : 0 ≤ n ∧ n < (L.length : Int)) (k : ∀ v, 0 ≤ n → L[n.toNat]? = some v → v ∈ L → K v) : ∃ v, ix L n v ∧ K v := by
 have h2 : n.toNat < L.length := by omega
 exact ⟨L[n.toNat], ⟨h.1, by simp [h2]⟩, k _ h.1 (by simp [h2]) (List.getElem_mem h2)⟩
theorem ixq {α : Type} {P : α → Prop} {L : List α} {n : Int} {K : α → Prop} (hP : ∀ x ∈ L, P x) (h : 0 ≤ n ∧ n < (L.length : Int)) (k : ∀ v, 0 ≤ n → L[n.toNat]? = some v → v ∈ L → P v → K v) : ∃ v, ix L n v ∧ K v := ixi h fun v h0 h1 h2 => k v h0 h1 h2 (hP v h2)
theorem ixg {α : Type} [Inhabited α] {L : List α} {n : Int} {c : Prop} {K : α → Prop} (h : c → 0 ≤ n ∧ n < (L.length : Int)) (k : ∀ v, (c → ix L n v) → (c → v ∈ L) → K v) : ∃ v, (c → ix L n v) ∧ K v := by
 by_cases hc : c
 ·obtain ⟨v, h1, h2⟩ := ixi (K := fun v => v ∈ L) (h hc) fun v _ _ h => h
  exact ⟨v, fun _ => h1, k v (fun _ => h1) fun _ => h2⟩
 ·exact ⟨default, fun h => absurd h hc, k _ (fun h => absurd h hc) fun h => absurd h hc⟩
theorem bxi {s : ByteArray} {n : Int} {K : Int → Prop} (h : 0 ≤ n ∧ n < (s.size : Int)) (k : ∀ v, bx s n v → 0 ≤ v → v ≤ 255 → K v) : ∃ v, bx s n v ∧ K v := by
 have h2 : n.toNat < s.size := by omega
 have h3 : (s[n.toNat].toNat : Int) ≤ 255 := by have := s[n.toNat].toNat_lt; omega
 exact ⟨s[n.toNat].toNat, ⟨h.1, s[n.toNat], by simp [h2], rfl⟩, k _ ⟨h.1, s[n.toNat], by simp [h2], rfl⟩ (by omega) h3⟩
theorem bxg {s : ByteArray} {n : Int} {c : Prop} {K : Int → Prop} (h : c → 0 ≤ n ∧ n < (s.size : Int)) (k : ∀ v, (c → bx s n v) → (c → 0 ≤ v ∧ v ≤ 255) → K v) : ∃ v, (c → bx s n v) ∧ K v := by
 by_cases hc : c
 ·obtain ⟨v, h1, h2⟩ := bxi (K := fun v => 0 ≤ v ∧ v ≤ 255) (h hc) fun v _ h1 h2 => ⟨h1, h2⟩
  exact ⟨v, fun _ => h1, k v (fun _ => h1) fun _ => h2⟩
 ·exact ⟨0, fun h => absurd h hc, k _ (fun h => absurd h hc) fun h => absurd h hc⟩
theorem Qk4 {α : Type} {x : α} {n : Nat} {l : List α} (h : x ∈ List.take n l) : x ∈ l := List.mem_of_mem_take h
theorem Qk5 {α : Type} {x : α} {n : Nat} {l : List α} (h : x ∈ List.drop n l) : x ∈ l := List.mem_of_mem_drop h
theorem Yz {α : Type} {P : α → Prop} {a b : List α} (h1 : ∀ x ∈ a, P x) (h2 : ∀ x ∈ b, P x) : ∀ x ∈ a ++ b, P x := fun x h => (List.mem_append.1 h).elim (h1 x) (h2 x)
theorem XO {α : Type} {P : α → Prop} {a : α} (h : P a) : ∀ x ∈ [a], P x := fun x hx => by rw [List.mem_singleton.1 hx]; exact h
theorem Qcl {α : Type} {P : α → Prop} {a : α} {l : List α} (h : P a) (k : ∀ x ∈ l, P x) : ∀ x ∈ a :: l, P x := fun x hx => (List.mem_cons.1 hx).elim (fun e => e ▸ h) (k x)
theorem VT {α : Type} {P : α → Prop} : ∀ x ∈ ([] : List α), P x := fun x hx => absurd hx (by simp)
theorem TU {α : Type} {P : α → Prop} {n : Nat} {l : List α} (h : ∀ x ∈ l, P x) : ∀ x ∈ List.take n l, P x := fun x hx => h x (Qk4 hx)
theorem TW {α : Type} {P : α → Prop} {n : Nat} {l : List α} (h : ∀ x ∈ l, P x) : ∀ x ∈ List.drop n l, P x := fun x hx => h x (Qk5 hx)
theorem YI {α : Type} {P : α → Prop} {n : Nat} {l : List α} {a : α} (h : ∀ x ∈ l, P x) (ha : P a) : ∀ x ∈ List.set l n a, P x := fun x hx => (List.mem_or_eq_of_mem_set hx).elim (h x) fun e => e ▸ ha
theorem Q9x {α : Type} {P : α → Prop} {a b : List α} (h : ∀ x ∈ b, P x) (hs : ∀ x ∈ a, x ∈ b) : ∀ x ∈ a, P x := fun x hx => h x (hs x hx)
theorem Nh {α : Type} {P : α → Prop} {n : Nat} {a : α} (h : P a) : ∀ x ∈ List.replicate n a, P x := fun x hx => by rw [List.eq_of_mem_replicate hx]; exact h
theorem Qvw {α : Type} {P : α → Prop} {n : Nat} {l : List α} {a b : α} (h : ∀ x ∈ List.set l n b, P x) : ∀ x ∈ List.set (List.set l n a) n b, P x := by rw [List.set_set]; exact h
theorem ixs {α : Type} {L : List α} {n : Int} {v0 : α} {K : α → Prop} (h1 : L[n.toNat]? = some v0) (h0 : 0 ≤ n) (k : K v0) : ∃ v, ix L n v ∧ K v := ⟨v0, ⟨h0, h1⟩, k⟩
theorem ixt {α : Type} {L : List α} {n : Int} {c : Prop} {v0 : α} {K : α → Prop} (h1 : L[n.toNat]? = some v0) (h0 : 0 ≤ n) (k : K v0) : ∃ v, (c → ix L n v) ∧ K v := ⟨v0, fun _ => ⟨h0, h1⟩, k⟩
theorem Qvx {α : Type} {P : α → Prop} {l : List α} : ∀ x ∈ List.take (Int.toNat 0) l, P x := fun x h => absurd h (by simp)
theorem Qvy {α : Type} {P : α → Prop} {l : List α} {n m : Int} {v : α} (h : ∀ x ∈ List.take n.toNat l, P x) (hv : l[n.toNat]? = some v) (h0 : 0 ≤ n) (hp : P v) (hm : m = n + 1) : ∀ x ∈ List.take m.toNat l, P x := by
 have e : m.toNat = n.toNat + 1 := by omega
 rw [e, List.take_add_one, hv]
 intro x hx
 rcases List.mem_append.1 hx with hx | hx
 ·exact h x hx
 ·simp at hx; subst hx; exact hp
theorem Qvz {α : Type} {P : α → Prop} {l : List α} {n : Int} (h : ∀ x ∈ List.take n.toNat l, P x) (hn : (l.length : Int) ≤ n) : ∀ x ∈ l, P x := by
 rw [List.take_of_length_le (by omega)] at h; exact h
theorem fwm {α : Type} {P : α → Prop} {L : List α} {x : α} {K : Prop} (hP : ∀ y ∈ L, P y) (h : x ∈ L) (k : P x → K) : K := k (hP x h)
theorem Qk6 (s : ByteArray) : (sI s).length = s.size := by simp [sI]
theorem OQ (a b : Int) : JE a b = min a b := by unfold JE; split <;> omega
theorem A4 (a b : Int) : KH a b = max a b := by unfold KH; split <;> omega
theorem fwd {p q K : Prop} (f : p → q) (h : p) (k : q → K) : K := k (f h)
theorem Qcm {α : Type} {l : List α} : ∀ x ∈ l, x ∈ l := fun _ h => h
theorem xx_ {p : Prop} (h : p := by
  repeat (first | with_reducible refine NT ?_ | (with_reducible intro h; first | subst h | (simp only [decide_eq_true_eq, decide_eq_false_iff_not, Bool.not_eq_eq_eq_not, Bool.not_true, Bool.not_false, IS, Du, Bool.and_eq_true, Bool.or_eq_true, Bool.or_eq_false_iff, Bool.and_eq_false_imp, beq_iff_eq, bne_iff_ne, beq_eq_false_iff_ne, bne_eq_false_iff_eq, Bool.true_eq_false, Bool.false_eq_true, reduceCtorEq, ix] at h) | skip))
  repeat' first
    | with_reducible assumption
    | (with_reducible refine ZX (fun h => ?_) (fun h => ?_)
       all_goals first | (simp only [decide_eq_true_eq, decide_eq_false_iff_not, Bool.not_eq_eq_eq_not, Bool.not_true, Bool.not_false, IS, Du, Bool.and_eq_true, Bool.or_eq_true, Bool.or_eq_false_iff, Bool.and_eq_false_imp, beq_iff_eq, bne_iff_ne, beq_eq_false_iff_ne, bne_eq_false_iff_eq, Bool.true_eq_false, Bool.false_eq_true, reduceCtorEq, ix] at h) | skip
       all_goals first | (with_reducible refine fwd (by with_reducible assumption) h ?_; repeat (first | with_reducible refine NT ?_ | (with_reducible intro h; first | subst h | (simp only [decide_eq_true_eq, decide_eq_false_iff_not, Bool.not_eq_eq_eq_not, Bool.not_true, Bool.not_false, IS, Du, Bool.and_eq_true, Bool.or_eq_true, Bool.or_eq_false_iff, Bool.and_eq_false_imp, beq_iff_eq, bne_iff_ne, beq_eq_false_iff_ne, bne_eq_false_iff_eq, Bool.true_eq_false, Bool.false_eq_true, reduceCtorEq, ix] at h) | skip))) | skip)
    | with_reducible refine CZ ?_
    | with_reducible refine joi ?_
    | (with_reducible apply lvi
       case' h => (repeat (first | with_reducible refine NT ?_ | (with_reducible intro h; first | subst h | (simp only [decide_eq_true_eq, decide_eq_false_iff_not, Bool.not_eq_eq_eq_not, Bool.not_true, Bool.not_false, IS, Du, Bool.and_eq_true, Bool.or_eq_true, Bool.or_eq_false_iff, Bool.and_eq_false_imp, beq_iff_eq, bne_iff_ne, beq_eq_false_iff_ne, bne_eq_false_iff_eq, Bool.true_eq_false, Bool.false_eq_true, reduceCtorEq, ix] at h) | skip))))
    | (with_reducible apply Uf
       case' k => (repeat (first | with_reducible refine NT ?_ | (with_reducible intro h; first | subst h | (simp only [decide_eq_true_eq, decide_eq_false_iff_not, Bool.not_eq_eq_eq_not, Bool.not_true, Bool.not_false, IS, Du, Bool.and_eq_true, Bool.or_eq_true, Bool.or_eq_false_iff, Bool.and_eq_false_imp, beq_iff_eq, bne_iff_ne, beq_eq_false_iff_ne, bne_eq_false_iff_eq, Bool.true_eq_false, Bool.false_eq_true, reduceCtorEq, ix] at h) | skip))))
    | with_reducible refine ixs (by with_reducible assumption) (by with_reducible assumption) ?_
    | with_reducible refine ixt (by with_reducible assumption) (by with_reducible assumption) ?_
    | (with_reducible apply ixq (by with_reducible assumption)
       case' k => (repeat (first | with_reducible refine NT ?_ | (with_reducible intro h; first | subst h | (simp only [decide_eq_true_eq, decide_eq_false_iff_not, Bool.not_eq_eq_eq_not, Bool.not_true, Bool.not_false, IS, Du, Bool.and_eq_true, Bool.or_eq_true, Bool.or_eq_false_iff, Bool.and_eq_false_imp, beq_iff_eq, bne_iff_ne, beq_eq_false_iff_ne, bne_eq_false_iff_eq, Bool.true_eq_false, Bool.false_eq_true, reduceCtorEq, ix] at h) | skip))))
    | (with_reducible apply ixi
       case' k => (repeat (first | with_reducible refine NT ?_ | (with_reducible intro h; first | subst h | (simp only [decide_eq_true_eq, decide_eq_false_iff_not, Bool.not_eq_eq_eq_not, Bool.not_true, Bool.not_false, IS, Du, Bool.and_eq_true, Bool.or_eq_true, Bool.or_eq_false_iff, Bool.and_eq_false_imp, beq_iff_eq, bne_iff_ne, beq_eq_false_iff_ne, bne_eq_false_iff_eq, Bool.true_eq_false, Bool.false_eq_true, reduceCtorEq, ix] at h) | skip))))
    | (with_reducible apply bxi
       case' k => (repeat (first | with_reducible refine NT ?_ | (with_reducible intro h; first | subst h | (simp only [decide_eq_true_eq, decide_eq_false_iff_not, Bool.not_eq_eq_eq_not, Bool.not_true, Bool.not_false, IS, Du, Bool.and_eq_true, Bool.or_eq_true, Bool.or_eq_false_iff, Bool.and_eq_false_imp, beq_iff_eq, bne_iff_ne, beq_eq_false_iff_ne, bne_eq_false_iff_eq, Bool.true_eq_false, Bool.false_eq_true, reduceCtorEq, ix] at h) | skip))))
    | (with_reducible apply nxg
       case' k => (repeat (first | with_reducible refine NT ?_ | (with_reducible intro h; first | subst h | (simp only [decide_eq_true_eq, decide_eq_false_iff_not, Bool.not_eq_eq_eq_not, Bool.not_true, Bool.not_false, IS, Du, Bool.and_eq_true, Bool.or_eq_true, Bool.or_eq_false_iff, Bool.and_eq_false_imp, beq_iff_eq, bne_iff_ne, beq_eq_false_iff_ne, bne_eq_false_iff_eq, Bool.true_eq_false, Bool.false_eq_true, reduceCtorEq, ix] at h) | skip))))
    | (with_reducible apply ixg
       case' k => (repeat (first | with_reducible refine NT ?_ | (with_reducible intro h; first | subst h | (simp only [decide_eq_true_eq, decide_eq_false_iff_not, Bool.not_eq_eq_eq_not, Bool.not_true, Bool.not_false, IS, Du, Bool.and_eq_true, Bool.or_eq_true, Bool.or_eq_false_iff, Bool.and_eq_false_imp, beq_iff_eq, bne_iff_ne, beq_eq_false_iff_ne, bne_eq_false_iff_eq, Bool.true_eq_false, Bool.false_eq_true, reduceCtorEq, ix] at h) | skip))))
    | (with_reducible apply bxg
       case' k => (repeat (first | with_reducible refine NT ?_ | (with_reducible intro h; first | subst h | (simp only [decide_eq_true_eq, decide_eq_false_iff_not, Bool.not_eq_eq_eq_not, Bool.not_true, Bool.not_false, IS, Du, Bool.and_eq_true, Bool.or_eq_true, Bool.or_eq_false_iff, Bool.and_eq_false_imp, beq_iff_eq, bne_iff_ne, beq_eq_false_iff_ne, bne_eq_false_iff_eq, Bool.true_eq_false, Bool.false_eq_true, reduceCtorEq, ix] at h) | skip))))
    | with_reducible refine And.intro ?_ ?_
    | dsimp only
    | with_reducible refine sh0 ?_
    | with_reducible refine sh1 ?_
    | with_reducible refine sh2 ?_
    | with_reducible refine sh3 ?_
    | with_reducible refine sh4 (by with_reducible assumption) ?_
    | with_reducible refine sr0 ?_ ?_
    | with_reducible refine sr1 ?_ ?_
    | with_reducible refine mu0 ?_ ?_
    | with_reducible refine mu2 ?_ ?_
    | with_reducible refine mu3 ?_ ?_
    | with_reducible refine mu4 (by with_reducible assumption) ?_ ?_
    | with_reducible refine mu5 (by with_reducible assumption) ?_ ?_
    | with_reducible refine ce0 (by with_reducible assumption) ?_ ?_ ?_ ?_
    | with_reducible refine ce1 (by with_reducible assumption) ?_ ?_ ?_ ?_
    | with_reducible refine co0 ?_ ?_
    | with_reducible refine co1 ?_ ?_
    | with_reducible exact xr0
    | with_reducible exact w8a
    | with_reducible exact sz0
    | with_reducible refine sz1 ?_
    | with_reducible refine sh6 ?_
    | with_reducible exact w8b
    | with_reducible exact bo0
    | with_reducible refine mu6 ?_ ?_
    | with_reducible exact A4 _ _
    | with_reducible exact sI_b
    | with_reducible exact xr1
    | with_reducible refine tm0 ?_
    | with_reducible refine tm1 ?_ ?_
    | with_reducible refine tm2 ?_ ?_
    | (simp only [List.length_replicate, Int.reduceToNat]; done)
    | with_reducible refine Yz ?_ ?_
    | with_reducible refine XO ?_
    | with_reducible refine Qcl ?_ ?_
    | with_reducible exact VT
    | with_reducible exact Qvx
    | with_reducible refine Qvy (by with_reducible assumption) (by with_reducible assumption) (by with_reducible assumption) ?_ ?_
    | with_reducible refine TU ?_
    | with_reducible refine Qvz (by with_reducible assumption) ?_
    | with_reducible refine TW ?_
    | with_reducible refine Qvw ?_
    | with_reducible refine YI ?_ ?_
    | with_reducible exact Qcm
    | with_reducible refine Nh ?_
    | exact Or.inl (by with_reducible assumption)
    | exact Or.inr (by with_reducible assumption)
    | with_reducible refine Or.inr ?_
    | with_reducible refine NT ?_
    | (with_reducible intro h
       first | subst h | (simp only [decide_eq_true_eq, decide_eq_false_iff_not, Bool.not_eq_eq_eq_not, Bool.not_true, Bool.not_false, IS, Du, Bool.and_eq_true, Bool.or_eq_true, Bool.or_eq_false_iff, Bool.and_eq_false_imp, beq_iff_eq, bne_iff_ne, beq_eq_false_iff_ne, bne_eq_false_iff_eq, Bool.true_eq_false, Bool.false_eq_true, reduceCtorEq, ix] at h) | skip
       first | (with_reducible refine fwm (by with_reducible assumption) h ?_; repeat (first | with_reducible refine NT ?_ | (with_reducible intro h; first | subst h | (simp only [decide_eq_true_eq, decide_eq_false_iff_not, Bool.not_eq_eq_eq_not, Bool.not_true, Bool.not_false, IS, Du, Bool.and_eq_true, Bool.or_eq_true, Bool.or_eq_false_iff, Bool.and_eq_false_imp, beq_iff_eq, bne_iff_ne, beq_eq_false_iff_ne, bne_eq_false_iff_eq, Bool.true_eq_false, Bool.false_eq_true, reduceCtorEq, ix] at h) | skip))) | (with_reducible refine fwd (by with_reducible assumption) h ?_; repeat (first | with_reducible refine NT ?_ | (with_reducible intro h; first | subst h | (simp only [decide_eq_true_eq, decide_eq_false_iff_not, Bool.not_eq_eq_eq_not, Bool.not_true, Bool.not_false, IS, Du, Bool.and_eq_true, Bool.or_eq_true, Bool.or_eq_false_iff, Bool.and_eq_false_imp, beq_iff_eq, bne_iff_ne, beq_eq_false_iff_ne, bne_eq_false_iff_eq, Bool.true_eq_false, Bool.false_eq_true, reduceCtorEq, ix] at h) | skip))) | skip)
    | (with_reducible refine idJ ?_
       with_reducible apply_assumption only [*])
    | omega
    | (simp only [zSn, zE, zI, zCm, zLl, zB, zP, Mp, okV, oB, IntKind.wrap_i64, IntKind.wrap_u64, oN, oK, oE, Qk6, A4, OQ, ByteArray.size_empty, List.length_append, List.length_cons, List.length_nil, List.length_set, List.length_map, List.length_take, List.length_drop] at *; first | omega | grind)
    | with_reducible exact trivial
    | (simp only [zSn, zE, zI, zCm, zLl, zB, zP, Mp, okV, List.length_nil, ByteArray.size_empty]; done)
    | (simp only [zSn, zE, zI, zCm, zLl, zB, zP, Mp, okV, List.length_nil, ByteArray.size_empty]; omega)
    | with_reducible rfl
    | grind
    | (with_reducible apply_assumption only [*]
       all_goals first | with_reducible assumption | omega | (simp only [Bool.not_eq_true, Bool.not_eq_false, decide_eq_true_eq, decide_eq_false_iff_not]; omega))
  all_goals fail) : p := h
theorem Zp {R : Type} {W W' : (R → Prop) → Prop} [Gm W] {Pre : Prop} {Post : R → Prop} (hW : ∀ Q, W Q = W' Q) (h : Pre → W' Post := by exact xx_) : Nx W Pre Post := ⟨fun hp => ex_ (by rw [hW]; exact h hp)⟩
theorem nxb {R : Type} {W W' : (R → Prop) → Prop} [Gm W] {Pre : Prop} {Post : R → Prop} (hW : ∀ Q, W Q = W' Q) (h : Pre → W' Post := by (first | simp only [bA1, bA3, bA7, bA15, bA31, bA63, Qk1, Qrt, Lo] | skip); exact xx_) : Nx W Pre Post := Zp hW h
def TX (f t c : Int) : Bool := decide (f ≤ c) && (decide (c < t) || t == 0)
def bnF (s : ByteArray) (c : Int) (b : Qn) : Bool := b.fd2.toList == s.toList && TX b.fd5 b.fTo c
def veF (c : Int) (v : Qs) : Bool := TX v.fd5 v.fTo c
def obF (id : Int) (o : Qw) : Bool := o.fID == id
def view (s : Q2) (name : ByteArray) (c : Int) : Option (Int × Qs) :=
 (s.fb4.find? (bnF name c)).bind fun b => (s.fa6.find? (obF b.fb8)).bind fun o => (o.fc0.find? (veF c)).map fun v => (o.fID, v)
theorem Qrv {α : Type} {l : List α} {f : α → Bool} {j : Nat} {x : α} (h : ∀ y ∈ l.take j, f y = false) (hx : l[j]? = some x) (hf : f x = true) : l.find? f = some x := by
 obtain ⟨hj, e⟩ := List.getElem?_eq_some_iff.1 hx
 have : l = l.take j ++ x :: l.drop (j + 1) := by rw [← e, List.getElem_cons_drop, List.take_append_drop]
 rw [this, List.find?_append, List.find?_eq_none.2 (fun y hy => by rw [h y hy]; simp)]
 simp [hf]
theorem Qrw {α : Type} {l : List α} {f : α → Bool} (h : ∀ y ∈ l.take l.length, f y = false) : l.find? f = none := by
 rw [List.take_length] at h
 exact List.find?_eq_none.2 fun y hy => by rw [h y hy]; simp
theorem Qrx {α : Type} {l : List α} {f : α → Bool} {j : Nat} {x : α} (h : ∀ y ∈ l.take j, f y = false) (hx : l[j]? = some x) (hf : f x = false) : ∀ y ∈ l.take (j + 1), f y = false := by
 rw [List.take_add_one, hx]
 intro y hy
 rcases List.mem_append.1 hy with hy | hy
 ·exact h y hy
 ·simp at hy; subst hy; exact hf
theorem Q9y {α : Type} {l : List α} (hl : l.length ≤ 4611686018427387904) (f : α → Bool) {B : (Int → Prop) → Int → Prop} {J : Prop}
  (hB : ∀ (j : Nat) x, l[j]? = some x → ix l (j : Int) x → (f x = true → l.find? f = some x) → ∀ X : Int → Prop, (f x = false → X (IntKind.i64.wrap ((j : Int) + 1))) → B X (j : Int)) (hJ : l.find? f = none → J) :
  lp (fun X s => ct (decide (s < (l.length : Int))) (B X s) J) 0 := by
 refine Cp (I := fun n s => ∃ j : Nat, s = (j : Int) ∧ j ≤ l.length ∧ n = l.length - j ∧ ∀ y ∈ l.take j, f y = false) ?_ (k := l.length) ⟨0, rfl, by omega, by omega, by simp⟩
 rintro n s ⟨j, rfl, hj, hn, hi⟩ X hX
 refine ⟨fun c => ?_, fun c => ?_⟩
 ·have hj2 : j < l.length := by simpa using c
  have hx : l[j]? = some l[j] := by simp [hj2]
  refine hB j l[j] hx (GP hj2) (Qrv hi hx) X fun hf => ?_
  rw [KI (by omega)]
  exact hX (l.length - (j + 1)) _ (by omega) ⟨j + 1, by simp, by omega, rfl, Qrx hi hx hf⟩
 ·have : j = l.length := by simp at c; omega
  subst this
  exact hJ (Qrw hi)
structure Sv (s : Q2) : Prop where
 bt : ∀ b ∈ s.fb4, b.fTo = 0 ∨ b.fTo ≤ s.f9
 vt : ∀ o ∈ s.fa6, ∀ v ∈ o.fc0, v.fTo = 0 ∨ v.fTo ≤ s.f9
 id : s.fa6.Pairwise fun a b => a.fID ≠ b.fID
 la : ∀ o ∈ s.fa6, o.fID ≤ s.ff3
 l0 : 0 ≤ s.ff3
 lc : s.ff3 ≤ s.f9
structure Kp (s t : Q2) : Prop where
 c : t.f9 = s.f9
 g : t.fk = s.fk
 v : ∀ n, view t n t.f9 = view s n s.f9
theorem Kp.refl (s : Q2) : Kp s s := ⟨rfl, rfl, fun _ => rfl⟩
theorem Kp.trans {s t u : Q2} (h : Kp s t) (k : Kp t u) : Kp s u := ⟨k.c.trans h.c, k.g.trans h.g, fun n => (k.v n).trans (h.v n)⟩
theorem Kp.of {s t : Q2} (h1 : t.f9 = s.f9) (h2 : t.fk = s.fk) (h3 : t.fb4 = s.fb4) (h4 : t.fa6 = s.fa6) : Kp s t := ⟨h1, h2, fun n => by unfold view; rw [h1, h3, h4]⟩
theorem Sv.of {s t : Q2} (h : Sv s) (h1 : t.f9 = s.f9) (h3 : t.fb4 = s.fb4) (h4 : t.fa6 = s.fa6) (h5 : t.ff3 = s.ff3) : Sv t := { bt := by rw [h1, h3]; exact h.bt, vt := by rw [h1, h4]; exact h.vt, id := by rw [h4]; exact h.id, la := by rw [h4, h5]; exact h.la, l0 := by rw [h5]; exact h.l0, lc := by rw [h1, h5]; exact h.lc }
theorem NU {α : Type} {l m : List α} {f q : α → Bool} (h : l.filter q = m.filter q) (hl : ∀ x ∈ l, f x = true → q x = true) (hm : ∀ x ∈ m, f x = true → q x = true) : l.find? f = m.find? f := by
 have key : ∀ (l : List α), (∀ x ∈ l, f x = true → q x = true) → l.find? f = (l.filter q).find? f := by
  intro l hl
  rw [List.find?_filter]
  induction l with
  | nil => rfl
  | cons a l ih =>
   simp only [List.find?_cons]
   have ha := hl a (by simp)
   have := ih fun x hx => hl x (by simp [hx])
   cases hf : f a with
   | true => simp [ha hf]
   | false => simpa using this
 rw [key l hl, key m hm, h]
def Lp (b : Qn) : Bool := b.fTo == 0
def Q17 (v : Qs) : Bool := v.fTo == 0
theorem Qco {s : Q2} (h : ∀ b ∈ s.fb4, b.fTo = 0 ∨ b.fTo ≤ s.f9) {n : ByteArray} {b : Qn} (hb : b ∈ s.fb4) (hf : bnF n s.f9 b = true) : Lp b = true := by
 unfold bnF TX at hf
 unfold Lp
 simp only [Bool.and_eq_true, Bool.or_eq_true, decide_eq_true_eq, beq_iff_eq] at hf ⊢
 rcases h b hb with h | h
 ·exact h
 ·rcases hf.2.2 with k | k
  ·omega
  ·exact k
theorem Qcp {c : Int} {l : List Qs} (h : ∀ v ∈ l, v.fTo = 0 ∨ v.fTo ≤ c) {v : Qs} (hv : v ∈ l) (hf : veF c v = true) : Q17 v = true := by
 unfold veF TX at hf
 unfold Q17
 simp only [Bool.and_eq_true, Bool.or_eq_true, decide_eq_true_eq, beq_iff_eq] at hf ⊢
 rcases h v hv with h | h
 ·exact h
 ·rcases hf.2 with k | k
  ·omega
  ·exact k
theorem Qk8 {s : Q2} (h : Sv s) {l : List Qn} (hm : ∀ b ∈ l, b ∈ s.fb4) (hf : l.filter Lp = s.fb4.filter Lp) : Kp s { s with fb4 := l } ∧ Sv { s with fb4 := l } := by
 refine ⟨⟨rfl, rfl, fun n => ?_⟩, { bt := fun b hb => h.bt b (hm b hb), vt := h.vt, id := h.id, la := h.la, l0 := h.l0, lc := h.lc }⟩
 unfold view
 dsimp only
 rw [NU (q := Lp) (m := s.fb4) hf (fun x hx e => Qco h.bt (hm x hx) e) (fun x hx e => Qco h.bt hx e)]
theorem Q5p {l : List Qw} {i : Nat} {o o' : Qw} (ho : l[i]? = some o) (he : o'.fID = o.fID) (id : Int) (hd : l.Pairwise fun a b => a.fID ≠ b.fID) : (l.set i o').find? (obF id) = (if o.fID = id then some o' else l.find? (obF id)) := by
 induction l generalizing i with
 | nil => simp at ho
 | cons a l ih =>
  cases i with
  | zero =>
   simp at ho; subst ho
   simp only [List.set_cons_zero, List.find?_cons, obF, he]
   by_cases e : a.fID = id
   ·simp [e]
   ·have e2 : (a.fID == id) = false := by simpa using e
    simp [e2, e]
  | succ i =>
   simp only [List.getElem?_cons_succ] at ho
   have hd' := List.pairwise_cons.1 hd
   have ne : a.fID ≠ o.fID := hd'.1 o (List.mem_of_getElem? ho)
   simp only [List.set_cons_succ, List.find?_cons, obF]
   have := ih ho hd'.2
   by_cases e : a.fID = id
   ·have e2 : ¬ o.fID = id := fun h => ne (by rw [e, h])
    simp [e, e2]
   ·have e2 : (a.fID == id) = false := by simpa using e
    simp only [e2]
    exact this
theorem Qk9 {l : List Qw} {i : Nat} {o : Qw} (ho : l[i]? = some o) (id : Int) (hd : l.Pairwise fun a b => a.fID ≠ b.fID) : (l.eraseIdx i).find? (obF id) = (if o.fID = id then none else l.find? (obF id)) := by
 induction l generalizing i with
 | nil => simp at ho
 | cons a l ih =>
  have hd' := List.pairwise_cons.1 hd
  cases i with
  | zero =>
   simp at ho; subst ho
   simp only [List.eraseIdx_cons_zero, List.find?_cons, obF]
   by_cases e : a.fID = id
   ·simp only [e, if_true]
    exact List.find?_eq_none.2 fun x hx => by
     have := hd'.1 x hx
     unfold obF
     simp only [beq_iff_eq]
     exact fun h => this (by rw [e, h])
   ·have e2 : (a.fID == id) = false := by simpa using e
    simp [e2, e]
  | succ i =>
   simp only [List.getElem?_cons_succ] at ho
   have ne : a.fID ≠ o.fID := hd'.1 o (List.mem_of_getElem? ho)
   simp only [List.eraseIdx_cons_succ, List.find?_cons, obF]
   have := ih ho hd'.2
   by_cases e : a.fID = id
   ·have e2 : ¬ o.fID = id := fun h => ne (by rw [e, h])
    simp [e, e2]
   ·have e2 : (a.fID == id) = false := by simpa using e
    simp only [e2]
    exact this
theorem Qry {bs : List Qn} {os os' : List Qw} {c : Int} (h : ∀ id, (os'.find? (obF id)).bind (fun o => (o.fc0.find? (veF c)).map fun v => (o.fID, v)) = (os.find? (obF id)).bind (fun o => (o.fc0.find? (veF c)).map fun v => (o.fID, v))) (n : ByteArray) : (bs.find? (bnF n c)).bind (fun b => (os'.find? (obF b.fb8)).bind fun o => (o.fc0.find? (veF c)).map fun v => (o.fID, v)) = (bs.find? (bnF n c)).bind (fun b => (os.find? (obF b.fb8)).bind fun o => (o.fc0.find? (veF c)).map fun v => (o.fID, v)) := by
 cases bs.find? (bnF n c) with
 | none => rfl
 | some b => exact h b.fb8
theorem Q9z {l : List Qw} {i : Nat} {o o' : Qw} (ho : l[i]? = some o) (he : o'.fID = o.fID) (hd : l.Pairwise fun a b => a.fID ≠ b.fID) : (l.set i o').Pairwise fun a b => a.fID ≠ b.fID := by
 have e : (l.set i o').map (·.fID) = l.map (·.fID) := by
  rw [List.map_set, he]
  apply List.ext_getElem?
  intro k
  rw [List.getElem?_set]
  split
  ·rename_i hk
   subst hk
   simp [ho]
   exact (List.getElem?_eq_some_iff.1 ho).1
  ·rfl
 have hd2 : (l.map (·.fID)).Pairwise (· ≠ ·) := List.pairwise_map.2 hd
 rw [← e] at hd2
 exact List.pairwise_map.1 hd2
theorem Qek {s : Q2} (h : Sv s) {i : Nat} {o : Qw} (ho : s.fa6[i]? = some o) {l : List Qs} (hm : ∀ v ∈ l, v ∈ o.fc0) (hf : l.filter Q17 = o.fc0.filter Q17) {ar : Qy} {os : List Qw} (hos : os = s.fa6.set i (Qw.mk o.fID l) ∨ (l = [] ∧ os = s.fa6.eraseIdx i)) : Kp s { s with fa6 := os, fc4 := ar } ∧ Sv { s with fa6 := os, fc4 := ar } := by
 have hob := List.mem_of_getElem? ho
 have hv : l.find? (veF s.f9) = o.fc0.find? (veF s.f9) := NU (q := Q17) hf (fun x hx e => Qcp (h.vt o hob) (hm x hx) e) (fun x hx e => Qcp (h.vt o hob) hx e)
 refine ⟨⟨rfl, rfl, fun n => Qry (fun id => ?_) n⟩, ?_⟩
 ·have fo : o.fID = id → s.fa6.find? (obF id) = some o := by
   intro e
   have := Q5p (o' := o) ho rfl id h.id
   rw [if_pos e] at this
   rw [← this]
   congr 1
   apply List.ext_getElem?
   intro k
   rw [List.getElem?_set]
   split
   ·rename_i hk; subst hk; simp [ho]; exact (List.getElem?_eq_some_iff.1 ho).1
   ·rfl
  rcases hos with rfl | ⟨rfl, rfl⟩
  ·rw [Q5p (o' := Qw.mk o.fID l) ho rfl id h.id]
   by_cases e : o.fID = id
   ·rw [if_pos e, fo e]
    simp only [Option.bind_some]
    rw [hv]
   ·rw [if_neg e]
  ·rw [Qk9 ho id h.id]
   by_cases e : o.fID = id
   ·rw [if_pos e, fo e]
    simp only [Option.bind_some, Option.bind_none]
    rw [← hv]; rfl
   ·rw [if_neg e]
 ·rcases hos with rfl | ⟨rfl, rfl⟩
  ·exact { bt := h.bt, vt := YI h.vt (fun v hv => h.vt o hob v (hm v hv)), id := Q9z ho rfl h.id, la := YI h.la (h.la o hob), l0 := h.l0, lc := h.lc }
  ·have sub : (s.fa6.eraseIdx i).Sublist s.fa6 := List.eraseIdx_sublist _ _
   exact { bt := h.bt, vt := fun x hx => h.vt x (sub.subset hx), id := h.id.sublist sub, la := fun x hx => h.la x (sub.subset hx), l0 := h.l0, lc := h.lc }
def KS (s t : Q2) : Prop := Sv s → Kp s t ∧ Sv t
theorem KS.refl (s : Q2) : KS s s := fun h => ⟨Kp.refl _, h⟩
theorem KS.trans {s t u : Q2} (h : KS s t) (k : KS t u) : KS s u := fun x => ⟨(h x).1.trans (k (h x).2).1, (k (h x).2).2⟩
theorem ks_ {s t : Q2} (h : KS s t) : KS s t := h
def Shw (s : Q2) (ns : List ByteArray) (vs : List Int) : Prop := vs.length = ns.length ∧ ∀ (i : Nat) n v, ns[i]? = some n → vs[i]? = some v → ∃ p, view s n s.f9 = some p ∧ v = p.2.fd5
def VerP (s : Q2) (n : ByteArray) (c : Int) (r : Int × Int × Int) : Prop := c = s.f9 → (view s n c = none ∧ r.2.2 ≠ 0) ∨ ∃ p, view s n c = some p ∧ r.2.1 = p.2.fd5 ∧ r.2.2 = 0
def Mt (s : Q2) (l : List ByteArray) (i : Int) (vs : List Int) : Prop := Shw s (l.take i.toNat) vs
theorem Mt.nil {s : Q2} {l : List ByteArray} : Mt s l 0 [] := ⟨by simp, fun i n v h => by simp at h⟩
theorem Mt.fin {s : Q2} {l : List ByteArray} {i : Int} {vs : List Int} (h : Mt s l i vs) (k : (l.length : Int) ≤ i) : Shw s l vs := by
 unfold Mt at h; rwa [List.take_of_length_le (by omega)] at h
theorem Mt.app {s : Q2} {l : List ByteArray} {i : Int} {vs : List Int} {n : ByteArray} {r : Int × Int × Int} (h : Mt s l i vs) (h0 : 0 ≤ i) (hn : l[i.toNat]? = some n) (hv : VerP s n s.f9 r) (he : r.2.2 = 0) (hi : i ≤ 2000000) : Mt s l (IntKind.i64.wrap (i + 1)) (vs ++ [r.2.1]) := by
 rw [KI (by omega)]
 have e : (i + 1).toNat = i.toNat + 1 := by omega
 have hb := (List.getElem?_eq_some_iff.1 hn).1
 have hl : vs.length = i.toNat := by have := h.1; rw [List.length_take] at this; omega
 unfold Mt
 rw [e, List.take_add_one, hn]
 refine ⟨by simp [hl]; omega, fun k m v h1 h2 => ?_⟩
 have kb : k < vs.length + 1 := by have := (List.getElem?_eq_some_iff.1 h2).1; simpa using this
 by_cases hk : k < vs.length
 ·rw [List.getElem?_append_left hk] at h2
  rw [List.getElem?_append_left (by rw [List.length_take]; omega)] at h1
  exact h.2 k m v h1 h2
 ·have ke : k = vs.length := by omega
  subst ke
  rw [List.getElem?_append_right (by rw [List.length_take]; omega)] at h1
  rw [List.getElem?_append_right (by omega)] at h2
  rw [List.length_take] at h1
  have z : vs.length - min i.toNat l.length = 0 := by omega
  rw [z] at h1
  simp at h1 h2
  subst h1 h2
  rcases hv rfl with ⟨_, c⟩ | ⟨q, a, b, _⟩
  ·exact absurd he c
  ·exact ⟨q, a, b⟩
theorem Shw.kp {s t : Q2} {ns : List ByteArray} {vs : List Int} (h : Shw s ns vs) (k : Kp s t) : Shw t ns vs := ⟨h.1, fun i n v h1 h2 => let ⟨p, a, b⟩ := h.2 i n v h1 h2; ⟨p, (k.v n).trans a, b⟩⟩
def KE (s t : Q2) : Prop := (Sv s → Sv t) ∧ t.fk = s.fk ∧ (t = s ∨ s.f9 < t.f9)
theorem KE.i {s t : Q2} (h : Sv s → Sv t) (g : t.fk = s.fk) (d : t = s ∨ s.f9 < t.f9) : KE s t := ⟨h, g, d⟩
def YA (s : Q2) (r : Qk) : Prop := Sv s → r.fx.fk = s.fk ∧ Sv r.fx ∧ (r.fg4 = false → Kp s r.fx) ∧ (Kp s r.fx ∨ s.f9 < r.fx.f9)
theorem YA.on {s t : Q2} {r : Qk} (e : r.fx = t) (h : Sv s → Kp s t ∧ Sv t) : YA s r := fun hs => ⟨by rw [e]; exact (h hs).1.g, by rw [e]; exact (h hs).2, fun _ => by rw [e]; exact (h hs).1, .inl (by rw [e]; exact (h hs).1)⟩
def stq (p : Int × Int × Int × Int × Int × Int × Int × Int × Int × (List Qw) × (List Qn) × (List QP) × Int × (List QE)) : Q2 := (Q2.mk (QA.mk (p.1) (p.2.1) (p.2.2.1) (p.2.2.2.1) (p.2.2.2.2.1) (p.2.2.2.2.2.1) (p.2.2.2.2.2.2.1)) (p.2.2.2.2.2.2.2.1) (p.2.2.2.2.2.2.2.2.1) (p.2.2.2.2.2.2.2.2.2.1) (p.2.2.2.2.2.2.2.2.2.2.1) (p.2.2.2.2.2.2.2.2.2.2.2.1) (Qy.mk (p.2.2.2.2.2.2.2.2.2.2.2.2.1) (p.2.2.2.2.2.2.2.2.2.2.2.2.2)))
def LfO (m : Qe) : Prop := 0 ≤ m.fd7 ∧ m.fd7 ≤ 200000000
def BtP (s : Q2) (c : Int) (nm : ByteArray) (n : Int) (m : Qe) (r : Qk) : Prop :=
 (m.fc6 = 0 → r.fg4 = false → r.fa.fc6 = 1 ∧ r.fa.fd7 = n ∧ r.fa.fg3 = s.f9 ∧ Shw s [nm] r.fa.fc0) ∧
 (m.fc6 = 1 → LfO m → r.fg4 = false → r.fa.fg3 = m.fg3 ∧ r.fa.fc0 = m.fc0 ∧ r.fa.fd7 = max (m.fd7 - max c 1) 0 ∧ r.fa.fc6 = (if r.fa.fd7 = 0 then 2 else 1)) ∧
 (m.fc6 ≠ 0 → m.fc6 ≠ 1 → (Shw s [nm] m.fc0 → r.fg4 = true) ∧ (r.fg4 = false → r.fa.fc6 = 0))
def clF (n p : Int) : Int := if n < 0 ∨ p < 1 then 0 else if n.tmod p > 0 then IntKind.i64.wrap (IntKind.i64.wrap (n.tdiv p) + 1) else IntKind.i64.wrap (n.tdiv p)
def O3 (n p : Int) : Int := if (n < 0 ∨ p < 1) ∨ p > 1024 then 0 else clF n p
def ImP (c : QA) (n : Int) (m : Qe) (r : Qk) : Prop :=
 (m.fc6 = 0 → r.fg4 = false → r.fa.fc6 = 1 ∧ r.fa.fd7 = O3 n c.fb7) ∧
 (m.fc6 = 1 → LfO m → r.fg4 = false → (r.fa.fc6 = 1 ∧ 0 < r.fa.fd7 ∧ r.fa.fd7 = m.fd7 - max c.fb5 1) ∨ r.fa.fc6 = 2) ∧
 (m.fc6 ≠ 0 → m.fc6 ≠ 1 → r.fg4 = true)
def OpP (c n : Int) (m : Qe) (r : Qk) : Prop :=
 (m.fc6 = 0 → r.fg4 = false → r.fa.fc6 = 1 ∧ r.fa.fd7 = n) ∧
 (m.fc6 ≠ 0 → LfO m → r.fg4 = false → r.fa.fc6 = m.fc6 ∧ 0 < r.fa.fd7 ∧ r.fa.fd7 = m.fd7 - max c 1)
def LfI (m : Qe) (c i l : Int) : Prop := LfO m → l = m.fd7 - i ∧ i ≤ max c 1 ∧ 0 ≤ l
theorem LfI.z {m : Qe} {c : Int} : LfI m c 0 m.fd7 := fun h => ⟨by omega, by omega, h.1⟩
theorem LfI.s {m : Qe} {c i l : Int} (h : LfI m c i l) (h0 : 0 ≤ i) (hi : i < KH c 1) (hc : c ≤ 64) (hl : 0 < l) : LfI m c (IntKind.i64.wrap (i + 1)) (IntKind.i64.wrap (l - 1)) := fun k => by
 obtain ⟨a, b, d⟩ := h k
 have := k.1; have := k.2
 rw [A4] at hi
 rw [KI (by omega), KI (by omega)]
 exact ⟨by omega, by omega, by omega⟩
theorem BtP.dn {s : Q2} {c n : Int} {nm : ByteArray} {m : Qe} {r : Qk} (h : r.fg4 = true) : BtP s c nm n m r := ⟨fun _ k => (by rw [h] at k; cases k), fun _ _ k => (by rw [h] at k; cases k), fun _ _ => ⟨fun _ => h, fun k => (by rw [h] at k; cases k)⟩⟩
theorem BtP.one {s : Q2} {c n i : Int} {nm : ByteArray} {m : Qe} {r : Qk} (p1 : m.fc6 = 1) (hb : r.fa.fg3 = m.fg3) (hv : r.fa.fc0 = m.fc0) (hl : LfI m c i r.fa.fd7) (hx : ¬ (i < KH c 1 ∧ 0 < r.fa.fd7)) (hp : (r.fa.fd7 = 0 ∧ r.fa.fc6 = 2) ∨ (r.fa.fd7 ≠ 0 ∧ r.fa.fc6 = 1)) : BtP s c nm n m r := by
 refine ⟨fun h => by omega, fun _ hf _ => ⟨hb, hv, ?_, ?_⟩, fun _ h => absurd p1 h⟩
 ·obtain ⟨a, b, d⟩ := hl hf
  rw [A4] at hx
  omega
 ·split <;> omega
theorem ImP.dn {c : QA} {n : Int} {m : Qe} {r : Qk} (h : r.fg4 = true) : ImP c n m r := ⟨fun _ k => (by rw [h] at k; cases k), fun _ _ k => (by rw [h] at k; cases k), fun _ _ => h⟩
theorem ImP.z {c : QA} {n : Int} {m : Qe} {r : Qk} (p : m.fc6 = 0) (h1 : r.fa.fc6 = 1) (h2 : r.fa.fd7 = O3 n c.fb7) : ImP c n m r := ⟨fun _ _ => ⟨h1, h2⟩, fun h => by omega, fun h => absurd p h⟩
theorem Qkb {a c : Int} (h : 0 ≤ a ∧ a ≤ 200000000) (hc : c ≤ 64) (k : KH (IntKind.i64.wrap (a - KH c 1)) 0 > 0) : KH (IntKind.i64.wrap (a - KH c 1)) 0 = a - max c 1 ∧ 0 < a - max c 1 := by
 rw [A4, A4] at k ⊢
 rw [KI (by omega)] at k ⊢
 omega
theorem ImP.o {c : QA} {n : Int} {m : Qe} {r : Qk} (p : m.fc6 = 1) (h1 : r.fa.fc6 = m.fc6) (h2 : r.fa.fd7 = KH (IntKind.i64.wrap (m.fd7 - KH c.fb5 1)) 0) (hc : c.fb5 ≤ 64) (k : KH (IntKind.i64.wrap (m.fd7 - KH c.fb5 1)) 0 > 0) : ImP c n m r := ⟨fun h => by omega, fun _ hf _ => .inl ⟨by omega, by rw [h2]; exact k, by rw [h2]; exact (Qkb hf hc k).1⟩, fun _ h => absurd p h⟩
theorem ImP.t {c : QA} {n : Int} {m : Qe} {r : Qk} (p : m.fc6 = 1) (h1 : r.fa.fc6 = 2) : ImP c n m r := ⟨fun h => by omega, fun _ _ _ => .inr h1, fun _ h => absurd p h⟩
theorem OpP.dn {c n : Int} {m : Qe} {r : Qk} (h : r.fg4 = true) : OpP c n m r := ⟨fun _ k => (by rw [h] at k; cases k), fun _ _ k => (by rw [h] at k; cases k)⟩
theorem OpP.z {c n : Int} {m : Qe} {r : Qk} (p : m.fc6 = 0) (h1 : r.fa.fc6 = 1) (h2 : r.fa.fd7 = n) : OpP c n m r := ⟨fun _ _ => ⟨h1, h2⟩, fun h => absurd p h⟩
theorem OpP.o {c n : Int} {m : Qe} {r : Qk} (p : ¬ m.fc6 = 0) (h1 : r.fa.fc6 = m.fc6) (h2 : r.fa.fd7 = KH (IntKind.i64.wrap (m.fd7 - KH c 1)) 0) (hc : c ≤ 64) (k : KH (IntKind.i64.wrap (m.fd7 - KH c 1)) 0 > 0) : OpP c n m r := ⟨fun h => absurd h p, fun _ hf _ => ⟨h1, by rw [h2]; exact k, by rw [h2]; exact (Qkb hf hc k).1⟩⟩
theorem KS.tr {s t u : Q2} (k : KS t u) (h : KS s t) : KS s u := h.trans k
theorem YA.e3 {s t u : Q2} {r : Qk} (e : r.fx = u) (k : KS t u) (h : KS s t) : YA s r := YA.on e (h.trans k)
theorem YA.e2 {s t u : Q2} {r : Qk} (e : r.fx = u) (hd : r.fg4 = true) (k : KS t u) (h : KE s t) : YA s r := fun hs => by
 have kt := k (h.1 hs)
 rw [e]
 refine ⟨kt.1.g.trans h.2.1, kt.2, fun c => (by rw [hd] at c; cases c), ?_⟩
 rcases h.2.2 with e2 | e2
 ·subst e2; exact .inl kt.1
 ·exact .inr (by rw [kt.1.c]; exact e2)
theorem YA.o {s t : Q2} {r : Qk} (e : r.fx = t) (h : KS s t) : YA s r := YA.on e h
theorem YA.e {s t : Q2} {r : Qk} (e : r.fx = t) (hd : r.fg4 = true) (h : KS s t) : YA s r := YA.on e h
theorem YA.e1 {s t : Q2} {r : Qk} (e : r.fx = t) (hd : r.fg4 = true) (h : KE s t) : YA s r := YA.e2 e hd (KS.refl _) h
theorem yx_ {p : Prop} (h : p := by
  repeat (first | with_reducible refine NT ?_ | (with_reducible intro h; first | subst h | (simp only [decide_eq_true_eq, decide_eq_false_iff_not, Bool.not_eq_eq_eq_not, Bool.not_true, Bool.not_false, IS, Du, Bool.and_eq_true, Bool.or_eq_true, Bool.or_eq_false_iff, Bool.and_eq_false_imp, beq_iff_eq, bne_iff_ne, beq_eq_false_iff_ne, bne_eq_false_iff_eq, Bool.true_eq_false, Bool.false_eq_true, reduceCtorEq, ix] at h) | skip))
  repeat' first
    | with_reducible assumption
    | with_reducible exact KS.refl _
    | (with_reducible refine ks_ ?_; assumption)
    | with_reducible exact YA.e (by assumption) (by assumption) (by first | with_reducible exact KS.refl _ | assumption)
    | with_reducible exact YA.e1 (by assumption) (by assumption) (by assumption)
    | with_reducible exact Mt.nil
    | exact Mt.app (by assumption) (by assumption) (by assumption) (by assumption) (by assumption) (by omega)
    | exact Mt.fin (by assumption) (by omega)
    | exact KS.tr (by assumption) (by assumption)
    | exact YA.e3 (by assumption) (by assumption) (by assumption)
    | with_reducible exact LfI.z
    | exact LfI.s (by assumption) (by assumption) (by omega) (by omega) (by omega)
    | exact BtP.dn (by assumption)
    | exact BtP.one (by assumption) rfl rfl (by assumption) (by dsimp only; omega) (by dsimp only; omega)
    | exact ImP.dn (by first | assumption | rfl)
    | exact ImP.z (by assumption) rfl (by first | assumption | rfl)
    | exact ImP.o (by assumption) rfl rfl (by assumption) (by assumption)
    | exact ImP.t (by assumption) rfl
    | exact OpP.dn (by first | assumption | rfl)
    | exact OpP.z (by assumption) rfl rfl
    | exact OpP.o (by assumption) rfl rfl (by assumption) (by assumption)
    | exact YA.e2 (by assumption) (by assumption) (by assumption) (by assumption)
    | exact YA.e rfl rfl (by first | with_reducible exact KS.refl _ | assumption)
    | exact YA.o rfl (by first | with_reducible exact KS.refl _ | assumption)
    | exact YA.e1 rfl (by assumption) (by assumption)
    | (with_reducible refine ZX (fun h => ?_) (fun h => ?_)
       all_goals first | (simp only [decide_eq_true_eq, decide_eq_false_iff_not, Bool.not_eq_eq_eq_not, Bool.not_true, Bool.not_false, IS, Du, Bool.and_eq_true, Bool.or_eq_true, Bool.or_eq_false_iff, Bool.and_eq_false_imp, beq_iff_eq, bne_iff_ne, beq_eq_false_iff_ne, bne_eq_false_iff_eq, Bool.true_eq_false, Bool.false_eq_true, reduceCtorEq, ix] at h) | skip
       all_goals first | (with_reducible refine fwd (by with_reducible assumption) h ?_; repeat (first | with_reducible refine NT ?_ | (with_reducible intro h; first | subst h | (simp only [decide_eq_true_eq, decide_eq_false_iff_not, Bool.not_eq_eq_eq_not, Bool.not_true, Bool.not_false, IS, Du, Bool.and_eq_true, Bool.or_eq_true, Bool.or_eq_false_iff, Bool.and_eq_false_imp, beq_iff_eq, bne_iff_ne, beq_eq_false_iff_ne, bne_eq_false_iff_eq, Bool.true_eq_false, Bool.false_eq_true, reduceCtorEq, ix] at h) | skip))) | skip)
    | with_reducible refine CZ ?_
    | with_reducible refine joi ?_
    | (with_reducible apply lvi
       case' h => (repeat (first | with_reducible refine NT ?_ | (with_reducible intro h; first | subst h | (simp only [decide_eq_true_eq, decide_eq_false_iff_not, Bool.not_eq_eq_eq_not, Bool.not_true, Bool.not_false, IS, Du, Bool.and_eq_true, Bool.or_eq_true, Bool.or_eq_false_iff, Bool.and_eq_false_imp, beq_iff_eq, bne_iff_ne, beq_eq_false_iff_ne, bne_eq_false_iff_eq, Bool.true_eq_false, Bool.false_eq_true, reduceCtorEq, ix] at h) | skip))))
    | (with_reducible apply Uf
       case' k => (repeat (first | with_reducible refine NT ?_ | (with_reducible intro h; first | subst h | (simp only [decide_eq_true_eq, decide_eq_false_iff_not, Bool.not_eq_eq_eq_not, Bool.not_true, Bool.not_false, IS, Du, Bool.and_eq_true, Bool.or_eq_true, Bool.or_eq_false_iff, Bool.and_eq_false_imp, beq_iff_eq, bne_iff_ne, beq_eq_false_iff_ne, bne_eq_false_iff_eq, Bool.true_eq_false, Bool.false_eq_true, reduceCtorEq, ix] at h) | skip))))
    | with_reducible refine ixs (by with_reducible assumption) (by with_reducible assumption) ?_
    | with_reducible refine ixt (by with_reducible assumption) (by with_reducible assumption) ?_
    | (with_reducible apply ixq (by with_reducible assumption)
       case' k => (repeat (first | with_reducible refine NT ?_ | (with_reducible intro h; first | subst h | (simp only [decide_eq_true_eq, decide_eq_false_iff_not, Bool.not_eq_eq_eq_not, Bool.not_true, Bool.not_false, IS, Du, Bool.and_eq_true, Bool.or_eq_true, Bool.or_eq_false_iff, Bool.and_eq_false_imp, beq_iff_eq, bne_iff_ne, beq_eq_false_iff_ne, bne_eq_false_iff_eq, Bool.true_eq_false, Bool.false_eq_true, reduceCtorEq, ix] at h) | skip))))
    | (with_reducible apply ixi
       case' k => (repeat (first | with_reducible refine NT ?_ | (with_reducible intro h; first | subst h | (simp only [decide_eq_true_eq, decide_eq_false_iff_not, Bool.not_eq_eq_eq_not, Bool.not_true, Bool.not_false, IS, Du, Bool.and_eq_true, Bool.or_eq_true, Bool.or_eq_false_iff, Bool.and_eq_false_imp, beq_iff_eq, bne_iff_ne, beq_eq_false_iff_ne, bne_eq_false_iff_eq, Bool.true_eq_false, Bool.false_eq_true, reduceCtorEq, ix] at h) | skip))))
    | (with_reducible apply bxi
       case' k => (repeat (first | with_reducible refine NT ?_ | (with_reducible intro h; first | subst h | (simp only [decide_eq_true_eq, decide_eq_false_iff_not, Bool.not_eq_eq_eq_not, Bool.not_true, Bool.not_false, IS, Du, Bool.and_eq_true, Bool.or_eq_true, Bool.or_eq_false_iff, Bool.and_eq_false_imp, beq_iff_eq, bne_iff_ne, beq_eq_false_iff_ne, bne_eq_false_iff_eq, Bool.true_eq_false, Bool.false_eq_true, reduceCtorEq, ix] at h) | skip))))
    | (with_reducible apply nxg
       case' k => (repeat (first | with_reducible refine NT ?_ | (with_reducible intro h; first | subst h | (simp only [decide_eq_true_eq, decide_eq_false_iff_not, Bool.not_eq_eq_eq_not, Bool.not_true, Bool.not_false, IS, Du, Bool.and_eq_true, Bool.or_eq_true, Bool.or_eq_false_iff, Bool.and_eq_false_imp, beq_iff_eq, bne_iff_ne, beq_eq_false_iff_ne, bne_eq_false_iff_eq, Bool.true_eq_false, Bool.false_eq_true, reduceCtorEq, ix] at h) | skip))))
    | (with_reducible apply ixg
       case' k => (repeat (first | with_reducible refine NT ?_ | (with_reducible intro h; first | subst h | (simp only [decide_eq_true_eq, decide_eq_false_iff_not, Bool.not_eq_eq_eq_not, Bool.not_true, Bool.not_false, IS, Du, Bool.and_eq_true, Bool.or_eq_true, Bool.or_eq_false_iff, Bool.and_eq_false_imp, beq_iff_eq, bne_iff_ne, beq_eq_false_iff_ne, bne_eq_false_iff_eq, Bool.true_eq_false, Bool.false_eq_true, reduceCtorEq, ix] at h) | skip))))
    | (with_reducible apply bxg
       case' k => (repeat (first | with_reducible refine NT ?_ | (with_reducible intro h; first | subst h | (simp only [decide_eq_true_eq, decide_eq_false_iff_not, Bool.not_eq_eq_eq_not, Bool.not_true, Bool.not_false, IS, Du, Bool.and_eq_true, Bool.or_eq_true, Bool.or_eq_false_iff, Bool.and_eq_false_imp, beq_iff_eq, bne_iff_ne, beq_eq_false_iff_ne, bne_eq_false_iff_eq, Bool.true_eq_false, Bool.false_eq_true, reduceCtorEq, ix] at h) | skip))))
    | with_reducible refine And.intro ?_ ?_
    | dsimp only
    | with_reducible refine sh0 ?_
    | with_reducible refine sh1 ?_
    | with_reducible refine sh2 ?_
    | with_reducible refine sh3 ?_
    | with_reducible refine sh4 (by with_reducible assumption) ?_
    | with_reducible refine sr0 ?_ ?_
    | with_reducible refine sr1 ?_ ?_
    | with_reducible refine mu0 ?_ ?_
    | with_reducible refine mu2 ?_ ?_
    | with_reducible refine mu3 ?_ ?_
    | with_reducible refine mu4 (by with_reducible assumption) ?_ ?_
    | with_reducible refine mu5 (by with_reducible assumption) ?_ ?_
    | with_reducible refine ce0 (by with_reducible assumption) ?_ ?_ ?_ ?_
    | with_reducible refine ce1 (by with_reducible assumption) ?_ ?_ ?_ ?_
    | with_reducible refine co0 ?_ ?_
    | with_reducible refine co1 ?_ ?_
    | with_reducible exact xr0
    | with_reducible exact w8a
    | with_reducible exact sz0
    | with_reducible refine sz1 ?_
    | with_reducible refine sh6 ?_
    | with_reducible exact w8b
    | with_reducible exact bo0
    | with_reducible refine mu6 ?_ ?_
    | with_reducible exact A4 _ _
    | with_reducible exact sI_b
    | with_reducible exact xr1
    | with_reducible refine tm0 ?_
    | with_reducible refine tm1 ?_ ?_
    | with_reducible refine tm2 ?_ ?_
    | (simp only [List.length_replicate, Int.reduceToNat]; done)
    | with_reducible refine Yz ?_ ?_
    | with_reducible refine XO ?_
    | with_reducible refine Qcl ?_ ?_
    | with_reducible exact VT
    | with_reducible exact Qvx
    | with_reducible refine Qvy (by with_reducible assumption) (by with_reducible assumption) (by with_reducible assumption) ?_ ?_
    | with_reducible refine TU ?_
    | with_reducible refine Qvz (by with_reducible assumption) ?_
    | with_reducible refine TW ?_
    | with_reducible refine Qvw ?_
    | with_reducible refine YI ?_ ?_
    | with_reducible exact Qcm
    | with_reducible refine Nh ?_
    | exact Or.inl (by with_reducible assumption)
    | exact Or.inr (by with_reducible assumption)
    | with_reducible refine Or.inr ?_
    | with_reducible refine NT ?_
    | (with_reducible intro h
       first | subst h | (simp only [decide_eq_true_eq, decide_eq_false_iff_not, Bool.not_eq_eq_eq_not, Bool.not_true, Bool.not_false, IS, Du, Bool.and_eq_true, Bool.or_eq_true, Bool.or_eq_false_iff, Bool.and_eq_false_imp, beq_iff_eq, bne_iff_ne, beq_eq_false_iff_ne, bne_eq_false_iff_eq, Bool.true_eq_false, Bool.false_eq_true, reduceCtorEq, ix] at h) | skip
       first | (with_reducible refine fwm (by with_reducible assumption) h ?_; repeat (first | with_reducible refine NT ?_ | (with_reducible intro h; first | subst h | (simp only [decide_eq_true_eq, decide_eq_false_iff_not, Bool.not_eq_eq_eq_not, Bool.not_true, Bool.not_false, IS, Du, Bool.and_eq_true, Bool.or_eq_true, Bool.or_eq_false_iff, Bool.and_eq_false_imp, beq_iff_eq, bne_iff_ne, beq_eq_false_iff_ne, bne_eq_false_iff_eq, Bool.true_eq_false, Bool.false_eq_true, reduceCtorEq, ix] at h) | skip))) | (with_reducible refine fwd (by with_reducible assumption) h ?_; repeat (first | with_reducible refine NT ?_ | (with_reducible intro h; first | subst h | (simp only [decide_eq_true_eq, decide_eq_false_iff_not, Bool.not_eq_eq_eq_not, Bool.not_true, Bool.not_false, IS, Du, Bool.and_eq_true, Bool.or_eq_true, Bool.or_eq_false_iff, Bool.and_eq_false_imp, beq_iff_eq, bne_iff_ne, beq_eq_false_iff_ne, bne_eq_false_iff_eq, Bool.true_eq_false, Bool.false_eq_true, reduceCtorEq, ix] at h) | skip))) | skip)
    | (with_reducible refine idJ ?_
       with_reducible apply_assumption only [*])
    | omega
    | (simp only [zSn, zE, zI, zCm, zLl, zB, zP, Mp, okV, oB, IntKind.wrap_i64, IntKind.wrap_u64, oN, oK, oE, Qk6, A4, OQ, ByteArray.size_empty, List.length_append, List.length_cons, List.length_nil, List.length_set, List.length_map, List.length_take, List.length_drop] at *; first | omega | grind)
    | with_reducible exact trivial
    | (simp only [zSn, zE, zI, zCm, zLl, zB, zP, Mp, okV, List.length_nil, ByteArray.size_empty]; done)
    | (simp only [zSn, zE, zI, zCm, zLl, zB, zP, Mp, okV, List.length_nil, ByteArray.size_empty]; omega)
    | with_reducible rfl
    | grind
    | (with_reducible apply_assumption only [*]
       all_goals first | with_reducible assumption | omega | (simp only [Bool.not_eq_true, Bool.not_eq_false, decide_eq_true_eq, decide_eq_false_iff_not]; omega))
  all_goals fail) : p := h
theorem nx1 {R : Type} {W W' : (R → Prop) → Prop} [Gm W] {Pre : Prop} {Post : R → Prop} (hW : ∀ Q, W Q = W' Q) (h : Pre → W' Post := by exact yx_) : Nx W Pre Post := ⟨fun hp => ex_ (by rw [hW]; exact h hp)⟩
theorem Qym {σ : Type} {I : σ → Prop} {m : σ → Nat} {S : σ → St → Option St} {step : (σ → Prop) → σ → Prop} {s : σ} (I2 : σ → Prop) (h0 : I s) (h1 : I2 s) (h : ∀ s, I s → I2 s → ∀ X : σ → Prop, (∀ s', I s' → I2 s' → m s' < m s → Jp X s') → step (Jp X) s) : lv I m S step s :=
 Cp (I := fun k s => (I s ∧ I2 s) ∧ k = m s) (fun k s ⟨⟨hi, h2⟩, hk⟩ X hX => h s hi h2 X fun s' hi' h2' hm => hX (m s') s' (by rw [hk]; exact hm) ⟨⟨hi', h2'⟩, rfl⟩) ⟨⟨h0, h1⟩, rfl⟩
set_option maxRecDepth 100000
set_option maxHeartbeats 4000000
abbrev Bg : Prop := ∀ {a0 a1 a2}, Nx (ZC a0 a1 a2) (True) (fun r => r = decide (a1 ≤ a0 ∧ a0 ≤ a2))
abbrev Bh : Prop := ∀ {a0 a1 a2}, Nx (Zn a0 a1 a2) (True) (fun r => r = decide (a1 ≤ a0 ∧ a0 ≤ a2))
abbrev Zx : Prop := ∀ {a0 a1 a2}, Nx (Qz a0 a1 a2) (True) (fun r => r = decide (a1 ≤ a0 ∧ a0 ≤ a2))
abbrev Bj : Prop := ∀ {a0 a1 a2}, Nx (Zo a0 a1 a2) (True) (fun r => r = decide (a1 ≤ a0 ∧ a0 ≤ a2))
abbrev Wh : Prop := ∀ {a0}, Nx (ZT a0) (True) (fun r => (r = 0 → Qif a0) ∧ (Qqh a0 → r = 0))
abbrev NV : Prop := ∀ {a0}, Nx (U0 a0) (True) (fun r => (r.2 = 0 → UO r.1 ∧ r.1.fk = a0) ∧ (Qqh a0 → r.2 = 0) ∧ (r.2 = 0 → r.1.fa6 = [] ∧ r.1.fb4 = [] ∧ r.1.ff3 = 0 ∧ r.1.f9 = 0 ∧ r.1.fk = a0))
abbrev D1 : Prop := ∀ {a0}, Nx (KL a0) (1 ≤ a0 ∧ a0 ≤ 64) (fun r => (r.1.length : Int) = a0 ∧ ∀ x ∈ r.1, zSe x ∧ x.ff5 = false)
abbrev Wr : Prop := ∀ {a0 a1 a2}, Nx (J0 a0 a1 a2) (True) (fun r => r = TX a0 a1 a2)
abbrev Ws : Prop := ∀ {a0 a1}, Nx (Jz a0 a1) (a0.fa8.length ≤ 2000000) (fun r => -1 ≤ r ∧ r < (a0.fa8.length : Int) ∧ (0 ≤ r → ∃ p ∈ a0.fa8, p.fh2 = a1))
abbrev Gr : Prop := ∀ {a0 a1}, Nx (W7 a0 a1) (zAr a0) (fun r => zAr r.1)
abbrev CK : Prop := ∀ {a0 a1}, Nx (VQ a0 a1) (zAr a0) (fun r => zAr r.1)
abbrev Gs : Prop := ∀ {a0 a1}, Nx (W5 a0 a1) (zAr a0) (fun r => r.1.length ≤ 1024 ∧ bB r.1)
abbrev Yb : Prop := ∀ {a0}, Nx (ZQ a0) (a0.length ≤ 2000000) (fun r => r = 0 → ∀ x ∈ a0, 1 ≤ x.fb6 ∧ x.fb6 ≤ 1024)
abbrev E3 : Prop := ∀ {a0 a1}, Nx (Xv a0 a1) (a0.length ≤ 2000000) (fun r => r.1.length ≤ a0.length + 1 ∧ ∀ x ∈ r.1, zP x)
abbrev Bl : Prop := ∀ {a0 a1}, Nx (JM a0 a1) (a0.length ≤ 2000000) (fun r => r.1.length ≤ a0.length ∧ ∀ x ∈ r.1, zP x)
abbrev E4 : Prop := ∀ {a0}, Nx (JJ a0) (True) (fun r => r = max a0 0)
abbrev As : Prop := ∀ {a0 a1 a2}, Nx (Vb a0 a1 a2) (0 ≤ a2 ∧ a2 ≤ 1099511627776) (fun r => 0 ≤ r.1 ∧ r.1 ≤ a2 ∧ (0 ≤ a0 → 0 ≤ a1 → r.1 = min (a0 + a1) a2))
abbrev Fj : Prop := ∀ {a0}, Nx (Ym a0) (a0.length ≤ 2000000 ∧ ∀ x ∈ a0, zP x) (fun r => (a0.length : Int) ≤ r)
abbrev Ug : Prop := ∀ {a0 a1 a2}, Nx (JU a0 a1 a2) (a0.length ≤ 2000000) (fun r => True)
abbrev UG : Prop := ∀ {a0 a1}, Nx (KQ a0 a1) (a0.length ≤ 2000000) (fun r => (0 ≤ r.1 ∧ (r.2 = true → r.1 < (a0.length : Int))) ∧ (r.2 = false → a0.find? (veF a1) = none) ∧ (r.2 = true → ∃ v, a0[r.1.toNat]? = some v ∧ a0.find? (veF a1) = some v))
abbrev Bm : Prop := ∀ {a0 a1 a2}, Nx (Vu a0 a1 a2) (a0.length ≤ 2000000) (fun r => r = (match a0.find? (bnF a1 a2) with | some b => (b.fb8, true) | none => (0, false)))
abbrev Df : Prop := ∀ {a0 a1}, Nx (X0 a0 a1) (a0.length ≤ 2000000) (fun r => -1 ≤ r ∧ r < (a0.length : Int))
abbrev Bn : Prop := ∀ {a0 a1}, Nx (VZ a0 a1) (a0.length ≤ 2000000) (fun r => True)
abbrev Cb : Prop := ∀ {a0 a1}, Nx (Xj a0 a1) (a0.length ≤ 2000000) (fun r => r.length = a0.length + 1 ∧ ∀ x ∈ r, x ∈ a0 ++ [a1])
abbrev E5 : Prop := ∀ {a0 a1 a2}, Nx (JL a0 a1 a2) (True) (fun r => True)
abbrev JC : Prop := ∀ {a0}, Nx (Zw a0) (a0.size ≤ 2000000) (fun r => r = true → a0.size ≤ 16)
abbrev Jc : Prop := ∀ {a0}, Nx (Zf a0) (a0.length ≤ 2000000 ∧ ∀ x ∈ a0, zB x) (fun r => True)
abbrev XL : Prop := ∀ {a0}, Nx (ZJ a0) (a0.length ≤ 2000000) (fun r => True)
abbrev Gt : Prop := ∀ {a0 a1 a2 a3}, Nx (Ya a0 a1 a2 a3) (a0.length ≤ 2000000 ∧ a1.size ≤ 2000000 ∧ ∀ x ∈ a0, zB x) (fun r => (r.1.length ≤ a0.length + 1 ∧ ∀ x ∈ r.1, zB x) ∧ ∀ x ∈ r.1, x ∈ a0 ∨ x.fTo = 0)
abbrev E6 : Prop := ∀ {a0 a1 a2}, Nx (XD a0 a1 a2) (a0.length ≤ 2000000 ∧ a1.size ≤ 2000000 ∧ ∀ x ∈ a0, zB x) (fun r => (r.1.length ≤ a0.length ∧ ∀ x ∈ r.1, zB x) ∧ ∀ x ∈ r.1, x ∈ a0 ∨ x.fTo = a2)
abbrev E7 : Prop := ∀ {a0 a1 a2 a3}, Nx (XE a0 a1 a2 a3) (a0.length ≤ 2000000 ∧ (a1.size ≤ 2000000 ∧ a2.size ≤ 2000000) ∧ ∀ x ∈ a0, zB x) (fun r => (r.1.length ≤ a0.length + 1 ∧ ∀ x ∈ r.1, zB x) ∧ ∀ x ∈ r.1, x ∈ a0 ∨ x.fTo = a3 ∨ x.fTo = 0)
abbrev Fl : Prop := ∀ {a0 a1}, Nx (Yq a0 a1) ((a0.length ≤ 2000000 ∧ a1.length ≤ 2000000) ∧ ∀ x ∈ a0, zB x) (fun r => (r.length ≤ a0.length ∧ ∀ x ∈ r, zB x) ∧ (∀ x ∈ r, x ∈ a0) ∧ r.filter Lp = a0.filter Lp)
abbrev WH : Prop := ∀ {a0 a1}, Nx (K9 a0 a1) (a0.length ≤ 2000000 ∧ (∀ x ∈ a0, okV x) ∧ okV a1) (fun r => (r.1.length ≤ a0.length + 1 ∧ ∀ x ∈ r.1, okV x) ∧ ∀ x ∈ r.1, x ∈ a0 ∨ x.fTo = a1.fd5 ∨ x.fTo = 0)
abbrev Au : Prop := ∀ {a0 a1}, Nx (Ju a0 a1) (a0.length ≤ 2000000 ∧ (∀ x ∈ a0, okV x)) (fun r => (r.1.length ≤ a0.length ∧ ∀ x ∈ r.1, okV x) ∧ ∀ x ∈ r.1, x ∈ a0 ∨ x.fTo = a1)
abbrev WI : Prop := ∀ {a0 a1}, Nx (Ka a0 a1) (a0.length ≤ 2000000 ∧ (∀ x ∈ a0, okV x)) (fun r => (r.1.length ≤ a0.length ∧ (∀ x ∈ r.1, okV x) ∧ okV r.2.1) ∧ (r.2.2 = 0 → (∀ x ∈ r.1, x ∈ a0) ∧ (r.2.1.fTo ≠ 0 → r.1.filter Q17 = a0.filter Q17)))
abbrev Dg : Prop := ∀ {a0 a1}, Nx (Y9 a0 a1) (a0.length ≤ 2000000) (fun r => r.length ≤ a0.length)
abbrev E8 : Prop := ∀ {a0 a1}, Nx (Xw a0 a1) (a0.length ≤ 2000000 ∧ a1.length ≤ 2000000) (fun r => r.length = a1.length ∧ ∀ (k : Nat), r[k]? = some true → k < a0.length)
abbrev Cc : Prop := ∀ {a0 a1}, Nx (Xg a0 a1) (a0.length ≤ 100000000 ∧ bB a0) (fun r => (∀ x ∈ r.1, zL x) ∧ r.1.length ≤ a0.length)
abbrev Gu : Prop := ∀ {a0}, Nx (W4 a0) (a0.length ≤ 2000000 ∧ ∀ x ∈ a0, zL x) (fun r => r.length ≤ 1024 * a0.length ∧ bB r)
abbrev Cd : Prop := ∀ {a0 a1}, Nx (Xh a0 a1) (zAr a0 ∧ bB a1) (fun r => zAr r.1)
abbrev Bo : Prop := ∀ {a0 a1}, Nx (Vy a0 a1) (True) (fun r => r.1 = clF a0 a1)
abbrev Ce : Prop := ∀ {a0 a1}, Nx (Xi a0 a1) (True) (fun r => r.1 = O3 a0 a1)
abbrev Bp : Prop := ∀ {a0 a1}, Nx (Vs a0 a1) (a0.fc5.length ≤ 2000000) (fun r => True)
abbrev XS : Prop := ∀ {a0 a1}, Nx (Kv a0 a1) (a0.fc5.length ≤ 2000000 ∧ 0 ≤ a0.f9) (fun r => r ≠ 16 ∧ (a1 = a0.f9 → r = 0))
abbrev Bq : Prop := ∀ {a0 a1}, Nx (Vv a0 a1) (a0.length ≤ 2000000) (fun r => (-1 ≤ r ∧ r < (a0.length : Int)) ∧ (r < 0 → a0.find? (obF a1) = none) ∧ (0 ≤ r → ∃ o, a0[r.toNat]? = some o ∧ a0.find? (obF a1) = some o))
abbrev XT : Prop := ∀ {a0 a1 a2}, Nx (Kw a0 a1 a2) (UO a0) (fun r => ((0 ≤ r.1 ∧ (r.2.2 = true → r.1 < (a0.fa6.length : Int))) ∧ okV r.2.1) ∧ (r.2.2 = false → view a0 a1 a2 = none) ∧ (r.2.2 = true → ∃ o, a0.fa6[r.1.toNat]? = some o ∧ r.2.1 ∈ o.fc0 ∧ view a0 a1 a2 = some (o.fID, r.2.1)))
abbrev VU : Prop := ∀ {a0 a1 a2}, Nx (ZW a0 a1 a2) (UO a0) (fun r => r.2.2 ≠ 16 ∧ VerP a0 a1 a2 r)
abbrev Br : Prop := ∀ {a0 a1}, Nx (Vw a0 a1) (UO a0 ∧ okV a1) (fun r => r.length ≤ a1.fa8.length ∧ ∀ x ∈ r, zL x)
abbrev Bs : Prop := ∀ {a0 a1 a2}, Nx (VY a0 a1 a2) (UO a0) (fun r => r.1.length ≤ 67108864 ∧ bB r.1)
abbrev Wt : Prop := ∀ {a0 a1}, Nx (Kx a0 a1) (UO a0) (fun r => True)
abbrev Dh : Prop := ∀ {a0}, Nx (Y8 a0) (UO a0) (fun r => r = (a0.fc4.fa8.length : Int))
abbrev Bt : Prop := ∀ {a0 a1 a2}, Nx (Vz a0 a1 a2) (UO a0 ∧ a1.size ≤ 2000000 ∧ a2.length ≤ 100000000 ∧ bB a2) (fun r => (UO r.1 ∧ r.2.2 ≠ 16) ∧ KE a0 r.1)
abbrev HO : Prop := ∀ {a0 a1 a2}, Nx (U8 a0 a1 a2) (UO a0 ∧ a2.length ≤ 100000000 ∧ bB a2) (fun r => (UO r.1 ∧ r.2.2 ≠ 16) ∧ KE a0 r.1)
abbrev Gv : Prop := ∀ {a0 a1}, Nx (Wd a0 a1) (UO a0 ∧ a1.size ≤ 2000000) (fun r => (UO r.1 ∧ r.2.2 ≠ 16) ∧ KE a0 r.1)
abbrev E9 : Prop := ∀ {a0 a1 a2}, Nx (XF a0 a1 a2) (UO a0 ∧ a1.size ≤ 2000000 ∧ a2.size ≤ 2000000) (fun r => (UO r.1 ∧ r.2.2 ≠ 16) ∧ KE a0 r.1)
abbrev Cq : Prop := ∀ {a0 a1}, Nx (Xe a0 a1) (UO a0) (fun r => (UO r.1 ∧ r.2 ≠ 16) ∧ KS a0 r.1)
abbrev UT : Prop := ∀ {a0 a1}, Nx (Jy a0 a1) (UO a0) (fun r => (UO r.1) ∧ KS a0 r.1)
abbrev Ea : Prop := ∀ {a0 a1 a2}, Nx (XB a0 a1 a2) (UO a0) (fun r => (UO r.1) ∧ KS a0 r.1)
abbrev Fo : Prop := ∀ {a0}, Nx (Yr a0) (UO a0) (fun r => (UO r.1) ∧ KS a0 r.1)
abbrev Fs : Prop := ∀ {a0 a1}, Nx (Yt a0 a1) (UO a0) (fun r => r.1.length ≤ 2000000)
abbrev Gw : Prop := ∀ {a0}, Nx (Wc a0) (True) (fun r => r.fa6 = a0.fa6 ∧ r.fc5 = a0.fc5)
abbrev Bu : Prop := ∀ {a0 a1}, Nx (VA a0 a1) (True) (fun r => True)
abbrev Cf : Prop := ∀ {a0}, Nx (JA a0) (True) (fun r => True)
abbrev CL : Prop := ∀ {a0 a1}, Nx (VP a0 a1) (a0.fc5.length ≤ 2000000) (fun r => True)
abbrev KF : Prop := ∀ {a0}, Nx (ZD a0) (True) (fun r => r = true → a0.size ≤ 32)
abbrev Zy : Prop := ∀ {a0}, Nx (Z3 a0) (True) (fun r => r = 0 → a0.fd4.size ≤ 32)
abbrev JV : Prop := ∀ {a0}, Nx (Zk a0) (True) (fun r => (r = 0 → 1 ≤ a0.f8 ∧ a0.f8 ≤ 6) ∧ r ≠ 16)
abbrev XM : Prop := ∀ {a0}, Nx (ZI a0) (True) (fun r => (r = 0 → a0.f8 = 5 → 0 ≤ a0.fb6) ∧ (r = 0 → a0.f8 = 2 → a0.fd4.size ≤ 32) ∧ (r = 0 → a0.f8 = 6 → a0.fd4.size ≤ 32) ∧ r ≠ 16)
abbrev Lq : Prop := ∀ {a0 a1}, Nx (ZU a0 a1) (a1.length ≤ 1000) (fun r => True)
abbrev Gx : Prop := ∀ {a0}, Nx (Y5 a0) (True) (fun r => True)
abbrev Ft : Prop := ∀ {a0 a1 a2}, Nx (Xd a0 a1 a2) (zOp a0) (fun r => True)
abbrev FO : Prop := ∀ {a0}, Nx (Jw a0) (zOp a0) (fun r => r = 0 → 1 ≤ a0.f8 ∧ a0.f8 ≤ 17)
abbrev Kr : Prop := ∀ {a0}, Nx (Z9 a0) (True) (fun r => (r = 0 → oN a0.fy ∧ oN a0.fa7) ∧ r ≠ 16)
abbrev Zs : Prop := ∀ {a0}, Nx (QQ a0) (zCm a0) (fun r => (r = 0 → oCm a0) ∧ r ≠ 16)
abbrev ZK : Prop := ∀ {a0}, Nx (QZ a0) (zLl a0) (fun r => (r = 0 → oLl a0) ∧ r ≠ 16)
abbrev Yc : Prop := ∀ {a0 a1}, Nx (ZH a0 a1) (a0.length ≤ 2000000) (fun r => -1 ≤ r ∧ r < (a0.length : Int))
abbrev Cg : Prop := ∀ {a0 a1}, Nx (Xb a0 a1) (True) (fun r => True)
abbrev Ks : Prop := ∀ {a0}, Nx (Zc a0) (zTp a0) (fun r => (r = 0 → oTp a0) ∧ r ≠ 16)
abbrev Zt : Prop := ∀ {a0}, Nx (QR a0) (zFr a0) (fun r => (r = 0 → oFr a0) ∧ r ≠ 16)
abbrev ZF : Prop := ∀ {a0}, Nx (QY a0) (zRk a0) (fun r => (r = 0 → oRk a0) ∧ r ≠ 16)
abbrev A5 : Prop := ∀ {a0 a1}, Nx (V0 a0 a1) (a0.length ≤ 2000000) (fun r => True)
abbrev UH : Prop := ∀ {a0 a1}, Nx (KM a0 a1) (zCm a0) (fun r => True)
abbrev Bv : Prop := ∀ {a0 a1}, Nx (JI a0 a1) (zLl a0) (fun r => True)
abbrev Wi : Prop := ∀ {a0 a1}, Nx (Kj a0 a1) (a0.length ≤ 2000000) (fun r => True)
abbrev Eb : Prop := ∀ {a0 a1}, Nx (Xs a0 a1) (zTp a0) (fun r => True)
abbrev UI : Prop := ∀ {a0 a1}, Nx (KN a0 a1) (zFr a0) (fun r => True)
abbrev BQ : Prop := ∀ {a0 a1}, Nx (V7 a0 a1) (zRk a0) (fun r => True)
abbrev Gy : Prop := ∀ {a0 a1}, Nx (YX a0 a1) (zS a0) (fun r => True)
abbrev Gz : Prop := ∀ {a0}, Nx (YY a0) (zS a0) (fun r => zS r)
abbrev Vh : Prop := ∀ {a0}, Nx (ZA a0) (zS a0) (fun r => (r = 0 → 1 ≤ a0.fj.f8 ∧ a0.fj.f8 ≤ 6) ∧ r ≠ 16)
abbrev VB : Prop := ∀ {a0}, Nx (QV a0) (a0 ≤ 9223372036854775807) (fun r => r.length ≤ 10 ∧ bB r ∧ (a0 < 248 → r.length = 1) ∧ ∀ k : Nat, a0 < 256 ^ k → r.length ≤ k + 1)
abbrev Uh : Prop := ∀ {a0}, Nx (Vp a0) (True) (fun r => r.length = 1 ∧ bB r)
abbrev Av : Prop := ∀ {a0}, Nx (Jj a0) (True) (fun r => r.1.length ≤ 60000 ∧ bB r.1)
abbrev EG : Prop := ∀ {a0}, Nx (YN a0) (True) (fun r => r.length = 8 ∧ bB r)
abbrev WJ : Prop := ∀ {a0}, Nx (K3 a0) (zCm a0) (fun r => r.1.length ≤ 60000 ∧ bB r.1)
abbrev UJ : Prop := ∀ {a0}, Nx (KO a0) (zLl a0) (fun r => r.1.length ≤ 60000 ∧ bB r.1)
abbrev Cs : Prop := ∀ {a0}, Nx (Y2 a0) (a0.size ≤ 2000000) (fun r => r.length ≤ a0.size + 10 ∧ bB r)
abbrev BR : Prop := ∀ {a0}, Nx (V9 a0) (zTp a0) (fun r => r.1.length ≤ 60000 ∧ bB r.1)
abbrev WK : Prop := ∀ {a0}, Nx (K4 a0) (zFr a0) (fun r => r.1.length ≤ 60000 ∧ bB r.1)
abbrev Aw : Prop := ∀ {a0}, Nx (Jk a0) (zRk a0) (fun r => r.1.length ≤ 60000 ∧ bB r.1)
abbrev CM : Prop := ∀ {a0}, Nx (VJ a0) (a0.length ≤ 100000000) (fun r => True)
abbrev Ax : Prop := ∀ {a0 a1 a2}, Nx (Jl a0 a1 a2) (True) (fun r => zCm r.1)
abbrev BS : Prop := ∀ {a0 a1}, Nx (Va a0 a1) (True) (fun r => zLl r.1)
abbrev Fu : Prop := ∀ {a0}, Nx (Yg a0) (True) (fun r => r.1.fq = [])
abbrev Ay : Prop := ∀ {a0}, Nx (Jm a0) (True) (fun r => r.1.fq = [])
abbrev CN : Prop := ∀ {a0}, Nx (VK a0) (True) (fun r => r.1.fa9 = [])
abbrev Uu : Prop := ∀ {a0}, Nx (Jv a0) (True) (fun r => r = decide (0 ≤ a0 ∧ a0 ≤ 1073741824))
abbrev A6 : Prop := ∀ {a0 a1}, Nx (V1 a0 a1) (True) (fun r => True)
abbrev Az : Prop := ∀ {a0 a1}, Nx (Jn a0 a1) (True) (fun r => True)
abbrev Ec : Prop := ∀ {a0}, Nx (W0 a0) (True) (fun r => 0 ≤ r ∧ r ≤ 18446744073709551615)
abbrev EH : Prop := ∀ {a0 a1}, Nx (YP a0 a1) (a0.length = 256 ∧ a1.size ≤ 2000000) (fun r => 0 ≤ r.1 ∧ r.1 ≤ 18446744073709551615)
abbrev Di : Prop := ∀ {a0}, Nx (Y3 a0) (True) (fun r => r.length = 256)
abbrev Lr : Prop := ∀ {a0 a1}, Nx (Aj a0 a1) (True) (fun r => True)
abbrev Fv : Prop := ∀ {a0 a1 a2 a3}, Nx (Yh a0 a1 a2 a3) (a3.size ≤ 2000000) (fun r => 0 ≤ r.1 ∧ (0 ≤ a1 → a1 ≤ 7 → 1 ≤ a2 → a2 ≤ 64 → r.1 < a2))
abbrev EI : Prop := ∀ {a0 a1 a2}, Nx (Y4 a0 a1 a2) (((1 ≤ a0.fa4 ∧ a0.fa4 ≤ 8) ∧ (1 ≤ a0.fu ∧ a0.fu ≤ 64) ∧ (a0.fb9.length : Int) = a0.fa4 * a0.fu) ∧ (0 ≤ a1 ∧ a1 < a0.fa4) ∧ a2.size ≤ 2000000) (fun r => 0 ≤ r ∧ r < (a0.fb9.length : Int))
abbrev WL : Prop := ∀ {a0 a1}, Nx (K5 a0 a1) (zCm a0 ∧ zI a1) (fun r => zCm r.1)
abbrev CQ : Prop := ∀ {a0 a1 a2}, Nx (VL a0 a1 a2) ((2 ≤ a0 ∧ a0 ≤ 8) ∧ a2.size ≤ 2000000) (fun r => 0 ≤ r.1 ∧ r.1 < XX .i64 1 (IntKind.u64.wrap a0))
abbrev UK : Prop := ∀ {a0 a1}, Nx (KP a0 a1) (zLl a0 ∧ zI a1) (fun r => zLl r.1)
abbrev AK : Prop := ∀ {a0}, Nx (K1 a0) (a0.length ≤ 2000000 ∧ ∀ x ∈ a0, zE x) (fun r => r.length = a0.length ∧ ∀ x ∈ r, zE x)
abbrev Wj : Prop := ∀ {a0 a1}, Nx (QX a0 a1) (True) (fun r => True)
abbrev Dj : Prop := ∀ {a0}, Nx (VX a0) (a0.fq.length ≤ 2000000) (fun r => True)
abbrev BU : Prop := ∀ {a0 a1}, Nx (Vd a0 a1) (zTp a0 ∧ zI a1) (fun r => zTp r.1)
abbrev Dk : Prop := ∀ {a0 a1}, Nx (Je a0 a1) (a0.length ≤ 1000000 ∧ (∀ x ∈ a0, zE x) ∧ zE a1) (fun r => r.length ≤ a0.length + 1 ∧ ∀ x ∈ r, zE x)
abbrev Dl : Prop := ∀ {a0 a1}, Nx (JK a0 a1) (a0.length ≤ 1000000 ∧ ∀ x ∈ a0, zE x) (fun r => r.length ≤ a0.length ∧ ∀ x ∈ r, zE x)
abbrev WM : Prop := ∀ {a0 a1}, Nx (K6 a0 a1) (zFr a0 ∧ zI a1) (fun r => zFr r.1)
abbrev A7 : Prop := ∀ {a0}, Nx (V2 a0) (True) (fun r => r = decide (0 ≤ a0 ∧ a0 ≤ 1073741824))
abbrev VG : Prop := ∀ {a0}, Nx (ZO a0) (a0.length ≤ 100000000 ∧ bB a0) (fun r => (0 ≤ r.2.1 ∧ r.2.1 ≤ (a0.length : Int)) ∧ 0 ≤ r.1 ∧ (r.2.2 = 0 → (r.2.1 = 1 ∧ r.1 < 248) ∨ ∃ k : Nat, r.2.1 = (k : Int) + 1 ∧ r.1 < 256 ^ k) ∧ r.2.2 ≠ 16)
abbrev Uv : Prop := ∀ {a0 a1}, Nx (Vm a0 a1) (a1.length ≤ 100000000 ∧ bB a1 ∧ oB a0) (fun r => r.1.length ≤ a1.length + 20 ∧ bB r.1 ∧ ((a1.length : Int) < 248 → r.1.length ≤ a1.length + 6) ∧ (∀ k : Nat, (a1.length : Int) < 256 ^ k → r.1.length ≤ a1.length + k + 6) ∧ (a1.length ≤ 1048576 → 5 ≤ r.1.length))
abbrev Bw : Prop := ∀ {a0}, Nx (Vx a0) (a0.length ≤ 100000000 ∧ bB a0) (fun r => r.2.1.length ≤ 100000000 ∧ bB r.2.1 ∧ r.2.2.2 ≠ 16)
abbrev Fw : Prop := ∀ {a0}, Nx (Yi a0) (True) (fun r => r.length ≤ 63 ∧ ∀ x ∈ r, 0 ≤ x ∧ x ≤ 62)
abbrev Fx : Prop := ∀ {a0}, Nx (Yj a0) (a0.length ≤ 2000000 ∧ ∀ x ∈ a0, x.size ≤ 2000000) (fun r => r.length = a0.length ∧ ∀ x ∈ r, x.size ≤ 2000000)
abbrev Ls : Prop := ∀ {a0 a1}, Nx (Ak a0 a1) (a0.length ≤ 2000000 ∧ -2147483648 ≤ a1 ∧ a1 ≤ 2147483648) (fun r => 0 ≤ r ∧ r ≤ 1)
abbrev Ch : Prop := ∀ {a0 a1 a2 a3 a4}, Nx (Xc a0 a1 a2 a3 a4) ((a0.length ≤ 200 ∧ ∀ x ∈ a0, x.length ≤ 900 ∧ ∀ k ∈ x, k.size ≤ 2000000) ∧ (0 ≤ a4 ∧ a4 ≤ 1073741824) ∧ a3.length ≤ 2000000) (fun r => r.1.length ≤ 2000 ∧ ∀ x ∈ r.1, zKs x)
abbrev AA : Prop := ∀ {a0 a1 a2 a3}, Nx (Jo a0 a1 a2 a3) (zRk a0 ∧ zI a1 ∧ a2.length ≤ 2000000) (fun r => zRk r.1)
abbrev By : Prop := ∀ {a0 a1 a2 a3}, Nx (JS a0 a1 a2 a3) (zRk a0 ∧ zRk a1 ∧ a2.length ≤ 2000000) (fun r => zRk r.1)
abbrev ZS : Prop := ∀ {a0 a1}, Nx (Qh a0 a1) (zRd a0) (fun r => zRd r.2 ∧ 0 ≤ r.1 ∧ (0 ≤ a1 → r.1 ≤ a1))
abbrev Kt : Prop := ∀ {a0}, Nx (Zi a0) (True) (fun r => r.2 = a0)
abbrev AB : Prop := ∀ {a0}, Nx (Jq a0) (a0.length ≤ 100000000 ∧ bB a0) (fun r => True)
abbrev Bz : Prop := ∀ {a0}, Nx (JN a0) (a0.length ≤ 100000000) (fun r => 0 ≤ r.2.1 ∧ r.2.1 ≤ (a0.length : Int))
abbrev Wk : Prop := ∀ {a0}, Nx (Kn a0) (zRd a0) (fun r => zRd r.2)
abbrev WN : Prop := ∀ {a0}, Nx (K7 a0) (a0.length ≤ 100000000 ∧ bB a0) (fun r => zCm r.1)
abbrev UL : Prop := ∀ {a0}, Nx (KR a0) (a0.length ≤ 100000000 ∧ bB a0) (fun r => zLl r.1)
abbrev BA : Prop := ∀ {a0}, Nx (JO a0) (a0.length ≤ 100000000 ∧ bB a0) (fun r => (0 ≤ r.2.1 ∧ r.2.1 ≤ (a0.length : Int)) ∧ r.1.size ≤ 2000000)
abbrev XI : Prop := ∀ {a0}, Nx (ZV a0) (zRd a0) (fun r => zRd r.2 ∧ r.1.size ≤ 2000000)
abbrev BV : Prop := ∀ {a0}, Nx (Ve a0) (a0.length ≤ 100000000 ∧ bB a0) (fun r => zTp r.1)
abbrev WO : Prop := ∀ {a0}, Nx (K8 a0) (a0.length ≤ 100000000 ∧ bB a0) (fun r => zFr r.1)
abbrev AC : Prop := ∀ {a0}, Nx (Jr a0) (a0.length ≤ 100000000 ∧ bB a0) (fun r => zRk r.1)
abbrev BB : Prop := ∀ {a0 a1}, Nx (JR a0 a1) (True) (fun r => True)
abbrev Ui : Prop := ∀ {a0 a1}, Nx (Ko a0 a1) (zCm a0 ∧ zCm a1) (fun r => zCm r.1)
abbrev AD : Prop := ∀ {a0 a1}, Nx (Js a0 a1) (zLl a0 ∧ zLl a1) (fun r => zLl r.1)
abbrev BC : Prop := ∀ {a0 a1}, Nx (ZL a0 a1) (zTp a0 ∧ a1.size ≤ 2000000) (fun r => zE r.1)
abbrev CS : Prop := ∀ {a0 a1}, Nx (VO a0 a1) (zTp a0 ∧ zTp a1) (fun r => zTp r.1)
abbrev Uj : Prop := ∀ {a0 a1}, Nx (Kq a0 a1) (zFr a0 ∧ zFr a1) (fun r => zFr r.1)
abbrev YJ : Prop := ∀ {a0 a1}, Nx (ZM a0 a1) (zCm a0 ∧ a1.size ≤ 2000000) (fun r => True)
abbrev UM : Prop := ∀ {a0 a1}, Nx (KT a0 a1) (zFr a0) (fun r => True)
abbrev Ed : Prop := ∀ {a0 a1}, Nx (XC a0 a1) (True) (fun r => True)
abbrev Fy : Prop := ∀ {a0 a1 a2}, Nx (Ys a0 a1 a2) (True) (fun r => True)
abbrev WP : Prop := ∀ {a0}, Nx (Kb a0) (zLl a0) (fun r => True)
abbrev EJ : Prop := ∀ {a0 a1}, Nx (YR a0 a1) (zRk a0) (fun r => True)
abbrev HP : Prop := ∀ {a0 a1}, Nx (Ud a0 a1) (zRk a0) (fun r => True)
abbrev CW : Prop := ∀ {a0 a1 a2}, Nx (VS a0 a1 a2) (zRk a0) (fun r => r.1.size ≤ 2000000 ∧ r.2 ≠ 16)
abbrev EK : Prop := ∀ {a0}, Nx (YO a0) (True) (fun r => zS r.1)
abbrev BD : Prop := ∀ {a0 a1 a2 a3}, Nx (Vq a0 a1 a2 a3) (zS a0 ∧ zI a1 ∧ a2.length ≤ 2000000) (fun r => zS r.1)
abbrev Fz : Prop := ∀ {a0 a1 a2 a3}, Nx (Yp a0 a1 a2 a3) (zS a0 ∧ zS a1 ∧ a2.length ≤ 2000000) (fun r => zS r.1)
abbrev YK : Prop := ∀ {a0}, Nx (KY a0) (zS a0) (fun r => r.1.length ≤ 70000 ∧ bB r.1)
abbrev Uk : Prop := ∀ {a0}, Nx (JP a0) (a0.length ≤ 100000000 ∧ bB a0) (fun r => zS r.1 ∧ r.2 ≠ 16)
abbrev Wn : Prop := ∀ {a0}, Nx (Jf a0) (zS a0) (fun r => (r.1.length ≤ 2000000) ∧ r.2 ≠ 16)
abbrev WU : Prop := ∀ {a0}, Nx (KW a0) (True) (fun r => True)
abbrev EL : Prop := ∀ {a0 a1}, Nx (YS a0 a1) (zS a0) (fun r => r.2 ≠ 16)
abbrev FA : Prop := ∀ {a0}, Nx (Yo a0) (zS a0) (fun r => True)
abbrev GA : Prop := ∀ {a0}, Nx (W8 a0) (a0.length ≤ 90000000 ∧ bB a0) (fun r => r.1.length ≤ 100000000 ∧ bB r.1)
abbrev Ee : Prop := ∀ {a0}, Nx (Xz a0) (a0.length ≤ 100000000 ∧ bB a0) (fun r => r.1.length ≤ 100000000 ∧ bB r.1 ∧ r.2 ≠ 16)
abbrev JW : Prop := ∀ {a0 a1}, Nx (QW a0 a1) (UO a0 ∧ a1 ≠ 16) (fun r => (Mq r ∧ r.fa.fd7 = 0) ∧ r.fx = a0 ∧ r.fg4 = true)
abbrev Yd : Prop := ∀ {a0 a1 a2}, Nx (Ke a0 a1 a2) (UO a0 ∧ a2 ≠ 16) (fun r => (Mq r ∧ r.fa.fd7 = 0) ∧ r.fx = a0 ∧ r.fg4 = true)
abbrev Cu : Prop := ∀ {a0 a1}, Nx (Vt a0 a1) (UO a0 ∧ zMa a1) (fun r => (UO r.1 ∧ zMa r.2) ∧ KS a0 r.1)
abbrev Ci : Prop := ∀ {a0 a1}, Nx (Xf a0 a1) (UO a0 ∧ a1.length ≤ 2000000) (fun r => ((UO r.1 ∧ zMa r.2.1 ∧ (r.2.2 = 0 → (r.2.1.fc0.length : Int) = (a1.length : Int))) ∧ r.2.2 ≠ 16) ∧ KS a0 r.1 ∧ (r.2.2 = 0 → r.2.1.fg3 = a0.f9 ∧ Shw a0 a1 r.2.1.fc0) ∧ (r.2.2 ≠ 0 → r.1 = a0))
abbrev WV : Prop := ∀ {a0 a1 a2}, Nx (KV a0 a1 a2) (UO a0 ∧ zMa a1 ∧ a2.length ≤ 2000000) (fun r => Shw a0 a2 a1.fc0 → r = true)
abbrev EM : Prop := ∀ {a0 a1 a2}, Nx (YQ a0 a1 a2) (UO a0 ∧ zMa a2) (fun r => (Mq r ∧ r.fa.fd7 = 0) ∧ r.fg4 = true ∧ YA a0 r)
abbrev FB : Prop := ∀ {a0 a1 a2 a3}, Nx (Yn a0 a1 a2 a3) (UO a0 ∧ a1 ≤ 64 ∧ zOp a2 ∧ zMa a3 ∧ a3.fd7 ≤ (a2.fa7.length : Int)) (fun r => (Mq r ∧ r.fa.fd7 ≤ (a2.fa7.length : Int)) ∧ YA a0 r ∧ BtP a0 a1 a2.fd2 (a2.fa7.length : Int) a3 r)
abbrev Eg : Prop := ∀ {a0 a1 a2 a3}, Nx (Xx a0 a1 a2 a3) (UO a0 ∧ a1 ≤ 64 ∧ zOp a2 ∧ zMa a3) (fun r => Mq r ∧ YA a0 r)
abbrev GB : Prop := ∀ {a0}, Nx (W9 a0) (a0.length = 4) (fun r => 0 ≤ r.1 ∧ r.1 ≤ 3)
abbrev GC : Prop := ∀ {a0 a1 a2 a3 a4}, Nx (Wa a0 a1 a2 a3 a4) (UO a0 ∧ a1 ≤ 64 ∧ a2.length = 4 ∧ zOp a3 ∧ zMa a4) (fun r => Mq r ∧ YA a0 r ∧ OpP a1 (a3.fb2.length : Int) a4 r)
abbrev YL : Prop := ∀ {a0 a1 a2}, Nx (KC a0 a1 a2) (a0.length = 4 ∧ ∀ y ∈ a0, zSn y) (fun r => zSn r.1 ∧ r.2.2 ≠ 16)
abbrev YM : Prop := ∀ {a0 a1 a2}, Nx (Jb a0 a1 a2) (UO a0) (fun r => zS r.1 ∧ r.2.2 ≠ 16)
abbrev HQ : Prop := ∀ {a0 a1 a2 a3 a4}, Nx (Ue a0 a1 a2 a3 a4) (UO a0 ∧ a1.length = 4 ∧ ∀ y ∈ a1, zSn y) (fun r => Po r)
abbrev WQ : Prop := ∀ {a0 a1 a2}, Nx (Kc a0 a1 a2) (UO a0 ∧ a1.length = 4 ∧ ∀ y ∈ a1, zSn y) (fun r => (UO r.1 ∧ r.2.1.length = 4 ∧ (∀ y ∈ r.2.1, zSn y) ∧ Po r.2.2) ∧ KS a0 r.1)
abbrev AE : Prop := ∀ {a0 a1 a2 a3 a4}, Nx (Jt a0 a1 a2 a3 a4) (UO a0 ∧ a1.length = 4 ∧ (∀ y ∈ a1, zSn y) ∧ a2.length = 4) (fun r => (UO r.1 ∧ r.2.1.length = 4 ∧ Po r.2.2) ∧ KS a0 r.1)
abbrev BW : Prop := ∀ {a0 a1 a2 a3}, Nx (Vg a0 a1 a2 a3) (UO a0 ∧ a1.length = 4) (fun r => r.1.length = 4 ∧ Po r.2)
abbrev UN : Prop := ∀ {a0 a1 a2}, Nx (KU a0 a1 a2) (UO a0 ∧ a1.length = 4) (fun r => (UO r.1 ∧ r.2.1.length = 4 ∧ Po r.2.2) ∧ KS a0 r.1)
abbrev Eh : Prop := ∀ {a0 a1 a2 a3 a4}, Nx (Xy a0 a1 a2 a3 a4) (UO a0 ∧ Qif a1 ∧ a2.length = 4 ∧ (∀ y ∈ a2, zSn y) ∧ zMa a4) (fun r => Mq r ∧ YA a0 r)
abbrev Ei : Prop := ∀ {a0 a1 a2 a3}, Nx (XA a0 a1 a2 a3) (UO a0 ∧ Qif a1 ∧ zOp a2 ∧ zMa a3) (fun r => Mq r ∧ YA a0 r ∧ ImP a1 (a2.fc2.length : Int) a3 r)
abbrev Ul : Prop := ∀ {a0 a1}, Nx (Zj a0 a1) (UO a0 ∧ Po a1) (fun r => Mq r ∧ r.fx = a0 ∧ r.fg4 = true)
abbrev BX : Prop := ∀ {a0}, Nx (Vf a0) (zD a0) (fun r => r.length ≤ 1099511627776)
abbrev GD : Prop := ∀ {a0 a1 a2}, Nx (Wb a0 a1 a2) (zD a0 ∧ a2 ≤ 64) (fun r => r.1.length ≤ 64)
abbrev CX : Prop := ∀ {a0 a1}, Nx (VR a0 a1) (UO a0 ∧ zMa a1) (fun r => Mq r ∧ YA a0 r)
abbrev Ej : Prop := ∀ {a0 a1}, Nx (XG a0 a1) (UO a0 ∧ zOp a1) (fun r => Mq r ∧ r.fg4 = true ∧ YA a0 r)
abbrev Mu : Prop := ∀ {a0 a1}, Nx (We a0 a1) (UO a0 ∧ zSe a1) (fun r => Mq r.1 ∧ (r.2.fd0.length = 4 ∧ r.2.ff6.length = 4 ∧ ∀ y ∈ r.2.fd0, zSn y) ∧ (r.2.fOp = a1.fOp ∧ r.2.fa = a1.fa ∧ r.2.ff5 = a1.ff5 ∧ r.2.fd6 = a1.fd6) ∧ (a1.fOp.f8 = 6 → r.1.fa.fd7 ≤ (a1.fOp.fa7.length : Int)) ∧ YA a0 r.1 ∧ ((a1.fOp.f8 = 6 → BtP a0 a0.fk.fb5 a1.fOp.fd2 (a1.fOp.fa7.length : Int) a1.fa r.1) ∧ (a1.fOp.f8 = 9 → OpP a0.fk.fb5 (a1.fOp.fb2.length : Int) a1.fa r.1) ∧ (a1.fOp.f8 = 16 → ImP a0.fk (a1.fOp.fc2.length : Int) a1.fa r.1) ∧ (a1.fOp.f8 ≠ 6 → a1.fOp.f8 ≠ 7 → a1.fOp.f8 ≠ 8 → a1.fOp.f8 ≠ 9 → a1.fOp.f8 ≠ 15 → a1.fOp.f8 ≠ 16 → a1.fOp.f8 ≠ 17 → r.1.fg4 = true)))
abbrev IT : Prop := ∀ {a0}, Nx (Jx a0) (True) (fun r => Qqh r)
abbrev EN : Prop := ∀ {a0}, Nx (Zm a0) (True) (fun r => r.size ≤ 16)
abbrev UU : Prop := ∀ {a0}, Nx (Vk a0) (True) (fun r => True)
abbrev BY : Prop := ∀ {a0 a1}, Nx (VD a0 a1) (0 ≤ a1) (fun r => True)
abbrev Mv : Prop := ∀ {a0}, Nx (YV a0) (True) (fun r => r.length = 6 ∧ ∀ x ∈ r, zEv x)
abbrev Ek : Prop := ∀ {a0}, Nx (Ye a0) (True) (fun r => r.size ≤ 32)
abbrev Dm : Prop := ∀ {a0}, Nx (VW a0) (True) (fun r => True)
abbrev HR : Prop := ∀ {a0}, Nx (U2 a0) (True) (fun r => zI r)
abbrev Dn : Prop := ∀ {a0 a1}, Nx (Y0 a0 a1) (0 ≤ a1 ∧ a1 ≤ 100) (fun r => (r.length : Int) = a1 ∧ ∀ x ∈ r, zI x)
abbrev Do : Prop := ∀ {a0}, Nx (Vl a0) (True) (fun r => r.length ≤ 4)
abbrev GE : Prop := ∀ {a0 a1}, Nx (YZ a0 a1) (a1.length ≤ 1000000 ∧ bB a1 ∧ oB a0) (fun r => r.length ≤ a1.length + 20 ∧ bB r)
abbrev FC : Prop := ∀ {a0}, Nx (Yf a0) (zS a0) (fun r => r.length ≤ 80000 ∧ bB r)
abbrev HU : Prop := ∀ {a0 a1 a2}, Nx (U4 a0 a1 a2) ((a1.length ≤ 1000 ∧ ∀ x ∈ a1, zI x) ∧ a2.length ≤ 2000000) (fun r => zS r)
abbrev FD : Prop := ∀ {a0}, Nx (Yk a0) (True) (fun r => zS r)
abbrev Ni : Prop := ∀ {a0 a1}, Nx (AI a0 a1) (0 ≤ a1 ∧ a1 ≤ 1000) (fun r => zOn 1000000 r)
abbrev CY : Prop := ∀ {a0}, Nx (VM a0) (0 ≤ a0) (fun r => True)
abbrev GF : Prop := ∀ {a0 a1}, Nx (W2 a0 a1) (zOn 5000000 a0) (fun r => zOg a0 r)
abbrev IU : Prop := ∀ {a0 a1 a2}, Nx (Yl a0 a1 a2) (a1 ≠ 0 ∧ (0 ≤ a2 ∧ a2 ≤ 1000)) (fun r => (r.length : Int) = a2 ∧ ∀ x ∈ r, zEv x)
end Go.Proofs.YtimfmcpbkdpmoaaGreat
