/- Parts of the proof, laid together. No condition. -/
import Derived.Test.YtikagchjeogchaaGreatKB2
set_option linter.unusedVariables false
set_option linter.unusedSimpArgs false
namespace Go.Proofs.YtikagchjeogchaaGreat
open Go.RowKit
structure Zf where
 fa5 : Int
 fa9 : Int
 fa6 : Int
 fc1 : Int
 fc4 : Int
 fc8 : Int
 fd6 : Int
def BR (x : Zf) : List PV := [.v (.int .i64 (x.fa5)), .v (.int .i64 (x.fa9)), .v (.int .i64 (x.fa6)), .v (.int .i64 (x.fc1)), .v (.int .i64 (x.fc4)), .v (.int .i64 (x.fc8)), .v (.int .i64 (x.fd6))]
structure QA where
 fd9 : Int
 fTo : Int
 fq : Int
 fa6 : (List Int)
def Ze (x : QA) : List PV := [.v (.int .i64 (x.fd9)), .v (.int .i64 (x.fTo)), .v (.int .i64 (x.fq)), .l 1 (List.map (eI .i64) (x.fa6))]
structure QV where
 fID : Int
 fd1 : (List QA)
def Ql (x : QV) : List PV := [.v (.int .i64 (x.fID)), .l 4 (List.map Ze (x.fd1))]
structure Qt where
 fd3 : ByteArray
 fb9 : Int
 fd9 : Int
 fTo : Int
def Qd (x : Qt) : List PV := [.v (.string (x.fd3)), .v (.int .i64 (x.fb9)), .v (.int .i64 (x.fd9)), .v (.int .i64 (x.fTo))]
structure QQ where
 fa2 : Int
 fb2 : Int
def Qn (x : QQ) : List PV := [.v (.int .i64 (x.fa2)), .v (.int .i64 (x.fb2))]
structure QD where
 fh3 : Int
 fh9 : Int
 fc5 : (List Int)
def Qo (x : QD) : List PV := [.v (.int .i64 (x.fh3)), .v (.int .i64 (x.fh9)), .l 1 (List.map (eI .u8) (x.fc5))]
structure QB where
 fc2 : Int
 fa6 : (List QD)
def AM (x : QB) : List PV := [.v (.int .i64 (x.fc2)), .l 3 (List.map Qo (x.fa6))]
structure Qe where
 fo : Zf
 fa2 : Int
 ff6 : Int
 fb4 : (List QV)
 fb6 : (List Qt)
 fc4 : (List QQ)
 fc3 : QB
def Qv (x : Qe) : List PV := [.v (.int .i64 (x.fo.fa5)), .v (.int .i64 (x.fo.fa9)), .v (.int .i64 (x.fo.fa6)), .v (.int .i64 (x.fo.fc1)), .v (.int .i64 (x.fo.fc4)), .v (.int .i64 (x.fo.fc8)), .v (.int .i64 (x.fo.fd6)), .v (.int .i64 (x.fa2)), .v (.int .i64 (x.ff6)), .l 2 (List.map Ql (x.fb4)), .l 4 (List.map Qd (x.fb6)), .l 2 (List.map Qn (x.fc4)), .v (.int .i64 (x.fc3.fc2)), .l 3 (List.map Qo (x.fc3.fa6))]
structure QK where
 fh7 : Bool
 fa2 : Int
 fa9 : (List ByteArray)
def Kr (x : QK) : List PV := [.v (.bool (x.fh7)), .v (.int .i64 (x.fa2)), .l 1 (List.map eS (x.fa9))]
structure Zo where
 fh7 : Bool
 fa2 : Int
 fd3 : ByteArray
 fh8 : Int
def Xu (x : Zo) : List PV := [.v (.bool (x.fh7)), .v (.int .i64 (x.fa2)), .v (.string (x.fd3)), .v (.int .i64 (x.fh8))]
structure Q6 where
 f7 : Int
 fq : Int
 fa0 : Int
 f8 : Int
def Ew (x : Q6) : List PV := [.v (.int .i64 (x.f7)), .v (.int .i64 (x.fq)), .v (.int .i64 (x.fa0)), .v (.int .u64 (x.f8))]
structure QY where
 fc9 : ByteArray
 fg4 : Int
def Zk (x : QY) : List PV := [.v (.string (x.fc9)), .v (.int .i64 (x.fg4))]
structure Qi where
 f7 : Int
 fc9 : ByteArray
 fb2 : Int
 fg8 : Int
 fg7 : Int
def FW (x : Qi) : List PV := [.v (.int .i64 (x.f7)), .v (.string (x.fc9)), .v (.int .i64 (x.fb2)), .v (.int .i64 (x.fg8)), .v (.int .i64 (x.fg7))]
structure Qj where
 f7 : Int
 fd3 : ByteArray
 fg : ByteArray
 fa9 : (List ByteArray)
 fj : Q6
 fb1 : (List QY)
 ff4 : (List Int)
 fd2 : Int
 ff1 : Int
 fb5 : Int
 ff7 : Int
 fc7 : Int
 fb2 : Int
 fa4 : Qi
 fc5 : (List Int)
def Ks (x : Qj) : List PV := [.v (.int .i64 (x.f7)), .v (.string (x.fd3)), .v (.string (x.fg)), .l 1 (List.map eS (x.fa9)), .v (.int .i64 (x.fj.f7)), .v (.int .i64 (x.fj.fq)), .v (.int .i64 (x.fj.fa0)), .v (.int .u64 (x.fj.f8)), .l 2 (List.map Zk (x.fb1)), .l 1 (List.map (eI .u8) (x.ff4)), .v (.int .i64 (x.fd2)), .v (.int .i64 (x.ff1)), .v (.int .i64 (x.fb5)), .v (.int .i64 (x.ff7)), .v (.int .i64 (x.fc7)), .v (.int .i64 (x.fb2)), .v (.int .i64 (x.fa4.f7)), .v (.string (x.fa4.fc9)), .v (.int .i64 (x.fa4.fb2)), .v (.int .i64 (x.fa4.fg8)), .v (.int .i64 (x.fa4.fg7)), .l 1 (List.map (eI .u8) (x.fc5))]
structure Qc where
 fx : Int
 fb1 : Int
 fc : Bool
def UH (x : Qc) : List PV := [.v (.int .i64 (x.fx)), .v (.int .i64 (x.fb1)), .v (.bool (x.fc))]
structure Q3 where
 fa0 : Int
 fq : Int
 f8 : Int
 fb7 : (List Int)
 fc : Bool
def JR (x : Q3) : List PV := [.v (.int .i64 (x.fa0)), .v (.int .i64 (x.fq)), .v (.int .u64 (x.f8)), .l 1 (List.map (eI .i64) (x.fb7)), .v (.bool (x.fc))]
structure Q7 where
 fa3 : Int
 f8 : Int
 fa1 : (List Int)
def Yu (x : Q7) : List PV := [.v (.int .i64 (x.fa3)), .v (.int .u64 (x.f8)), .l 1 (List.map (eI .i64) (x.fa1))]
structure Q5 where
 fc9 : ByteArray
 fb2 : Int
 fd8 : Int
def Q1 (x : Q5) : List PV := [.v (.string (x.fc9)), .v (.int .i64 (x.fb2)), .v (.int .i64 (x.fd8))]
structure Qf where
 fq : Int
 fx : Int
 fk : (List Q5)
 fc : Bool
def Ah (x : Qf) : List PV := [.v (.int .i64 (x.fq)), .v (.int .i64 (x.fx)), .l 3 (List.map Q1 (x.fk)), .v (.bool (x.fc))]
structure Q4 where
 fq : Int
 fx : Int
 fd4 : Int
 fk : (List Q5)
 fc : Bool
def VL (x : Q4) : List PV := [.v (.int .i64 (x.fq)), .v (.int .i64 (x.fx)), .v (.int .i64 (x.fd4)), .l 3 (List.map Q1 (x.fk)), .v (.bool (x.fc))]
structure Q9 where
 fq : Int
 fx : Int
 fc6 : Int
 fa7 : (List (List ByteArray))
 fc : Bool
def XD (x : Q9) : List PV := [.v (.int .i64 (x.fq)), .v (.int .i64 (x.fx)), .v (.int .i64 (x.fc6)), .l 1 (List.map (eL 1 eS) (x.fa7)), .v (.bool (x.fc))]
structure Q8 where
 fj : Q6
 f9 : Qc
 fh : Q3
 f0 : Q7
 fb3 : Qf
 fi : Q4
 fw : Q9
def KO (x : Q8) : List PV := [.v (.int .i64 (x.fj.f7)), .v (.int .i64 (x.fj.fq)), .v (.int .i64 (x.fj.fa0)), .v (.int .u64 (x.fj.f8)), .v (.int .i64 (x.f9.fx)), .v (.int .i64 (x.f9.fb1)), .v (.bool (x.f9.fc)), .v (.int .i64 (x.fh.fa0)), .v (.int .i64 (x.fh.fq)), .v (.int .u64 (x.fh.f8)), .l 1 (List.map (eI .i64) (x.fh.fb7)), .v (.bool (x.fh.fc)), .v (.int .i64 (x.f0.fa3)), .v (.int .u64 (x.f0.f8)), .l 1 (List.map (eI .i64) (x.f0.fa1)), .v (.int .i64 (x.fb3.fq)), .v (.int .i64 (x.fb3.fx)), .l 3 (List.map Q1 (x.fb3.fk)), .v (.bool (x.fb3.fc)), .v (.int .i64 (x.fi.fq)), .v (.int .i64 (x.fi.fx)), .v (.int .i64 (x.fi.fd4)), .l 3 (List.map Q1 (x.fi.fk)), .v (.bool (x.fi.fc)), .v (.int .i64 (x.fw.fq)), .v (.int .i64 (x.fw.fx)), .v (.int .i64 (x.fw.fc6)), .l 1 (List.map (eL 1 eS) (x.fw.fa7)), .v (.bool (x.fw.fc))]
structure QG where
 fb9 : Int
 fd9 : Int
def Lq (x : QG) : List PV := [.v (.int .i64 (x.fb9)), .v (.int .i64 (x.fd9))]
structure Qm where
 fg3 : Int
 fg9 : Int
 fg1 : Bool
 fd1 : (List Int)
 fb9 : Int
 ff : Q8
 fg : Q8
 fg5 : Int
 fh2 : Int
 fb5 : Int
 fc7 : Int
 fAt : QG
 fc5 : (List Int)
 fa8 : Bool
def VF (x : Qm) : List PV := [.v (.int .i64 (x.fg3)), .v (.int .i64 (x.fg9)), .v (.bool (x.fg1)), .l 1 (List.map (eI .i64) (x.fd1)), .v (.int .i64 (x.fb9)), .v (.int .i64 (x.ff.fj.f7)), .v (.int .i64 (x.ff.fj.fq)), .v (.int .i64 (x.ff.fj.fa0)), .v (.int .u64 (x.ff.fj.f8)), .v (.int .i64 (x.ff.f9.fx)), .v (.int .i64 (x.ff.f9.fb1)), .v (.bool (x.ff.f9.fc)), .v (.int .i64 (x.ff.fh.fa0)), .v (.int .i64 (x.ff.fh.fq)), .v (.int .u64 (x.ff.fh.f8)), .l 1 (List.map (eI .i64) (x.ff.fh.fb7)), .v (.bool (x.ff.fh.fc)), .v (.int .i64 (x.ff.f0.fa3)), .v (.int .u64 (x.ff.f0.f8)), .l 1 (List.map (eI .i64) (x.ff.f0.fa1)), .v (.int .i64 (x.ff.fb3.fq)), .v (.int .i64 (x.ff.fb3.fx)), .l 3 (List.map Q1 (x.ff.fb3.fk)), .v (.bool (x.ff.fb3.fc)), .v (.int .i64 (x.ff.fi.fq)), .v (.int .i64 (x.ff.fi.fx)), .v (.int .i64 (x.ff.fi.fd4)), .l 3 (List.map Q1 (x.ff.fi.fk)), .v (.bool (x.ff.fi.fc)), .v (.int .i64 (x.ff.fw.fq)), .v (.int .i64 (x.ff.fw.fx)), .v (.int .i64 (x.ff.fw.fc6)), .l 1 (List.map (eL 1 eS) (x.ff.fw.fa7)), .v (.bool (x.ff.fw.fc)), .v (.int .i64 (x.fg.fj.f7)), .v (.int .i64 (x.fg.fj.fq)), .v (.int .i64 (x.fg.fj.fa0)), .v (.int .u64 (x.fg.fj.f8)), .v (.int .i64 (x.fg.f9.fx)), .v (.int .i64 (x.fg.f9.fb1)), .v (.bool (x.fg.f9.fc)), .v (.int .i64 (x.fg.fh.fa0)), .v (.int .i64 (x.fg.fh.fq)), .v (.int .u64 (x.fg.fh.f8)), .l 1 (List.map (eI .i64) (x.fg.fh.fb7)), .v (.bool (x.fg.fh.fc)), .v (.int .i64 (x.fg.f0.fa3)), .v (.int .u64 (x.fg.f0.f8)), .l 1 (List.map (eI .i64) (x.fg.f0.fa1)), .v (.int .i64 (x.fg.fb3.fq)), .v (.int .i64 (x.fg.fb3.fx)), .l 3 (List.map Q1 (x.fg.fb3.fk)), .v (.bool (x.fg.fb3.fc)), .v (.int .i64 (x.fg.fi.fq)), .v (.int .i64 (x.fg.fi.fx)), .v (.int .i64 (x.fg.fi.fd4)), .l 3 (List.map Q1 (x.fg.fi.fk)), .v (.bool (x.fg.fi.fc)), .v (.int .i64 (x.fg.fw.fq)), .v (.int .i64 (x.fg.fw.fx)), .v (.int .i64 (x.fg.fw.fc6)), .l 1 (List.map (eL 1 eS) (x.fg.fw.fa7)), .v (.bool (x.fg.fw.fc)), .v (.int .i64 (x.fg5)), .v (.int .i64 (x.fh2)), .v (.int .i64 (x.fb5)), .v (.int .i64 (x.fc7)), .v (.int .i64 (x.fAt.fb9)), .v (.int .i64 (x.fAt.fd9)), .l 1 (List.map (eI .u8) (x.fc5)), .v (.bool (x.fa8))]
structure Qh where
 fh1 : Bool
 fOp : Qj
 fa : Qm
 fd7 : Int
 fd5 : (List QK)
 ff9 : (List Zo)
def QH (x : Qh) : List PV := [.v (.bool (x.fh1)), .v (.int .i64 (x.fOp.f7)), .v (.string (x.fOp.fd3)), .v (.string (x.fOp.fg)), .l 1 (List.map eS (x.fOp.fa9)), .v (.int .i64 (x.fOp.fj.f7)), .v (.int .i64 (x.fOp.fj.fq)), .v (.int .i64 (x.fOp.fj.fa0)), .v (.int .u64 (x.fOp.fj.f8)), .l 2 (List.map Zk (x.fOp.fb1)), .l 1 (List.map (eI .u8) (x.fOp.ff4)), .v (.int .i64 (x.fOp.fd2)), .v (.int .i64 (x.fOp.ff1)), .v (.int .i64 (x.fOp.fb5)), .v (.int .i64 (x.fOp.ff7)), .v (.int .i64 (x.fOp.fc7)), .v (.int .i64 (x.fOp.fb2)), .v (.int .i64 (x.fOp.fa4.f7)), .v (.string (x.fOp.fa4.fc9)), .v (.int .i64 (x.fOp.fa4.fb2)), .v (.int .i64 (x.fOp.fa4.fg8)), .v (.int .i64 (x.fOp.fa4.fg7)), .l 1 (List.map (eI .u8) (x.fOp.fc5)), .v (.int .i64 (x.fa.fg3)), .v (.int .i64 (x.fa.fg9)), .v (.bool (x.fa.fg1)), .l 1 (List.map (eI .i64) (x.fa.fd1)), .v (.int .i64 (x.fa.fb9)), .v (.int .i64 (x.fa.ff.fj.f7)), .v (.int .i64 (x.fa.ff.fj.fq)), .v (.int .i64 (x.fa.ff.fj.fa0)), .v (.int .u64 (x.fa.ff.fj.f8)), .v (.int .i64 (x.fa.ff.f9.fx)), .v (.int .i64 (x.fa.ff.f9.fb1)), .v (.bool (x.fa.ff.f9.fc)), .v (.int .i64 (x.fa.ff.fh.fa0)), .v (.int .i64 (x.fa.ff.fh.fq)), .v (.int .u64 (x.fa.ff.fh.f8)), .l 1 (List.map (eI .i64) (x.fa.ff.fh.fb7)), .v (.bool (x.fa.ff.fh.fc)), .v (.int .i64 (x.fa.ff.f0.fa3)), .v (.int .u64 (x.fa.ff.f0.f8)), .l 1 (List.map (eI .i64) (x.fa.ff.f0.fa1)), .v (.int .i64 (x.fa.ff.fb3.fq)), .v (.int .i64 (x.fa.ff.fb3.fx)), .l 3 (List.map Q1 (x.fa.ff.fb3.fk)), .v (.bool (x.fa.ff.fb3.fc)), .v (.int .i64 (x.fa.ff.fi.fq)), .v (.int .i64 (x.fa.ff.fi.fx)), .v (.int .i64 (x.fa.ff.fi.fd4)), .l 3 (List.map Q1 (x.fa.ff.fi.fk)), .v (.bool (x.fa.ff.fi.fc)), .v (.int .i64 (x.fa.ff.fw.fq)), .v (.int .i64 (x.fa.ff.fw.fx)), .v (.int .i64 (x.fa.ff.fw.fc6)), .l 1 (List.map (eL 1 eS) (x.fa.ff.fw.fa7)), .v (.bool (x.fa.ff.fw.fc)), .v (.int .i64 (x.fa.fg.fj.f7)), .v (.int .i64 (x.fa.fg.fj.fq)), .v (.int .i64 (x.fa.fg.fj.fa0)), .v (.int .u64 (x.fa.fg.fj.f8)), .v (.int .i64 (x.fa.fg.f9.fx)), .v (.int .i64 (x.fa.fg.f9.fb1)), .v (.bool (x.fa.fg.f9.fc)), .v (.int .i64 (x.fa.fg.fh.fa0)), .v (.int .i64 (x.fa.fg.fh.fq)), .v (.int .u64 (x.fa.fg.fh.f8)), .l 1 (List.map (eI .i64) (x.fa.fg.fh.fb7)), .v (.bool (x.fa.fg.fh.fc)), .v (.int .i64 (x.fa.fg.f0.fa3)), .v (.int .u64 (x.fa.fg.f0.f8)), .l 1 (List.map (eI .i64) (x.fa.fg.f0.fa1)), .v (.int .i64 (x.fa.fg.fb3.fq)), .v (.int .i64 (x.fa.fg.fb3.fx)), .l 3 (List.map Q1 (x.fa.fg.fb3.fk)), .v (.bool (x.fa.fg.fb3.fc)), .v (.int .i64 (x.fa.fg.fi.fq)), .v (.int .i64 (x.fa.fg.fi.fx)), .v (.int .i64 (x.fa.fg.fi.fd4)), .l 3 (List.map Q1 (x.fa.fg.fi.fk)), .v (.bool (x.fa.fg.fi.fc)), .v (.int .i64 (x.fa.fg.fw.fq)), .v (.int .i64 (x.fa.fg.fw.fx)), .v (.int .i64 (x.fa.fg.fw.fc6)), .l 1 (List.map (eL 1 eS) (x.fa.fg.fw.fa7)), .v (.bool (x.fa.fg.fw.fc)), .v (.int .i64 (x.fa.fg5)), .v (.int .i64 (x.fa.fh2)), .v (.int .i64 (x.fa.fb5)), .v (.int .i64 (x.fa.fc7)), .v (.int .i64 (x.fa.fAt.fb9)), .v (.int .i64 (x.fa.fAt.fd9)), .l 1 (List.map (eI .u8) (x.fa.fc5)), .v (.bool (x.fa.fa8)), .v (.int .i64 (x.fd7)), .l 3 (List.map Kr (x.fd5)), .l 4 (List.map Xu (x.ff9))]
structure Qg where
 fg2 : Int
 fd8 : Int
 fc9 : ByteArray
 ff8 : (List Int)
 fk : (List Q5)
 fc : Bool
def Hz (x : Qg) : List PV := [.v (.int .i64 (x.fg2)), .v (.int .i64 (x.fd8)), .v (.string (x.fc9)), .l 1 (List.map (eI .i64) (x.ff8)), .l 3 (List.map Q1 (x.fk)), .v (.bool (x.fc))]
structure Qa where
 fg6 : Int
 fa2 : Int
 ff3 : Int
 fb5 : Int
 fa9 : (List ByteArray)
 fb0 : Qg
 fc5 : (List Int)
def UI (x : Qa) : List PV := [.v (.int .i64 (x.fg6)), .v (.int .i64 (x.fa2)), .v (.int .i64 (x.ff3)), .v (.int .i64 (x.fb5)), .l 1 (List.map eS (x.fa9)), .v (.int .i64 (x.fb0.fg2)), .v (.int .i64 (x.fb0.fd8)), .v (.string (x.fb0.fc9)), .l 1 (List.map (eI .i64) (x.fb0.ff8)), .l 3 (List.map Q1 (x.fb0.fk)), .v (.bool (x.fb0.fc)), .l 1 (List.map (eI .u8) (x.fc5))]
structure Q2 where
 fb8 : Int
 fOp : Qj
 ff2 : Int
 fa8 : Int
 fc0 : Int
 fu : Qa
def Qp (x : Q2) : List PV := [.v (.int .i64 (x.fb8)), .v (.int .i64 (x.fOp.f7)), .v (.string (x.fOp.fd3)), .v (.string (x.fOp.fg)), .l 1 (List.map eS (x.fOp.fa9)), .v (.int .i64 (x.fOp.fj.f7)), .v (.int .i64 (x.fOp.fj.fq)), .v (.int .i64 (x.fOp.fj.fa0)), .v (.int .u64 (x.fOp.fj.f8)), .l 2 (List.map Zk (x.fOp.fb1)), .l 1 (List.map (eI .u8) (x.fOp.ff4)), .v (.int .i64 (x.fOp.fd2)), .v (.int .i64 (x.fOp.ff1)), .v (.int .i64 (x.fOp.fb5)), .v (.int .i64 (x.fOp.ff7)), .v (.int .i64 (x.fOp.fc7)), .v (.int .i64 (x.fOp.fb2)), .v (.int .i64 (x.fOp.fa4.f7)), .v (.string (x.fOp.fa4.fc9)), .v (.int .i64 (x.fOp.fa4.fb2)), .v (.int .i64 (x.fOp.fa4.fg8)), .v (.int .i64 (x.fOp.fa4.fg7)), .l 1 (List.map (eI .u8) (x.fOp.fc5)), .v (.int .i64 (x.ff2)), .v (.int .i64 (x.fa8)), .v (.int .i64 (x.fc0)), .v (.int .i64 (x.fu.fg6)), .v (.int .i64 (x.fu.fa2)), .v (.int .i64 (x.fu.ff3)), .v (.int .i64 (x.fu.fb5)), .l 1 (List.map eS (x.fu.fa9)), .v (.int .i64 (x.fu.fb0.fg2)), .v (.int .i64 (x.fu.fb0.fd8)), .v (.string (x.fu.fb0.fc9)), .l 1 (List.map (eI .i64) (x.fu.fb0.ff8)), .l 3 (List.map Q1 (x.fu.fb0.fk)), .v (.bool (x.fu.fb0.fc)), .l 1 (List.map (eI .u8) (x.fu.fc5))]
structure Qq where
 fy : Qe
 fa5 : (List Qh)
 fd0 : (List Q2)
 ff0 : Int
def Pu (x : Qq) : List PV := [.v (.int .i64 (x.fy.fo.fa5)), .v (.int .i64 (x.fy.fo.fa9)), .v (.int .i64 (x.fy.fo.fa6)), .v (.int .i64 (x.fy.fo.fc1)), .v (.int .i64 (x.fy.fo.fc4)), .v (.int .i64 (x.fy.fo.fc8)), .v (.int .i64 (x.fy.fo.fd6)), .v (.int .i64 (x.fy.fa2)), .v (.int .i64 (x.fy.ff6)), .l 2 (List.map Ql (x.fy.fb4)), .l 4 (List.map Qd (x.fy.fb6)), .l 2 (List.map Qn (x.fy.fc4)), .v (.int .i64 (x.fy.fc3.fc2)), .l 3 (List.map Qo (x.fy.fc3.fa6)), .l 97 (List.map QH (x.fa5)), .l 38 (List.map Qp (x.fd0)), .v (.int .i64 (x.ff0))]
structure QJ where
 f7 : Int
 fb8 : Int
 fOp : Qj
def Z9 (x : QJ) : List PV := [.v (.int .i64 (x.f7)), .v (.int .i64 (x.fb8)), .v (.int .i64 (x.fOp.f7)), .v (.string (x.fOp.fd3)), .v (.string (x.fOp.fg)), .l 1 (List.map eS (x.fOp.fa9)), .v (.int .i64 (x.fOp.fj.f7)), .v (.int .i64 (x.fOp.fj.fq)), .v (.int .i64 (x.fOp.fj.fa0)), .v (.int .u64 (x.fOp.fj.f8)), .l 2 (List.map Zk (x.fOp.fb1)), .l 1 (List.map (eI .u8) (x.fOp.ff4)), .v (.int .i64 (x.fOp.fd2)), .v (.int .i64 (x.fOp.ff1)), .v (.int .i64 (x.fOp.fb5)), .v (.int .i64 (x.fOp.ff7)), .v (.int .i64 (x.fOp.fc7)), .v (.int .i64 (x.fOp.fb2)), .v (.int .i64 (x.fOp.fa4.f7)), .v (.string (x.fOp.fa4.fc9)), .v (.int .i64 (x.fOp.fa4.fb2)), .v (.int .i64 (x.fOp.fa4.fg8)), .v (.int .i64 (x.fOp.fa4.fg7)), .l 1 (List.map (eI .u8) (x.fOp.fc5))]
structure JS where
 fe0 : Bool
 fe1 : Bool
 fe2 : Bool
 fe3 : Bool
 fe4 : Bool
 fe5 : Bool
 fe6 : Bool
 fe7 : Bool
 fe8 : Bool
 fe9 : Bool
 fe10 : Bool
 fe11 : Bool
 fe12 : Bool
def B7 (x : JS) : List PV := [.v (.bool (x.fe0)), .v (.bool (x.fe1)), .v (.bool (x.fe2)), .v (.bool (x.fe3)), .v (.bool (x.fe4)), .v (.bool (x.fe5)), .v (.bool (x.fe6)), .v (.bool (x.fe7)), .v (.bool (x.fe8)), .v (.bool (x.fe9)), .v (.bool (x.fe10)), .v (.bool (x.fe11)), .v (.bool (x.fe12))]
structure KJ where
 fg6 : Int
 fh4 : Bool
 fu : Qa
structure Qw where
 fb : (List Int)
 fat : Int
 fbad : Bool
structure QC where
 fy : Qe
 fa : Qm
 fu : Qa
 fh4 : Bool
structure Z4 where
 fid : Int
 fv : QA
def QM (x : Z4) : List PV := [.v (.int .i64 (x.fid)), .v (.int .i64 (x.fv.fd9)), .v (.int .i64 (x.fv.fTo)), .v (.int .i64 (x.fv.fq)), .l 1 (List.map (eI .i64) (x.fv.fa6))]
structure UJ where
 fa2 : Int
 fb4 : (List QV)
 fb6 : (List Qt)
 fc4 : (List QQ)
 fa6 : (List QD)
def Ni (x : UJ) : List PV := [.v (.int .i64 (x.fa2)), .l 2 (List.map Ql (x.fb4)), .l 4 (List.map Qd (x.fb6)), .l 2 (List.map Qn (x.fc4)), .l 3 (List.map Qo (x.fa6))]
structure JU where
 fb9 : Int
 fd9 : Int
def Js (x : JU) : List PV := [.v (.int .i64 (x.fb9)), .v (.int .i64 (x.fd9))]
structure Lr where
 fhigh : Int
 flow : Int
abbrev oB (x : Int) : Prop := 0 ≤ x ∧ x ≤ 255
abbrev bB (l : List Int) : Prop := ∀ x ∈ l, oB x
abbrev zL (l : List Int) : Prop := l.length ≤ 1024 ∧ bB l
abbrev Qe8 (x : QD) : Prop := x.fc5.length ≤ 1024 ∧ bB x.fc5
abbrev okV (x : QA) : Prop := x.fa6.length ≤ 65536
abbrev zE (x : Q5) : Prop := x.fc9.size ≤ 2000000
abbrev zI (x : QY) : Prop := x.fc9.size ≤ 2000000
abbrev zCm (c : Q3) : Prop := c.fb7.length ≤ 2000000
abbrev zLl (c : Q7) : Prop := c.fa1.length ≤ 2000000
abbrev zTp (c : Qf) : Prop := c.fk.length ≤ 2000000 ∧ ∀ x ∈ c.fk, zE x
abbrev zFr (c : Q4) : Prop := c.fk.length ≤ 2000000 ∧ ∀ x ∈ c.fk, zE x
abbrev zKs (l : List ByteArray) : Prop := l.length ≤ 2000000 ∧ ∀ k ∈ l, k.size ≤ 2000000
abbrev zRk (c : Q9) : Prop := c.fa7.length ≤ 2000000 ∧ ∀ l ∈ c.fa7, zKs l
abbrev zS (s : Q8) : Prop := zCm s.fh ∧ zLl s.f0 ∧ zTp s.fb3 ∧ zFr s.fi ∧ zRk s.fw
abbrev zO (c : Int) (o : QV) : Prop := (o.fd1.length : Int) ≤ c ∧ ∀ v ∈ o.fd1, okV v
abbrev zB (b : Qt) : Prop := b.fd3.size ≤ 2000000
abbrev zP (p : QQ) : Prop := 1 ≤ p.fb2
abbrev Qwo (c : Zf) : Prop := (1 ≤ c.fa5 ∧ c.fa5 ≤ 64) ∧ c.fa6 ≤ 16384 ∧ (8 ≤ c.fc1 ∧ c.fc1 ≤ 1024) ∧ c.fc4 ≤ 1024 ∧ (1 ≤ c.fc8 ∧ c.fc8 ≤ 1048576) ∧ 1 ≤ c.fd6 ∧ c.fd6 ≤ 64
abbrev zAr (a : QB) : Prop := a.fa6.length ≤ 16384 ∧ a.fc2 ≤ 16384 ∧ ∀ p ∈ a.fa6, Qe8 p
abbrev CN (s : Qe) : Prop := Qwo s.fo ∧ (0 ≤ s.fa2 ∧ s.fa2 ≤ s.fo.fc8) ∧ (s.fb4.length : Int) ≤ s.fa2 ∧ (∀ o ∈ s.fb4, zO s.fa2 o) ∧ (s.fb6.length : Int) ≤ s.fa2 ∧ (∀ b ∈ s.fb6, zB b) ∧ s.fc4.length ≤ 1024 ∧ (∀ p ∈ s.fc4, zP p) ∧ zAr s.fc3
abbrev zSn (y : QK) : Prop := y.fa9.length ≤ 2000000
abbrev zOp (o : Qj) : Prop := o.fa9.length ≤ 2000000 ∧ o.fb1.length ≤ 2000000 ∧ o.ff4.length ≤ 2000000 ∧ o.fc5.length ≤ 2000000 ∧ bB o.fc5 ∧ o.fd3.size ≤ 2000000 ∧ o.fg.size ≤ 2000000 ∧ (∀ x ∈ o.fb1, zI x) ∧ ∀ x ∈ o.fa9, x.size ≤ 2000000
abbrev zMa (m : Qm) : Prop := (0 ≤ m.fb5 ∧ m.fb5 ≤ 3) ∧ zS m.ff ∧ zS m.fg ∧ m.fd1.length ≤ 2000000 ∧ m.fc5.length ≤ 100000000 ∧ bB m.fc5
abbrev zSe (x : Qh) : Prop := x.fd5.length = 4 ∧ x.ff9.length = 4 ∧ (∀ y ∈ x.fd5, zSn y) ∧ zOp x.fOp ∧ zMa x.fa ∧ (x.fOp.f7 = 6 → x.fa.fg5 ≤ (x.fOp.fb1.length : Int))
abbrev T9 (p : Qa) : Prop := p.fg6 ≠ 16
abbrev RI (t : QC) : Prop := CN t.fy ∧ zMa t.fa ∧ T9 t.fu
abbrev zRd (r : Qw) : Prop := 0 ≤ r.fat ∧ r.fat ≤ (r.fb.length : Int) ∧ r.fb.length ≤ 100000000 ∧ bB r.fb
instance : Inhabited Zf := ⟨⟨default, default, default, default, default, default, default⟩⟩
instance : Inhabited QA := ⟨⟨default, default, default, default⟩⟩
instance : Inhabited QV := ⟨⟨default, default⟩⟩
instance : Inhabited Qt := ⟨⟨default, default, default, default⟩⟩
instance : Inhabited QQ := ⟨⟨default, default⟩⟩
instance : Inhabited QD := ⟨⟨default, default, default⟩⟩
instance : Inhabited QB := ⟨⟨default, default⟩⟩
instance : Inhabited Qe := ⟨⟨default, default, default, default, default, default, default⟩⟩
instance : Inhabited QK := ⟨⟨default, default, default⟩⟩
instance : Inhabited Zo := ⟨⟨default, default, default, default⟩⟩
instance : Inhabited Q6 := ⟨⟨default, default, default, default⟩⟩
instance : Inhabited QY := ⟨⟨default, default⟩⟩
instance : Inhabited Qi := ⟨⟨default, default, default, default, default⟩⟩
instance : Inhabited Qj := ⟨⟨default, default, default, default, default, default, default, default, default, default, default, default, default, default, default⟩⟩
instance : Inhabited Qc := ⟨⟨default, default, default⟩⟩
instance : Inhabited Q3 := ⟨⟨default, default, default, default, default⟩⟩
instance : Inhabited Q7 := ⟨⟨default, default, default⟩⟩
instance : Inhabited Q5 := ⟨⟨default, default, default⟩⟩
instance : Inhabited Qf := ⟨⟨default, default, default, default⟩⟩
instance : Inhabited Q4 := ⟨⟨default, default, default, default, default⟩⟩
instance : Inhabited Q9 := ⟨⟨default, default, default, default, default⟩⟩
instance : Inhabited Q8 := ⟨⟨default, default, default, default, default, default, default⟩⟩
instance : Inhabited QG := ⟨⟨default, default⟩⟩
instance : Inhabited Qm := ⟨⟨default, default, default, default, default, default, default, default, default, default, default, default, default, default⟩⟩
instance : Inhabited Qh := ⟨⟨default, default, default, default, default, default⟩⟩
instance : Inhabited Qg := ⟨⟨default, default, default, default, default, default⟩⟩
instance : Inhabited Qa := ⟨⟨default, default, default, default, default, default, default⟩⟩
instance : Inhabited Q2 := ⟨⟨default, default, default, default, default, default⟩⟩
instance : Inhabited Qq := ⟨⟨default, default, default, default⟩⟩
instance : Inhabited QJ := ⟨⟨default, default, default⟩⟩
instance : Inhabited JS := ⟨⟨default, default, default, default, default, default, default, default, default, default, default, default, default⟩⟩
instance : Inhabited KJ := ⟨⟨default, default, default⟩⟩
instance : Inhabited Qw := ⟨⟨default, default, default⟩⟩
instance : Inhabited QC := ⟨⟨default, default, default, default⟩⟩
instance : Inhabited Z4 := ⟨⟨default, default⟩⟩
instance : Inhabited UJ := ⟨⟨default, default, default, default, default⟩⟩
instance : Inhabited JU := ⟨⟨default, default⟩⟩
instance : Inhabited Lr := ⟨⟨default, default⟩⟩
abbrev zD (d : UJ) : Prop := d.fb4.length ≤ 1048576 ∧ (∀ o ∈ d.fb4, o.fd1.length ≤ 1048576) ∧ d.fc4.length ≤ 1024
abbrev oN (x : Int) : Prop := x ≤ 1099511627776
abbrev oCm (c : Q3) : Prop := (1 ≤ c.fa0 ∧ c.fa0 ≤ 8) ∧ (1 ≤ c.fq ∧ c.fq ≤ 64) ∧ (c.fb7.length : Int) = c.fa0 * c.fq ∧ c.fb7.length ≤ 512 ∧ ∀ x ∈ c.fb7, oN x
abbrev oLl (c : Q7) : Prop := (2 ≤ c.fa3 ∧ c.fa3 ≤ 8) ∧ (c.fa1.length : Int) = Ys .i64 1 (IntKind.u64.wrap c.fa3) ∧ c.fa1.length ≤ 256 ∧ ∀ x ∈ c.fa1, oN x
abbrev oE (x : Q5) : Prop := x.fc9.size ≤ 32 ∧ oN x.fb2 ∧ oN x.fd8
abbrev oTp (c : Qf) : Prop := (1 ≤ c.fq ∧ c.fq ≤ 32) ∧ c.fk.length ≤ 32 ∧ oN c.fx ∧ ∀ x ∈ c.fk, oE x
abbrev oFr (c : Q4) : Prop := (1 ≤ c.fq ∧ c.fq ≤ 32) ∧ c.fk.length ≤ 32 ∧ oN c.fx ∧ oN c.fd4 ∧ ∀ x ∈ c.fk, oE x
abbrev oK (k : ByteArray) : Prop := k.size ≤ 32
abbrev oKs (l : List ByteArray) : Prop := l.length ≤ 32 ∧ ∀ k ∈ l, oK k
abbrev oRk (c : Q9) : Prop := (2 ≤ c.fq ∧ c.fq ≤ 32) ∧ c.fa7.length ≤ 41 ∧ oN c.fx ∧ oN c.fc6 ∧ ∀ l ∈ c.fa7, oKs l
abbrev Qwp (c : Zf) : Prop := (1 ≤ c.fa5 ∧ c.fa5 ≤ 3) ∧ (1 ≤ c.fa9 ∧ c.fa9 ≤ 3) ∧ (1 ≤ c.fa6 ∧ c.fa6 ≤ 60) ∧ (8 ≤ c.fc1 ∧ c.fc1 ≤ 200) ∧ (1 ≤ c.fc4 ∧ c.fc4 ≤ 8) ∧ (1 ≤ c.fc8 ∧ c.fc8 ≤ 100) ∧ 1 ≤ c.fd6 ∧ c.fd6 ≤ 4
abbrev zOn (n : Nat) (o : Qj) : Prop := o.fa9.length ≤ n ∧ o.fb1.length ≤ n ∧ o.ff4.length ≤ n ∧ o.fc5.length ≤ n ∧ bB o.fc5 ∧ o.fd3.size ≤ 2000000 ∧ o.fg.size ≤ 2000000 ∧ (∀ x ∈ o.fb1, zI x) ∧ ∀ x ∈ o.fa9, x.size ≤ 2000000
abbrev zEv (e : QJ) : Prop := zOp e.fOp
abbrev zOg (a r : Qj) : Prop := r.fa9.length ≤ a.fa9.length + 100000 ∧ r.fb1.length ≤ a.fb1.length + 100000 ∧ r.ff4.length ≤ a.ff4.length + 100000 ∧ r.fc5.length ≤ a.fc5.length + 100000 ∧ bB r.fc5 ∧ r.fd3.size ≤ 2000000 ∧ r.fg.size ≤ 2000000 ∧ (∀ x ∈ r.fb1, zI x) ∧ ∀ x ∈ r.fa9, x.size ≤ 2000000
theorem hi_ {p : Prop} (h : p := by first | assumption | exact Dp (by assumption) | exact Dp (Dp (by assumption)) | exact Dp (Dp (Dp (by assumption))) | exact Dp (Dp (Dp (Dp (by assumption))))) : p := h
structure CD where
 x : List PV
 ps : List Prop
def crF (st : St) : List CV → List PV → Option CD
 | [], _ => some ⟨[], []⟩
 | .p x :: cs, g :: gs => match crF st cs gs with
  | some ⟨xs, ps⟩ => match g with
   | .l e _ => match x with
    | .v (.slice none 0 0) => some ⟨.l e [] :: xs, ps⟩
    | x => some ⟨x :: xs, ps⟩
   | _ => some ⟨x :: xs, ps⟩
  | none => none
 | .sl b off n :: cs, .l _ rows' :: gs => match st.h b with
  | some (.row e rows false) => match crF st cs gs with
   | some ⟨xs, ps⟩ => some ⟨.l e rows' :: xs, ((rows.drop off).take n = rows') :: ps⟩
   | none => none
  | _ => none
 | _, _ => none
theorem Nj {st : St} : ∀ {cs : List CV} {gs : List PV} {r : CD}, crF st cs gs = some r → XR r.ps → Crs st cs r.x
 | [], _, r, h, hp => by simp only [crF] at h; cases h; exact .nil
 | .p x :: cs, g :: gs, r, h, hp => by
  simp only [crF] at h
  split at h
  ·rename_i xs ps h1
   split at h
   ·split at h
    ·cases h; exact .cons (.nil _) (Nj h1 hp)
    ·cases h; exact .cons (.k _) (Nj h1 hp)
   ·cases h; exact .cons (.k _) (Nj h1 hp)
  ·cases h
 | .sl b off n :: cs, .l _ rows' :: gs, r, h, hp => by
  simp only [crF] at h
  split at h
  ·rename_i hb
   split at h
   ·rename_i h1; cases h; cases hp with | cons h2 hp => exact .cons (.fr hb h2) (Nj h1 hp)
   ·cases h
  ·cases h
 | .p _ :: _, [], r, h, hp => by simp [crF] at h
 | .sl _ _ _ :: _, [], r, h, hp => by simp [crF] at h
 | .sl _ _ _ :: _, .v _ :: _, r, h, hp => by simp [crF] at h
 | .sl _ _ _ :: _, .o _ :: _, r, h, hp => by simp [crF] at h
 | .any :: _, _, r, h, hp => by simp [crF] at h
 | .ptr _ _ _ :: _, _, r, h, hp => by simp [crF] at h
 | .ep _ _ :: _, _, r, h, hp => by simp [crF] at h
 | .mp _ :: _, _, r, h, hp => by simp [crF] at h
def Z4h (st : St) : List CV → Option Qr
 | [] => none
 | .sl b _ _ :: cs => match st.h b with
  | some (.row _ _ true) => some b
  | _ => Z4h st cs
 | _ :: cs => Z4h st cs
def mus (st : St) : List Operand → Option Qr
 | [] => none
 | x :: xs => match Z4h st (st.ev x).cs1 with
  | some b => some b
  | none => mus st xs
section
variable {P : Program} {E : En} {N : Nat} {ops : Array Oper} {st : St} {d : Nat} {ty : Nat} {pos : String} {af : Array Edge} {gd : Option (Nat × Bool)} {K0 : Prop} {fr : List (Nat × TV)} {H : List (Qr × Option Bk)}
theorem fz1 {o : Oper} {rb al : List Qr} {t : TV} {bl : List (Qr × Option Bk)} {b : Qr} {e : Nat} {rows : List (List PV)} {mu : Bool} (m : mus ⟨fr, H⟩ o.op.operands.toList = some b) (c : (⟨fr, H⟩ : St).h b = some (.row e rows mu))
  (k : ZA E N P ops o ⟨fr, (b, some (.row e rows false)) :: H⟩ ⟨rb, al⟩ ⟨t, bl⟩) (a : Ev al [b] = true) : ZA E N P ops o ⟨fr, H⟩ ⟨b :: rb, al⟩ ⟨t, bl ++ [(b, some (.row e rows false))]⟩ := Qw4 c a k
theorem bsl [T : Tb P] {parts : Array (Nat × Operand)} {t e n sz : Nat} {tt te : TE} {zs : List Value} {cs : List CV} {ps : List PV} {rows : List (List PV)} (hh : Qb rows K0) (ht : Zv T.ty t = some tt := by exact rfl) (hk : tt.kd = .slice e := by exact rfl) (hel : Zv T.ty e = some te := by exact rfl) (hsz : te.size = sz := by exact rfl) (hpos : Nat.blt 0 (n * sz) = true := by exact rfl) (hsm : Nat.ble (n * sz) 16777216 = true := by exact rfl)
  (hz : te.zero.cells.toList = zs := by exact rfl) (hat : zs.all JP = true := by exact rfl) (hf : MP (fun i => some (i * sz, sz)) ((List.range (n * sz)).map fun i => .p (.v (zs.getD (i % zs.length) undef))) (parts.toList.map fun x => (x.1, st.ev x.2)) = some cs := by exact rfl) (hps : pvs cs = some ps := by exact rfl) (hrows : H8 sz n ps = rows := by exact rfl)
  (hzl : zs.length = sz := by exact rfl) (hok : parts.toList.all (fun x => Zj x.2) = true := by exact rfl) :
  ZA E N P ops ⟨some d, .buildSlice t n parts, ty, pos, af, gd⟩ st ⟨[], [(d, 0)]⟩ ⟨.c (.sl (d, 0) 0 n), [((d, 0), some (.row sz rows true))]⟩ := Kn ht hk hel hsz hpos hsm hz hat hf hps hrows hzl hok
theorem Z4i [T : Tb P] {parts : Array (Nat × Operand)} {t e n sz : Nat} {tt te : TE} {zs : List Value} {cs : List CV} {r : CD} {rows : List (List PV)} (hh : Qb rows K0) (ht : Zv T.ty t = some tt := by exact rfl) (hk : tt.kd = .slice e := by exact rfl) (hel : Zv T.ty e = some te := by exact rfl) (hsz : te.size = sz := by exact rfl) (hpos : Nat.blt 0 (n * sz) = true := by exact rfl) (hsm : Nat.ble (n * sz) 16777216 = true := by exact rfl)
  (hz : te.zero.cells.toList = zs := by exact rfl) (hat : zs.all JP = true := by exact rfl) (hf : MP (fun i => some (i * sz, sz)) ((List.range (n * sz)).map fun i => .p (.v (zs.getD (i % zs.length) undef))) (parts.toList.map fun x => (x.1, st.ev x.2)) = some cs := by exact rfl) (hc : crF st cs rows.flatten = some r := by exact rfl) (hp : XR r.ps := by exact Nh) (hrows : H8 sz n r.x = rows := by exact rfl)
  (hzl : zs.length = sz := by exact rfl) (hok : parts.toList.all (fun x => Zj x.2) = true := by exact rfl) :
  ZA E N P ops ⟨some d, .buildSlice t n parts, ty, pos, af, gd⟩ st ⟨BD cs, [(d, 0)]⟩ ⟨.c (.sl (d, 0) 0 n), [((d, 0), some (.row sz rows true))]⟩ := Q9n ht hk hel hsz hpos hsm hz hat hf (Nj hc hp) hrows hzl hok
theorem bsl0 [T : Tb P] {α : Type} {f : α → List PV} {t e sz : Nat} {tt te : TE} (hh : Qb f K0) (ht : Zv T.ty t = some tt := by exact rfl) (hk : tt.kd = .slice e := by exact rfl) (hel : Zv T.ty e = some te := by exact rfl) (hsz : te.size = sz := by exact rfl) (hpos : Nat.blt 0 sz = true := by exact rfl) :
  ZA E N P ops ⟨some d, .buildSlice t 0 #[], ty, pos, af, gd⟩ st ⟨[], [(d, 0)]⟩ ⟨.c (.sl (d, 0) 0 (([] : List α).map f).length), [((d, 0), some (.row sz (([] : List α).map f) true))]⟩ := Qo1 ht hk hel hsz hpos
theorem srow [T : Tb P] {α : Type} {f : α → List PV} {L : List α} {x y : Operand} {t : TypeId} {te : TE} {b : Qr} {i k e : Nat} {x0 x1 : α} {ps : List PV} {v : TV} {dst : Option Nat} (hh : Qb x1 K0) (hx : st.ev x = .c (.ptr b i k) := by exact rfl) (hb : st.h b = some (.row e (L.map f) true) := by exact rfl) (hv : st.ev y = v := by exact rfl) (hk : v.known = true := by exact rfl) (hps : pvs v.cells = some ps := by exact rfl)
  (ht : Zv T.ty t = some te := by exact rfl) (hsz : ps.length = te.size := by exact rfl) (hin : Nat.ble (k + ps.length) e = true := by exact rfl) (hi : L[i]? = some x0 := by exact hi_) (hr' : setAt (f x0) k ps = f x1 := by exact rfl) (hcx : Zj x = true := by exact rfl) (hcy : Zj y = true := by exact rfl) :
  ZA E N P ops ⟨dst, .store t x y, ty, pos, af, gd⟩ st ⟨[b], []⟩ ⟨.c .any, [(b, some (.row e ((L.set i x1).map f) true))]⟩ := Q9m hi hx hb hv hk hps ht hsz hin hr' hcx hcy
theorem Qoe [T : Tb P] {α : Type} {f : α → List PV} {L : List α} {x y : Operand} {t : TypeId} {te : TE} {b : Qr} {i k e : Nat} {x0 x1 : α} {r : CD} {v : TV} {dst : Option Nat} (hh : Qb x1 K0) (hx : st.ev x = .c (.ptr b i k) := by exact rfl) (hb : st.h b = some (.row e (L.map f) true) := by exact rfl) (hv : st.ev y = v := by exact rfl) (hk : v.known = true := by exact rfl) (hc : crF st v.cells ((f x1).drop k) = some r := by exact rfl) (hp : XR r.ps := by exact Nh)
  (ht : Zv T.ty t = some te := by exact rfl) (hsz : r.x.length = te.size := by exact rfl) (hin : Nat.ble (k + r.x.length) e = true := by exact rfl) (hi : L[i]? = some x0 := by exact hi_) (hr' : setAt (f x0) k r.x = f x1 := by exact rfl) (hcx : Zj x = true := by exact rfl) (hcy : Zj y = true := by exact rfl) :
  ZA E N P ops ⟨dst, .store t x y, ty, pos, af, gd⟩ st ⟨b :: BD v.cells, []⟩ ⟨.c .any, [(b, some (.row e ((L.set i x1).map f) true))]⟩ := Q4v hi hx hb hv hk (Nj hc hp) ht hsz hin hr' hcx hcy
theorem mk_ [T : Tb P] {α : Type} {f : α → List PV} {z : α} {x y : Operand} {t el e by' : Nat} {tt te : TE} {k k' : IntKind} {n : Int} {zs : List Value} {r : CD} (hh : Qb (fun _ : Unit => (f, z)) K0) (hn : 0 ≤ n ∧ n * (by' : Nat) ≤ 140737488355328) (h1 : st.ev x = .c (.p (.v (.int k n))) := by exact rfl) (h2 : st.ev y = .c (.p (.v (.int k' n))) := by exact rfl) (ht : Zv T.ty t = some tt := by exact rfl) (hk : tt.kd = .slice el := by exact rfl) (hel : Zv T.ty el = some te := by exact rfl) (hes : te.size = e := by exact rfl) (hbt : te.bytes = by' := by exact rfl) (hpos : (Nat.blt 0 by' && Nat.blt 0 e) = true := by exact rfl) (hz : te.zero.cells.toList = zs := by exact rfl)
  (hc : crF (⟨[], []⟩ : St) (zs.map fun v => .p (.v v)) (f z) = some r := by exact rfl) (hp : XR r.ps := by exact Nh) (hx : r.x = f z := by exact rfl) (hat : zs.all JP = true := by exact rfl) (hok : (Zj x && Zj y && Nat.beq zs.length e) = true := by exact rfl) :
  ZA E N P ops ⟨some d, .makeSlice t x y, ty, pos, af, gd⟩ st ⟨[], [(d, 0)]⟩ ⟨.c (.sl (d, 0) 0 ((List.replicate n.toNat z).map f).length), [((d, 0), some (.row e ((List.replicate n.toNat z).map f) true))]⟩ := Z3y hn h1 h2 ht hk hel hes hbt hpos hz (hx ▸ Nj hc hp) hat hok
end
section
variable {E : En} {N : Nat} {P : Program} {T : Tb P} {ops : Array Oper} {o : Oper} {st : St} {d : Nat} {ty : Nat} {pos : String} {af : Array Edge} {gd : Option (Nat × Bool)} {cx : Cx} {a : Act} {w w' : World} {v : Value}
theorem Q9u {x y : Operand} {t tx el : TypeId} {te tt : TE} {e n : Nat} {b : Qr} {rowsA rows rows' rows2 : List (List PV)} {rb : List Qr} (hx : st.ev x = .c (.sl b 0 n)) (hcx : Zj x = true) (hb : st.h b = some (.row e rowsA true)) (hA : rowsA.take n = rows)
  (ht : Zv T.ty t = some tt) (hk : tt.kd = .slice el) (hel : Zv T.ty el = some te) (hes : te.size = e) (hz : te.zero.cells.size = e)
  (hsrc : Q9d E N P ops ⟨some d, .call { callee := .builtin .append, args := #[x, y], argTypes := #[t, tx] }, ty, pos, af, gd⟩ st rb tx e y rows') (h2 : rows ++ rows' = rows2) {n2 : Nat} (hn2 : n + rows'.length = n2) (hlen : n2 ≤ 140737488355328) (hby : n2 * te.bytes ≤ 140737488355328) :
  ZA E N P ops ⟨some d, .call { callee := .builtin .append, args := #[x, y], argTypes := #[t, tx] }, ty, pos, af, gd⟩ st ⟨b :: rb, [(d, 0)]⟩ ⟨.c (.sl (d, 0) 0 n2), [((d, 0), some (.row e rows2 true)), (b, none)]⟩ := by
 intro st' ha hf hd cx a w Q hr
 have ha' : Agree ops ⟨some d, .call { callee := .builtin .append, args := #[x, y], argTypes := #[t, tx] }, ty, pos, af, gd⟩ ⟨rb, []⟩ st st' := ⟨ha.1, fun b' hb' => ha.2 b' (List.mem_cons_of_mem _ hb')⟩
 obtain ⟨-, h4⟩ := RA hx hcx ha (by simp [Op.operands, Call.operands]) hr
 have hb' : st'.h b = some (.row e rowsA true) := by rw [ha.2 b (by simp)]; exact hb
 obtain ⟨a', cap0, h5, h6, h7, h8, h9⟩ := h4 _ hb'
 obtain ⟨he, hreA, hrb⟩ := hr.bl b _ hb'
 have hn : rows.length = n := by rw [← hA, List.length_take]; simp only [Bk.len] at h8; omega
 have hre : ∀ r ∈ rows, r.length = e := fun r h => hreA r (by rw [← hA] at h; exact List.mem_of_mem_take h)
 have hup : ∀ (i : Nat) (r : List PV), rows[i]? = some r → rowsA[i]? = some r := fun i r h => by
  rw [← hA, List.getElem?_take] at h
  split at h
  ·exact h
  ·cases h
 obtain ⟨us, hR, hS⟩ := hsrc st' cx a w ha' hr
 have hfr := hf (d, 0) (by simp)
 subst h2
 subst hn2
 subst hn
 obtain ⟨i, hi1, hi2, hi3, hi4⟩ := Oj hel
 obtain ⟨bc, hbc⟩ := Yr (P := P) (d := d) (ty := ty) (pos := pos) (af := af) (gd := gd) (w := w) (b := .append) (args := #[x, y]) (ats := #[t, tx]) (a := a)
 -- the elder cells
 have hown : ∃ xs, BE w cx.A e rows xs ∧ ((∃ a, Value.slice a' rows.length cap0 = .slice a 0 0 ∧ rows.length = 0) ∨ ∃ g cap cur el', Value.slice a' rows.length cap0 = .slice (some ⟨g, 0, none⟩) rows.length cap ∧ w.heap[g]? = some (.cells cur el' (0, 0)) ∧ rows.length ≤ cap ∧ cap ≤ maxLen ∧ cur.size = cap * e ∧ cur.toList.take (rows.length * e) = xs ∧ 0 < cap) ∧
   ∀ g, a' = some ⟨g, 0, none⟩ → 0 < cap0 → cx.ι b = some (g, 0) ∧ ¬ cx.A g := by
  by_cases hc0 : cap0 = 0
  ·have hr0 : rows = [] := List.eq_nil_of_length_eq_zero (by omega)
   subst hr0
   subst hc0
   exact ⟨[], BE.nil _ _ _, .inl ⟨a', rfl, rfl⟩, fun g _ h => by omega⟩
  ·rcases h9 with h9 | ⟨g, c, el', fz, h10, h11, h12, h13⟩
   ·exact absurd h9 hc0
   ·rw [h10] at hrb
    obtain ⟨-, c', el2, fz', capR, h14, h15, h16, h17, h18, h19, h20⟩ := hrb
    rw [h12] at h14
    cases h14
    obtain ⟨rfl, hnA⟩ := h15 rfl
    simp only [Bk.e, Nat.zero_mul, Nat.zero_add] at h11 h13
    replace h13 := h13 he
    refine ⟨c.toList.take (rows.length * e), ⟨?_, hre, fun i r k p hi hk => ?_⟩, .inr ⟨g, cap0, c, el', by rw [h11], h12, h6, h7, h13, rfl, by omega⟩, fun g' hg' _ => ?_⟩
    ·have hcl : c.toList.length = cap0 * e := by rw [Array.length_toList, h13]
     rw [List.length_take, hcl]
     have : rows.length * e ≤ cap0 * e := Nat.mul_le_mul_right e h6
     omega
    ·obtain ⟨cv, hcv, hp⟩ := h20 i r k p (hup i r hi) hk
     refine ⟨cv, ?_, hp⟩
     have hil := (List.getElem?_eq_some_iff.1 hi).1
     have hkl := (List.getElem?_eq_some_iff.1 hk).1
     have hrl := hre r (List.mem_of_getElem? hi)
     have hlt : i * e + k < rows.length * e := by
      have : (i + 1) * e ≤ rows.length * e := Nat.mul_le_mul_right e hil
      rw [Nat.add_mul] at this
      omega
     rw [List.getElem?_take, if_pos hlt, Array.getElem?_toList]; exact hcv
    ·rw [h11] at hg'
     cases hg'
     exact ⟨h10, hnA⟩
 obtain ⟨xs, hxs, hal, hιb⟩ := hown
 obtain ⟨v', w', hrun, hcase⟩ := SQ (P := P) w t tx ty el i te.zero e te.bytes (KV ht hk) hi1 hi4 (by rw [hi2, hes]) hi3 hz (.slice a' rows.length cap0) rows.length xs hxs.1 hal (a.eval y) rows'.length us hS (by unfold maxLen; omega) hby
 have hrun' : (execOp a.eval ⟨some d, .call { callee := .builtin .append, args := #[x, y], argTypes := #[t, tx] }, ty, pos, af, gd⟩).run P w = .ok (.value v') w' := by
  rw [hbc]
  simp only [List.map_toArray, List.map_cons, List.map_nil, h5, builtin, Sem.run_bind, hrun, Result.andThen_ok, Sem.run_pure]
 have hR2 := hxs.app hR
 have hle : (rows ++ rows').length = rows.length + rows'.length := List.length_append
 have hat : ∀ (cur' : Array Value), cur'.toList.take ((rows.length + rows'.length) * e) = xs ++ us → ∀ (i : Nat) (r : List PV) (k : Nat) (p : PV), (rows ++ rows')[i]? = some r → r[k]? = some p → ∃ cv, cur'[i * e + k]? = some cv ∧ RP w cx.A p cv := by
  intro cur' h i r k p hi' hk'
  obtain ⟨u, hu, hp⟩ := hR2.2.2 i r k p hi' hk'
  refine ⟨u, ?_, hp⟩
  rw [← h, List.getElem?_take] at hu
  split at hu
  ·simpa using hu
  ·cases hu
 have hno : ∀ x, (Ef.ap ⟨.c (.sl (d, 0) 0 (rows.length + rows'.length)), [((d, 0), some (.row e (rows ++ rows') true)), (b, none)]⟩ ⟨some d, .call { callee := .builtin .append, args := #[x, y], argTypes := #[t, tx] }, ty, pos, af, gd⟩ st').h (d, 0) = some (.row e (rows ++ rows') true) := fun x => by rw [SR, if_pos rfl]
 have hnil : (cx.upd (d, 0) none).ι (d, 0) = none := by simp [Cx.upd]
 have hsm : ∀ y, (cx.upd (d, 0) (some y)).ι (d, 0) = some y := fun y => by simp [Cx.upd]
 refine Uy hrun' ?_
 rcases hcase with ⟨a2, rfl, rfl, h0⟩ | ⟨g, cap, cur, el', cur', h1, h2, rfl, h3, h10, rfl, h11, h12, h13, h14⟩ | ⟨cap, cur', rfl, h2, h3, h10, h11, h12, h13, h14, h15⟩
 ·have hrows : rows ++ rows' = [] := List.eq_nil_of_length_eq_zero (by omega)
  refine ⟨cx.upd (d, 0) none, EV hr hd (b := (d, 0)) (hd d rfl) hfr ⟨_, hb'⟩ (XC.refl _ _) rfl rfl rfl (fun _ _ _ => rfl) (fun g q h => by cases h) ⟨he, by rw [hrows]; simp, by rw [hnil]; exact hrows⟩ ?_⟩
  have := hno x
  rw [hrows, h0] at this ⊢
  exact N2 this
 ·cases h1
  obtain ⟨hι, hnA⟩ := hιb g rfl h14
  have hk2 : XC cx.A w (w.setRow g cur') := ⟨by simp, fun g' hA _ => setRow_other w g g' cur' (fun e => hnA (e ▸ hA)), M8 h2 h11⟩
  refine ⟨cx.upd (d, 0) (some (g, 0)), EV hr hd (b := (d, 0)) (hd d rfl) hfr ⟨_, hb'⟩ hk2 rfl rfl rfl (fun g' h _ => setRow_other w g g' cur' (fun e => h 0 (by rw [e]; exact hι))) (fun g' q h => by cases h; exact .inl ⟨⟨0, hι⟩, by simpa using (Array.getElem?_eq_some_iff.1 h2).1⟩) ⟨he, hR2.2.1, ?_⟩ ⟨.inr rfl, fun bk hbk => ?_⟩⟩
  ·rw [hsm]
   exact ⟨rfl, cur', el', (0, 0), cap0, setRow_heap w g cur cur' el' _ h2, fun _ => ⟨rfl, hnA⟩, (fun h => by cases h), by rw [h11, h12], by rw [hle]; exact h3, h10, fun i r k p hi' hk' => let ⟨cv, hc, hp⟩ := hat cur' h13 i r k p hi' hk'; ⟨cv, hc, hp.keeps (fun _ h => h) hk2⟩⟩
  ·rw [hno x] at hbk
   cases hbk
   exact ⟨_, _, rfl, h3, h10, by simp [Bk.len], .inr ⟨g, cur', el', (0, 0), hsm _, by simp, setRow_heap w g cur cur' el' _ h2, fun _ => by simp only [Bk.e]; rw [h11, h12, Nat.zero_add]⟩⟩
 ·refine ⟨cx.upd (d, 0) (some (w.heap.size, 0)), EV hr hd (b := (d, 0)) (hd d rfl) hfr ⟨_, hb'⟩ (XS h10) h11 h12 h13 (fun g' _ h => DV h10 h) (fun g' q h => by cases h; exact .inr ⟨rfl, by rw [h10]; simp⟩) ⟨he, hR2.2.1, ?_⟩ ⟨.inr rfl, fun bk hbk => ?_⟩⟩
  ·rw [hsm]
   exact ⟨rfl, cur', el, (0, 0), cap, XT h10, fun _ => ⟨rfl, fun h => by have := (hr.A _ h).1; omega⟩, (fun h => by cases h), h14, by rw [hle]; exact h2, h3, fun i r k p hi' hk' => let ⟨cv, hc, hp⟩ := hat cur' h15 i r k p hi' hk'; ⟨cv, hc, hp.keeps (fun _ h => h) (XS h10)⟩⟩
  ·rw [hno x] at hbk
   cases hbk
   exact ⟨_, _, rfl, h2, h3, by simp [Bk.len], .inr ⟨w.heap.size, cur', el, (0, 0), hsm _, by simp, XT h10, fun _ => by simp only [Bk.e]; rw [h14, Nat.zero_add]⟩⟩
theorem Pv [T : Tb P] {α : Type} {f : α → List PV} {L L' : List α} {x y : Operand} {t tx el : TypeId} {te tt : TE} {e m by' : Nat} {b : Qr} {rb : List Qr} (hby : m ≤ L.length ∧ (m + L'.length) * by' ≤ 140737488355328) (hx : st.ev x = .c (.sl b 0 m) := by exact rfl) (hcx : Zj x = true := by exact rfl) (hb : st.h b = some (.row e (L.map f) true) := by exact rfl) (ht : Zv T.ty t = some tt := by exact rfl) (hk : tt.kd = .slice el := by exact rfl) (hel : Zv T.ty el = some te := by exact rfl) (hes : te.size = e := by exact rfl) (hbt : te.bytes = by' := by exact rfl) (hpos : Nat.blt 0 by' = true := by exact rfl) (hz : te.zero.cells.size = e := by exact rfl)
  (hsrc : Q9l E N P ops ⟨some d, .call { callee := .builtin .append, args := #[x, y], argTypes := #[t, tx] }, ty, pos, af, gd⟩ st rb tx e y f L') :
  ZA E N P ops ⟨some d, .call { callee := .builtin .append, args := #[x, y], argTypes := #[t, tx] }, ty, pos, af, gd⟩ st ⟨b :: rb, [(d, 0)]⟩ ⟨.c (.sl (d, 0) 0 ((L.take m ++ L').map f).length), [((d, 0), some (.row e ((L.take m ++ L').map f) true)), (b, none)]⟩ := by
 have hb2 : m + L'.length ≤ 140737488355328 := Nat.le_trans (Nat.le_mul_of_pos_right _ (Nat.le_of_ble_eq_true hpos)) hby.2
 have hl : ((L.take m ++ L').map f).length = m + L'.length := by simp; omega
 rw [hl]
 exact Q9u hx hcx hb (List.map_take).symm ht hk hel hes hz hsrc (List.map_append).symm (by simp) (by simpa using hb2) (by rw [hbt]; simpa using hby.2)
end
def hB (k : Nat) : Qr := (Nat.add 65537 k, 0)
def inH : Nat → List (Nat × List (List PV)) → List (Qr × Option Bk)
 | _, [] => []
 | k, (e, rows) :: r => (hB k, some (.row e rows true)) :: inH (Nat.add k 1) r
def enT : Nat → List TV → List (Nat × TV)
 | _, [] => []
 | j, t :: r => (j, t) :: enT (Nat.add j 1) r
theorem Qof : ∀ (ins : List (Nat × List (List PV))) (k : Nat) (b : Qr), Ym (inH k ins) b = if b.2 = 0 ∧ 65537 + k ≤ b.1 then (match ins[b.1 - (65537 + k)]? with | some x => some (some (.row x.1 x.2 true)) | none => none) else none := by
 intro ins
 induction ins with
 | nil => intro k b; simp [inH, Ym]
 | cons x ins ih =>
  obtain ⟨e, rows⟩ := x
  intro k b
  have key := ih (k + 1) b
  obtain ⟨b1, b2⟩ := b
  simp only [inH, Ym]
  cases hq : Xf (hB k) (b1, b2) with
  | true =>
   have := Za.1 hq
   simp only [hB, Nat.add_eq, Prod.mk.injEq] at this
   obtain ⟨h1, h2⟩ := this
   simp only
   rw [if_pos (by first | omega | (simp only; omega)), show b1 - (65537 + k) = 0 by omega]
   rfl
  | false =>
   have hne : ¬ (65537 + k = b1 ∧ 0 = b2) := by
    intro h
    have : Xf (hB k) (b1, b2) = true := Za.2 (by simp only [hB, Nat.add_eq, h.1, h.2])
    rw [hq] at this; cases this
   simp only [Nat.add_eq]
   rw [key]
   simp only
   by_cases h : b2 = 0 ∧ 65537 + (k + 1) ≤ b1
   ·rw [if_pos h, if_pos (by omega), show b1 - (65537 + k) = (b1 - (65537 + (k + 1))) + 1 by omega, List.getElem?_cons_succ]
   ·rw [if_neg h]
    rw [if_neg (by omega)]
def Qhb (st : St) : Nat → List (Nat × List (List PV)) → List (Option (List (List PV))) → Prop
 | _, [], [] => True
 | k, x :: ins, y :: outs => (∀ rows', y = some rows' → st.h (hB k) = some (.row x.1 rows' true)) ∧ Qhb st (Nat.add k 1) ins outs
 | _, _, _ => False
theorem Q9v {st : St} : ∀ {ins : List (Nat × List (List PV))} {outs : List (Option (List (List PV)))} {k : Nat}, Qhb st k ins outs → outs.length = ins.length ∧ ∀ i e rows rows', ins[i]? = some (e, rows) → outs[i]? = some (some rows') → st.h (hB (k + i)) = some (.row e rows' true)
 | [], [], k, h => ⟨rfl, fun i e rows rows' h => by simp at h⟩
 | [], _ :: _, k, h => h.elim
 | _ :: _, [], k, h => h.elim
 | x :: ins, y :: outs, k, h => by
  obtain ⟨h1, h2⟩ := h
  obtain ⟨h3, h4⟩ := Q9v h2
  refine ⟨by simp [h3], fun i e rows rows' hi ho => ?_⟩
  cases i with
  | zero =>
   rw [List.getElem?_cons_zero] at hi ho
   cases hi; cases ho
   exact h1 rows' rfl
  | succ i =>
   rw [show k + (i + 1) = k + 1 + i by omega]
   exact h4 i e rows rows' (by simpa using hi) (by simpa using ho)
def Qeb : Nat → List (Option (List (List PV))) → List Qr
 | _, [] => []
 | k, some _ :: r => hB k :: Qeb (Nat.add k 1) r
 | k, none :: r => Qeb (Nat.add k 1) r
theorem Q52 : ∀ {outs : List (Option (List (List PV)))} {k i : Nat} {rows' : List (List PV)}, outs[i]? = some (some rows') → hB (k + i) ∈ Qeb k outs
 | [], k, i, rows', h => by simp at h
 | y :: outs, k, i, rows', h => by
  cases i with
  | zero => rw [List.getElem?_cons_zero] at h; cases h; exact List.mem_cons_self
  | succ i =>
   have h2 : outs[i]? = some (some rows') := by simpa using h
   have := Q52 (k := k + 1) h2
   rw [show k + (i + 1) = k + 1 + i by omega]
   cases y with
   | none => exact this
   | some y => exact List.mem_cons_of_mem _ this
def Qog {P : Program} (T : Tb P) (fn : Func) (ins : List (Nat × List (List PV))) (r : List RS) (outs : List (Option (List (List PV)))) : Exit → St → Prop := fun e st => (e = .normal ∨ e = .ret) ∧ ∃ ts os bs, On T st fn.results.toList ts ∧ Pl st ts r os bs ∧ Qhb st 0 ins outs ∧ N4 os = true ∧ Ev (os.filterMap id) bs = true ∧ Ev (Qeb 0 outs) (os.filterMap id ++ bs) = true
structure CH (P : Program) (f : FuncId) (ins : List (Nat × List (List PV))) (ts : List TV) (r : List RS) (outs : List (Option (List (List PV)))) : Prop where
 ent : Ol P f = true
 run : ∃ (T : Tb P) (fn : Func) (body : Code), P.funcs[f]? = some fn ∧ fn.body = some body ∧ fn.ntmps ≤ 65536 ∧ ts.length ≤ fn.ntmps ∧ ∀ E, AW E fn.ntmps P body (Qog T fn ins r outs) ⟨enT 0 ts, inH 0 ins⟩
inductive HC (st : St) (σ : List Qr) : CV → CV → List Qr → Prop
 | p {c : CV} {x : PV} {bs : List Qr} (h : ToC st c (.p x) none bs) : HC st σ c (.p x) bs
 | sl {c : Qr} {k n n' : Nat} (h : σ[k]? = some c) (hn : n = n') : HC st σ (.sl c 0 n) (.sl (hB k) 0 n') []
 | ptr {c : Qr} {k i j i' j' : Nat} (h : σ[k]? = some c) (hi : i = i') (hj : j = j') : HC st σ (.ptr c i j) (.ptr (hB k) i' j') []
inductive HCs (st : St) (σ : List Qr) : List CV → List CV → List Qr → Prop
 | nil : HCs st σ [] [] []
 | cons {c c' : CV} {b : List Qr} {cs cs' : List CV} {bs : List Qr} (h : HC st σ c c' b) (hs : HCs st σ cs cs' bs) : HCs st σ (c :: cs) (c' :: cs') (b ++ bs)
inductive HT (st : St) (σ : List Qr) : TV → TV → List Qr → Prop
 | c {c c' : CV} {bs : List Qr} (h : HC st σ c c' bs) : HT st σ (.c c) (.c c') bs
 | agg {cs cs' : List CV} {bs : List Qr} (h : HCs st σ cs cs' bs) : HT st σ (.agg cs) (.agg cs') bs
inductive HTs (st : St) (σ : List Qr) : List TV → List TV → List Qr → Prop
 | nil : HTs st σ [] [] []
 | cons {t t' : TV} {b : List Qr} {ts ts' : List TV} {bs : List Qr} (h : HT st σ t t' b) (hs : HTs st σ ts ts' bs) : HTs st σ (t :: ts) (t' :: ts') (b ++ bs)
def InS (st : St) : List Qr → List (Nat × List (List PV)) → Prop
 | [], [] => True
 | c :: σ, x :: ins => st.h c = some (.row x.1 x.2 true) ∧ InS st σ ins
 | _, _ => False
theorem Qoh {st : St} : ∀ {σ : List Qr} {ins : List (Nat × List (List PV))}, InS st σ ins → σ.length = ins.length ∧ ∀ (k : Nat) c, σ[k]? = some c → ∃ e rows, ins[k]? = some (e, rows) ∧ st.h c = some (.row e rows true)
 | [], [], h => ⟨rfl, fun k c h => by simp at h⟩
 | [], _ :: _, h => h.elim
 | _ :: _, [], h => h.elim
 | c :: σ, x :: ins, h => by
  obtain ⟨h3, h4⟩ := Qoh h.2
  refine ⟨by simp [h3], fun k c' hk => ?_⟩
  cases k with
  | zero => rw [List.getElem?_cons_zero] at hk; cases hk; exact ⟨x.1, x.2, rfl, h.1⟩
  | succ k => simpa using h4 k c' (by simpa using hk)
def Ls : List Qr → List (Nat × List (List PV)) → List (Option (List (List PV))) → List (Qr × Option Bk)
 | c :: σ, x :: ins, y :: outs => (c, y.map fun rows' => .row x.1 rows' true) :: Ls σ ins outs
 | _, _, _ => []
theorem SE : ∀ {σ : List Qr} {ins : List (Nat × List (List PV))} {outs : List (Option (List (List PV)))} {b : Qr} {y : Option Bk}, Ym (Ls σ ins outs) b = some y → ∃ (k : Nat) (x : Nat × List (List PV)) (o : Option (List (List PV))), σ[k]? = some b ∧ ins[k]? = some x ∧ outs[k]? = some o ∧ y = Option.map (fun rows' => Bk.row x.1 rows' true) o
 | [], _, _, b, y, h => by simp [Ls, Ym] at h
 | _ :: _, [], _, b, y, h => by simp [Ls, Ym] at h
 | _ :: _, _ :: _, [], b, y, h => by simp [Ls, Ym] at h
 | c :: σ, x :: ins, o :: outs, b, y, h => by
  simp only [Ls, Ym] at h
  cases hb : Xf c b with
  | true => rw [hb] at h; cases h; exact ⟨0, x, o, by rw [Za.1 hb]; exact List.getElem?_cons_zero, rfl, rfl, rfl⟩
  | false =>
   rw [hb] at h
   obtain ⟨k, x', o', h1, h2, h3, h4⟩ := SE h
   exact ⟨k + 1, x', o', by simpa using h1, by simpa using h2, by simpa using h3, h4⟩
theorem Q53 : ∀ {σ : List Qr} {ins : List (Nat × List (List PV))} {outs : List (Option (List (List PV)))} {k : Nat} {b : Qr}, σ.length = ins.length → outs.length = ins.length → σ[k]? = some b → Ym (Ls σ ins outs) b ≠ none
 | [], _, _, k, b, _, _, h => by simp at h
 | _ :: _, [], _, k, b, h, _, _ => by simp at h
 | _ :: _, _ :: _, [], k, b, _, h, _ => by simp at h
 | c :: σ, x :: ins, o :: outs, k, b, hl, hl2, h => by
  simp only [Ls, Ym]
  cases hb : Xf c b with
  | true => simp
  | false =>
   simp only
   cases k with
   | zero => rw [List.getElem?_cons_zero] at h; cases h; rw [Za.2 rfl] at hb; cases hb
   | succ k => exact Q53 (by simpa using hl) (by simpa using hl2) (by simpa using h)
section
variable {E : En} {N : Nat} {cx : Cx} {st : St} {a : Act} {w w' : World} {P : Program} {T : Tb P} {ops : Array Oper} {o : Oper} {d : Nat} {ty : Nat} {pos : String} {af : Array Edge} {gg : Option (Nat × Bool)}
theorem Ta (hr : XB E N cx st a w) (hd : ∀ d, o.dst = some d → d < N) (hdN : d < N) {r : List RS} {us : List Value} {v : Value} {A2 : Nat → Prop} {gs2 : Nat → Option Nat} {pl : List (Qr × Option Bk)} {fz : List Qr}
  (hfresh : ∀ (n e : Nat) (rows : List (List PV)), (QP r)[n]? = some (.own e rows) → Ua (d, n) st) (hA2 : ∀ x, cx.A x → A2 x)
  (hA2' : ∀ x, A2 x → cx.A x ∨ (w.heap.size ≤ x ∧ x < w'.heap.size) ∨ ∃ b, (b ∈ fz ∨ Ym pl b ≠ none) ∧ st.h b ≠ none ∧ ∃ q, cx.ι b = some (x, q))
  (hfz : ∀ b ∈ fz, (∃ e rows mu, st.h b = some (.row e rows mu)) ∧ ∀ g q, cx.ι b = some (g, q) → A2 g) (hfd : ∀ b, Ym pl b ≠ none → b ∉ fz)
  (hdl : ∀ b y, Ym pl b = some y → (∃ e rows, st.h b = some (.row e rows true)) ∧ ∀ bk, y = some bk → ∃ e rows rows', st.h b = some (.row e rows true) ∧ bk = .row e rows' true ∧ rows.length ≤ rows'.length ∧ RB ⟨cx.ι, A2⟩ w' st.h b (.row e rows' true))
  (hsz : w.heap.size ≤ w'.heap.size) (hszk : SzK w w') (hkept : ∀ x, x < w.heap.size → (∀ b, Ym pl b ≠ none → ∀ q, cx.ι b ≠ some (x, q)) → w'.heap[x]? = w.heap[x]?) (hos : w'.os = w.os) (htp : w'.tape = w.tape) (hou : w'.output = w.output)
  (hinj : Qdq gs2) (hgs : ∀ n x, gs2 n = some x → x < w'.heap.size ∧ (w.heap.size ≤ x ∨ ∃ b, Ym pl b = some none ∧ ∃ q, cx.ι b = some (x, q))) (hval : MO w' A2 gs2 0 (QP r) us)
  (hrt : ∀ (cx : Cx) (h : Qr → Option Bk), (∀ k x u, (QP r)[k]? = some x → us[k]? = some u → RC cx w' h (adC d k x) u) → RT cx w' h (Mh d r) v) :
  ∃ cx', XB E N cx' (Ef.ap ⟨Mh d r, BP d 0 (QP r) ++ (pl ++ W7 st fz)⟩ o st) (a.put o.dst v) w' := by
 obtain ⟨hul, hua⟩ := F0 hval
 have hpn : ∀ b, Ym pl b ≠ none → ∃ e rows, st.h b = some (.row e rows true) := fun b h => by
  obtain ⟨y, hy⟩ := Option.ne_none_iff_exists'.1 h
  exact (hdl b y hy).1
 have hpll : ∀ b, Ym pl b ≠ none → st.h b ≠ none := fun b hb => by obtain ⟨_, _, h⟩ := hpn b hb; rw [h]; simp
 have hplA : ∀ b, Ym pl b ≠ none → ∀ x q, cx.ι b = some (x, q) → ¬ cx.A x := by
  intro b hb x q hx
  obtain ⟨e1, rows, hbk⟩ := hpn b hb
  obtain ⟨_, _, h8⟩ := hr.bl b _ hbk
  rw [hx] at h8
  obtain ⟨_, c, el, fz, capR, _, h9, _⟩ := h8
  exact (h9 rfl).2
 have hkeep : XC cx.A w w' := ⟨hsz, fun x hA hx => hkept x hx (fun b hb q hq => hplA b hb x q hq hA), hszk⟩
 generalize hL : QP r = L at *
 let st' := Ef.ap ⟨Mh d r, BP d 0 L ++ (pl ++ W7 st fz)⟩ o st
 -- the blocks behind
 have hh : ∀ x, st'.h x = match (if x.1 = d then L[x.2]? else none) with
   | some (.own e rows) => some (.row e rows true)
   | _ => match Ym pl x with
    | some y => y
    | none => if x ∈ fz then frz (st.h x) else st.h x := by
  intro x
  have key : (Ym (pl ++ W7 st fz ++ st.H) x).getD none = match Ym pl x with
    | some y => y
    | none => if x ∈ fz then frz (st.h x) else st.h x := by
   rw [List.append_assoc, Xg, Xg, Qdr]
   cases Ym pl x with
   | some y => rfl
   | none =>
    simp only [Option.none_or]
    by_cases h2 : x ∈ fz
    ·rw [if_pos h2, if_pos h2]; rfl
    ·rw [if_neg h2, if_neg h2]; rfl
  show (Ym (BP d 0 L ++ (pl ++ W7 st fz) ++ st.H) x).getD none = _
  rw [List.append_assoc, Xg, Ub]
  by_cases hx : x.1 = d
  ·rw [if_pos ⟨hx, Nat.zero_le _⟩, if_pos hx, Nat.sub_zero]
   cases hy : L[x.2]? with
   | none => simp only [Option.none_or]; exact key
   | some y =>
    cases y with
    | p p => simp only [Option.none_or]; exact key
    | own e rows => rfl
  ·rw [if_neg (fun h => hx h.1), if_neg hx]
   simp only [Option.none_or]
   exact key
 -- which are new
 let nw : Qr → Bool := fun b => match (if b.1 = d then L[b.2]? else none) with
  | some (.own _ _) => true
  | _ => false
 have hnw : ∀ b, nw b = true → ∃ n e rows, b = (d, n) ∧ L[n]? = some (.own e rows) := by
  intro b hb
  simp only [nw] at hb
  by_cases h1 : b.1 = d
  ·rw [if_pos h1] at hb
   cases hx : L[b.2]? with
   | none => rw [hx] at hb; cases hb
   | some x =>
    rw [hx] at hb
    cases x with
    | p p => cases hb
    | own e rows => exact ⟨b.2, e, rows, by rw [← h1], hx⟩
  ·rw [if_neg h1] at hb; cases hb
 have hnw2 : ∀ n e rows, L[n]? = some (.own e rows) → nw (d, n) = true := by
  intro n e rows h
  simp only [nw, if_true, h]
 have hnwn : ∀ x, nw x = true → st.h x = none := fun x hx => by
  obtain ⟨n, e, rows, rfl, h⟩ := hnw x hx
  exact (hfresh n e rows h).1
 have hold' : ∀ x, st.h x ≠ none → nw x = false := fun x hx => by
  cases h : nw x with
  | false => rfl
  | true => exact absurd (hnwn x h) hx
 have hh1 : ∀ x, nw x = false → st'.h x = match Ym pl x with
   | some y => y
   | none => if x ∈ fz then frz (st.h x) else st.h x := by
  intro x hx
  rw [hh]
  simp only [nw] at hx
  revert hx
  generalize (if x.1 = d then L[x.2]? else none) = y
  intro hx
  match y, hx with
  | none, _ => rfl
  | some (.p _), _ => rfl
  | some (.own _ _), hx => cases hx
 have hh2 : ∀ n e rows, L[n]? = some (.own e rows) → st'.h (d, n) = some (.row e rows true) := by
  intro n e rows h
  rw [hh]
  simp only [if_true, h]
 -- what was live
 have hold : ∀ x, nw x = false → st'.h x ≠ none → st.h x ≠ none ∧ Ym pl x ≠ some none := by
  intro x hx h
  rw [hh1 x hx] at h
  cases hp : Ym pl x with
  | some y =>
   rw [hp] at h
   exact ⟨hpll x (by rw [hp]; simp), fun e => by cases e; exact h rfl⟩
  | none =>
   rw [hp] at h
   refine ⟨?_, by simp⟩
   simp only at h
   split at h
   ·intro e; rw [e] at h; exact h rfl
   ·exact h
 let cx2 : Cx := ⟨fun b => if nw b = true then ιOf (gs2 b.2) ((us[b.2]?).getD undef) else cx.ι b, A2⟩
 have hι1 : ∀ b, nw b = true → cx2.ι b = ιOf (gs2 b.2) ((us[b.2]?).getD undef) := fun b h => by show (if nw b = true then _ else _) = _; rw [if_pos h]
 have hι2 : ∀ b, nw b = false → cx2.ι b = cx.ι b := fun b h => by show (if nw b = true then _ else _) = _; rw [if_neg (by rw [h]; simp)]
 have hnew : ∀ b g q, nw b = true → cx2.ι b = some (g, q) → gs2 b.2 = some g := by
  intro b g q h1 h2
  rw [hι1 b h1] at h2
  exact (ιOf_in h2).1
 -- an old block that stays is not touched
 have hstay : ∀ x gx qx, st.h x ≠ none → Ym pl x = none → cx.ι x = some (gx, qx) → w'.heap[gx]? = w.heap[gx]? := by
  intro x gx qx h1 h3 h4
  refine hkept gx (hr.own x gx qx h1 h4).1 (fun y hy q' hq => ?_)
  exact hr.inj x y gx qx gx q' h1 (hpll y hy) h4 hq (fun e => hy (e ▸ h3)) rfl
 have hown2 : ∀ k x u, L[k]? = some x → us[k]? = some u → RC cx2 w' st'.h (adC d k x) u := by
  intro k x u hk hu
  obtain ⟨u', hu', h1, h2⟩ := hua k x hk
  rw [hu] at hu'
  cases hu'
  rw [Nat.zero_add] at h2
  cases x with
  | p p => exact h2
  | own e rows =>
   have hn := hnw2 k e rows hk
   exact SA (cx := cx2) h2 (hh2 k e rows hk) (by rw [hι1 _ hn]; simp [hu])
 refine ⟨cx2, hr.step (ef := ⟨Mh d r, BP d 0 L ++ (pl ++ W7 st fz)⟩) hd ((BP d 0 L).map (·.1)) (fun x hx => ?_) hA2 (fun x hx => ?_) hkeep (fun x hx hM => ?_) hos htp hou (fun x hx => ?_) (fun x bk hx => ?_) (fun x x' gx qx gx' qx' hx hx' hi hi' hne => ?_) (fun x gx qx hx hi => ?_) ?_ ?_⟩
 ·obtain ⟨y, hy⟩ := Ld hx
  rw [Ub] at hy
  split at hy
  ·rename_i h1
   rw [Nat.sub_zero] at hy
   cases hz : L[x.2]? with
   | none => rw [hz] at hy; cases hy
   | some z =>
    rw [hz] at hy
    cases z with
    | p p => cases hy
    | own e rows =>
     have := hfresh x.2 e rows hz
     obtain ⟨b1, b2⟩ := x
     simp only at h1
     rw [← h1.1] at this
     exact this
  ·cases hy
 ·rcases hA2' x hx with h | h | ⟨y, hy, hyl, q, hq⟩
  ·exact .inl h
  ·exact .inr ⟨h.2, .inl (Nat.le_trans hr.sz h.1)⟩
  ·obtain ⟨h1, h2⟩ := hr.own y x q hyl hq
   exact .inr ⟨Nat.lt_of_lt_of_le h1 hsz, h2⟩
 ·refine hkept x (Nat.lt_of_lt_of_le hx hr.sz) (fun y hy q' hq => ?_)
  rcases (hr.own y x q' (hpll y hy) hq).2 with h | h
  ·omega
  ·exact hM h
 ·have hb' : nw x = false := by
   cases h : nw x with
   | false => rfl
   | true =>
    obtain ⟨n, e, rows, rfl, h1⟩ := hnw x h
    exfalso
    refine hx ?_
    have := Ub d L 0 (d, n)
    rw [if_pos ⟨rfl, Nat.zero_le _⟩, Nat.sub_zero, h1] at this
    exact List.mem_map.2 ⟨_, W5 this, rfl⟩
  intro bk' hbk
  have hbk2 : st'.h x = some bk' := hbk
  obtain ⟨hl1, hl2⟩ := hold x hb' (by rw [hbk2]; simp)
  rw [hh1 x hb'] at hbk2
  cases hp : Ym pl x with
  | some y =>
   rw [hp] at hbk2
   simp only at hbk2
   subst hbk2
   obtain ⟨e, rows, rows', h1, rfl, h3, h4⟩ := (hdl x _ hp).2 _ rfl
   refine ⟨_, h1, rfl, h3, hι2 x hb', fun gx qx c el fz' h6 h7 => ?_⟩
   obtain ⟨c', el', fz2, h8, h9⟩ := hszk gx c el fz' h7
   exact ⟨c', el', fz2, h8, fun _ => h9⟩
  | none =>
   rw [hp] at hbk2
   simp only at hbk2
   have hex : ∃ bk, st.h x = some bk ∧ bk.e = bk'.e ∧ bk.len ≤ bk'.len := by
    split at hbk2
    ·rename_i hf
     obtain ⟨⟨e, rows, mu, h1⟩, _⟩ := hfz x hf
     rw [h1] at hbk2 ⊢
     cases hbk2
     exact ⟨_, rfl, rfl, Nat.le_refl _⟩
    ·exact ⟨bk', hbk2, rfl, Nat.le_refl _⟩
   obtain ⟨bk, h3, h4, h5⟩ := hex
   refine ⟨bk, h3, h4, h5, hι2 x hb', fun gx qx c el fz' h6 h7 => ⟨c, el, fz', ?_, fun _ => rfl⟩⟩
   rw [hstay x gx qx hl1 hp h6]; exact h7
 ·have hx0 : st'.h x = some bk := hx
  cases hb' : nw x with
  | true =>
   obtain ⟨n, e, rows, rfl, h1⟩ := hnw x hb'
   rw [hh2 n e rows h1] at hx0
   cases hx0
   obtain ⟨u, hu, h2, h3⟩ := hua n _ h1
   refine .inr (SB (cx := cx2) (go := gs2 n) (u := u) ?_ ?_)
   ·rw [Nat.zero_add] at h3; exact h3
   ·rw [hι1 _ hb']; simp [hu]
  | false =>
   obtain ⟨hl1, hl2⟩ := hold x hb' (by rw [hx0]; simp)
   have hx1 := hx0
   rw [hh1 x hb'] at hx1
   cases hp : Ym pl x with
   | some y =>
    rw [hp] at hx1
    simp only at hx1
    subst hx1
    obtain ⟨e, rows, rows', h1, rfl, h3, h4⟩ := (hdl x _ hp).2 _ rfl
    right
    obtain ⟨h5, h6, h7⟩ := h4
    refine ⟨h5, h6, ?_⟩
    rw [hι2 x hb']
    exact h7
   | none =>
    rw [hp] at hx1
    simp only at hx1
    split at hx1
    ·rename_i hf
     obtain ⟨⟨e, rows, mu, h3⟩, h4⟩ := hfz x hf
     rw [h3] at hx1
     cases hx1
     right
     obtain ⟨h5, h6, h7⟩ := hr.bl x _ h3
     refine ⟨h5, h6, ?_⟩
     rw [hι2 x hb']
     revert h7
     cases hi : cx.ι x with
     | none => exact id
     | some y =>
      obtain ⟨gx, qx⟩ := y
      rintro ⟨rfl, c, el, fz', capR, h8, h9, h10, h11, h12, h13, h14⟩
      exact ⟨rfl, c, el, fz', capR, by rw [hstay x gx 0 hl1 hp hi]; exact h8, (fun h => by cases h), fun _ => h4 gx 0 hi, h11, h12, h13, fun i r k p hi hk => let ⟨cv, hcv, hp⟩ := h14 i r k p hi hk; ⟨cv, hcv, hp.keeps hA2 hkeep⟩⟩
    ·rename_i hf
     refine .inl ⟨?_, hx1, hι2 x hb', fun gx qx hi => ?_⟩
     ·intro hm
      obtain ⟨y, hy⟩ := Ld hm
      rw [Ub] at hy
      split at hy
      ·rename_i h1
       rw [Nat.sub_zero] at hy
       simp only [nw] at hb'
       rw [if_pos h1.1] at hb'
       revert hb' hy
       generalize L[x.2]? = z
       intro hb' hy
       match z, hb', hy with
       | none, _, hy => cases hy
       | some (.p _), _, hy => cases hy
       | some (.own _ _), hb', _ => cases hb'
      ·cases hy
     ·refine ⟨hstay x gx qx hl1 hp hi, fun hnA hA => ?_⟩
      rcases hA2' gx hA with h | h | ⟨y, hy, hyl, q2, hq2⟩
      ·exact hnA h
      ·have := (hr.own x gx qx hl1 hi).1
       omega
      ·refine hr.inj x y gx qx gx q2 hl1 hyl hi hq2 ?_ rfl
       rintro rfl
       rcases hy with hy | hy
       ·exact hf hy
       ·exact hy hp
 ·have hmix : ∀ x x' gx qx gx' qx', nw x = true → nw x' = false → st'.h x' ≠ none → cx2.ι x = some (gx, qx) → cx2.ι x' = some (gx', qx') → gx ≠ gx' := by
   intro x x' gx qx gx' qx' h1 h2 h3 h4 h5 e
   subst e
   obtain ⟨h6, h8⟩ := hgs _ _ (hnew x gx qx h1 h4)
   obtain ⟨hl1, hl2⟩ := hold x' h2 h3
   rw [hι2 x' h2] at h5
   rcases h8 with h8 | ⟨y, hy, q', hq⟩
   ·have := (hr.own x' gx qx' hl1 h5).1
    omega
   ·refine hr.inj x' y gx qx' gx q' hl1 (hpll y (by rw [hy]; simp)) h5 hq ?_ rfl
    rintro rfl
    exact hl2 hy
  cases h1 : nw x <;> cases h2 : nw x'
  ·rw [hι2 x h1] at hi
   rw [hι2 x' h2] at hi'
   exact hr.inj x x' gx qx gx' qx' (hold x h1 hx).1 (hold x' h2 hx').1 hi hi' hne
  ·exact fun e => hmix x' x gx' qx' gx qx h2 h1 hx hi' hi e.symm
  ·exact hmix x x' gx qx gx' qx' h1 h2 hx' hi hi'
  ·have e1 := hnew x gx qx h1 hi
   have e2 := hnew x' gx' qx' h2 hi'
   obtain ⟨n, e, rows, rfl, _⟩ := hnw x h1
   obtain ⟨n', e', rows', rfl, _⟩ := hnw x' h2
   rintro rfl
   have := hinj n n' gx e1 e2
   exact hne (by rw [this])
 ·cases h1 : nw x with
  | true =>
   obtain ⟨h5, h7⟩ := hgs _ _ (hnew x gx qx h1 hi)
   refine ⟨h5, ?_⟩
   rcases h7 with h7 | ⟨y, hy, q', hq⟩
   ·exact .inl (Nat.le_trans hr.sz h7)
   ·exact (hr.own y gx q' (hpll y (by rw [hy]; simp)) hq).2
  | false =>
   rw [hι2 x h1] at hi
   obtain ⟨h3, h4⟩ := hr.own x gx qx (hold x h1 hx).1 hi
   exact ⟨Nat.lt_of_lt_of_le h3 hsz, h4⟩
 ·refine hrt cx2 _ (fun k x u hk hu => hown2 k x u hk hu)
 ·intro b hb
  refine hι2 b ?_
  cases h : nw b with
  | false => rfl
  | true =>
   obtain ⟨n, e, rows, h1, _⟩ := hnw b h
   have := hr.hN
   rcases hb with hb | hb
   ·rw [hb] at h1
    simp only [Ka, Prod.mk.injEq] at h1
    omega
   ·rw [h1] at hb
    simp only at hb
    omega
theorem Q9w {st' : St} {σ : List Qr} {c c' : CV} {bs : List Qr} (h : HC st σ c c' bs) (hb : ∀ b ∈ bs, st'.h b = st.h b) : HC st' σ c c' bs := by
 cases h with
 | p h => exact .p (Mb h hb)
 | sl h hn => exact .sl h hn
 | ptr h hi hj => exact .ptr h hi hj
theorem Qjl {st' : St} {σ : List Qr} {cs cs' : List CV} {bs : List Qr} (h : HCs st σ cs cs' bs) (hb : ∀ b ∈ bs, st'.h b = st.h b) : HCs st' σ cs cs' bs := by
 induction h with
 | nil => exact .nil
 | cons h hs ih => exact .cons (Q9w h fun b hm => hb b (List.mem_append_left _ hm)) (ih fun b hm => hb b (List.mem_append_right _ hm))
theorem Qjm {st' : St} {σ : List Qr} {ts ts' : List TV} {bs : List Qr} (h : HTs st σ ts ts' bs) (hb : ∀ b ∈ bs, st'.h b = st.h b) : HTs st' σ ts ts' bs := by
 induction h with
 | nil => exact .nil
 | cons h hs ih =>
  refine .cons ?_ (ih fun b hm => hb b (List.mem_append_right _ hm))
  cases h with
  | c h => exact .c (Q9w h fun b hm => hb b (List.mem_append_left _ hm))
  | agg h => exact .agg (Qjl h fun b hm => hb b (List.mem_append_left _ hm))
theorem Qhc {σ : List Qr} {c c' : CV} {bs : List Qr} (h : HC st σ c c' bs) : ∀ b ∈ bs, ∃ e rows mu, st.h b = some (.row e rows mu) := by
 cases h with
 | p h => exact BQ h
 | sl h _ => simp
 | ptr h _ _ => simp
theorem Qoi {σ : List Qr} {ts ts' : List TV} {bs : List Qr} (h : HTs st σ ts ts' bs) : ∀ b ∈ bs, ∃ e rows mu, st.h b = some (.row e rows mu) := by
 have hcs : ∀ {cs cs' bs}, HCs st σ cs cs' bs → ∀ b ∈ bs, ∃ e rows mu, st.h b = some (.row e rows mu) := by
  intro cs cs' bs h
  induction h with
  | nil => simp
  | cons h hs ih =>
   intro b hb
   rcases List.mem_append.1 hb with hb | hb
   ·exact Qhc h b hb
   ·exact ih b hb
 induction h with
 | nil => simp
 | cons h hs ih =>
  intro b hb
  rcases List.mem_append.1 hb with hb | hb
  ·cases h with
   | c h => exact Qhc h b hb
   | agg h => exact hcs h b hb
  ·exact ih b hb
theorem Q3y {st' : St} : ∀ {σ : List Qr} {ins : List (Nat × List (List PV))}, InS st σ ins → (∀ b ∈ σ, st'.h b = st.h b) → InS st' σ ins
 | [], [], h, _ => trivial
 | [], _ :: _, h, _ => h.elim
 | _ :: _, [], h, _ => h.elim
 | c :: σ, x :: ins, h, hb => ⟨by rw [hb c List.mem_cons_self]; exact h.1, Q3y h.2 fun b hm => hb b (List.mem_cons_of_mem _ hm)⟩
theorem Qec : ∀ {ts : List TV} {j s : Nat} {t : TV}, Zv (enT j ts) s = some t → ∃ i, s = j + i ∧ ts[i]? = some t
 | [], j, s, t, h => by simp [enT, Zv] at h
 | x :: ts, j, s, t, h => by
  simp only [enT, Zv] at h
  cases hb : Nat.beq j s with
  | true => rw [hb] at h; cases h; exact ⟨0, by rw [Nat.eq_of_beq_eq_true hb]; rfl, rfl⟩
  | false =>
   rw [hb] at h
   obtain ⟨i, h1, h2⟩ := Qec h
   exact ⟨i + 1, by simp only [Nat.add_eq] at h1; omega, by simpa using h2⟩
theorem Qwu (hr : XB E N cx st a w) {σ : List Qr} {A2 : Nat → Prop} {pin1 : Qr → Option (Nat × Nat)} {h0 : Qr → Option Bk} (hA : ∀ x, cx.A x → A2 x) (hpin : ∀ k c, σ[k]? = some c → pin1 (hB k) = cx.ι c) (hh : ∀ k c, σ[k]? = some c → h0 (hB k) = st.h c) :
  ∀ {ts ts' : List TV} {bs : List Qr}, HTs st σ ts ts' bs → (∀ b ∈ bs, ∀ g q, cx.ι b = some (g, q) → A2 g) → ∀ {vs : List Value}, vs.length = ts.length → (∀ (i : Nat) (t : TV), ts[i]? = some t → ∃ v, vs[i]? = some v ∧ RT cx w st.h t v) →
  ts'.length = ts.length ∧ ∀ (i : Nat) (t : TV), ts'[i]? = some t → ∃ v, vs[i]? = some v ∧ RT ⟨pin1, A2⟩ w h0 t v := by
 have hC : ∀ {c c' bs v}, HC st σ c c' bs → (∀ b ∈ bs, ∀ g q, cx.ι b = some (g, q) → A2 g) → RC cx w st.h c v → RC ⟨pin1, A2⟩ w h0 c' v := by
  intro c c' bs v h hb hv
  cases h with
  | p h => exact Om hr h hv hA hb (fun b h => by cases h)
  | @sl c k n n' hk hn =>
   subst hn
   intro bk hbk
   rw [hh k c hk] at hbk
   obtain ⟨a', cap, h1, h2, h3, h4, h5⟩ := hv bk hbk
   refine ⟨a', cap, h1, h2, h3, h4, ?_⟩
   rcases h5 with h5 | ⟨g, c1, el, fz, h6, h7⟩
   ·exact .inl h5
   ·exact .inr ⟨g, c1, el, fz, (hpin k c hk).trans h6, h7⟩
  | @ptr c k i j i' j' hk hi hj =>
   subst hi hj
   intro bk hbk
   rw [hh k c hk] at hbk
   obtain ⟨g, o, h1, h2⟩ := hv bk hbk
   exact ⟨g, o, (hpin k c hk).trans h1, h2⟩
 have hL : ∀ {cs cs' bs}, HCs st σ cs cs' bs → (∀ b ∈ bs, ∀ g q, cx.ι b = some (g, q) → A2 g) → ∀ {us : List Value}, us.length = cs.length → (∀ (i : Nat) (c : CV), cs[i]? = some c → ∃ u, us[i]? = some u ∧ u.oneCell' = true ∧ RC cx w st.h c u) →
   cs'.length = cs.length ∧ ∀ (i : Nat) (c : CV), cs'[i]? = some c → ∃ u, us[i]? = some u ∧ u.oneCell' = true ∧ RC ⟨pin1, A2⟩ w h0 c u := by
  intro cs cs' bs h
  induction h with
  | nil => intro _ us _ _; exact ⟨rfl, fun i c h => by simp at h⟩
  | @cons c c' b cs cs' bs h hs ih =>
   intro hb us hl hu
   cases us with
   | nil => simp at hl
   | cons u us =>
    obtain ⟨h1, h2⟩ := ih (fun b' hb' => hb b' (List.mem_append_right _ hb')) (us := us) (by simpa using hl) (fun i c hi => by simpa using hu (i + 1) c (by simpa using hi))
    refine ⟨by simp [h1], fun i x hi => ?_⟩
    cases i with
    | zero =>
     rw [List.getElem?_cons_zero] at hi
     cases hi
     obtain ⟨u', hu', h3, h4⟩ := hu 0 c rfl
     exact ⟨u', hu', h3, hC h (fun b' hb' => hb b' (List.mem_append_left _ hb')) h4⟩
    | succ i => simpa using h2 i x (by simpa using hi)
 intro ts ts' bs h
 induction h with
 | nil => intro _ vs _ _; exact ⟨rfl, fun i t h => by simp at h⟩
 | @cons t t' b ts ts' bs h hs ih =>
  intro hb vs hl hv
  cases vs with
  | nil => simp at hl
  | cons v vs =>
   obtain ⟨h1, h2⟩ := ih (fun b' hb' => hb b' (List.mem_append_right _ hb')) (vs := vs) (by simpa using hl) (fun i t hi => by simpa using hv (i + 1) t (by simpa using hi))
   refine ⟨by simp [h1], fun i x hi => ?_⟩
   cases i with
   | zero =>
    rw [List.getElem?_cons_zero] at hi
    cases hi
    obtain ⟨v', hv', h3⟩ := hv 0 t rfl
    refine ⟨v', hv', ?_⟩
    cases h with
    | c h =>
     have hone : v'.oneCell' = true := by
      rcases h3.1 with h4 | h4
      ·subst h4
       cases h with
       | p h => cases h
      ·exact h4
     exact ⟨.inr hone, hC h (fun b' hb' => hb b' (List.mem_append_left _ hb')) h3.2⟩
    | agg h =>
     obtain ⟨us, rfl, h4, h5⟩ := h3
     obtain ⟨h6, h7⟩ := hL h (fun b' hb' => hb b' (List.mem_append_left _ hb')) (us := us.toList) (by simpa using h4) (fun i c hi => by simpa using h5 i c hi)
     exact ⟨us, rfl, by simpa [h4] using h6.symm, fun i c hi => by simpa using h7 i c hi⟩
   | succ i => simpa using h2 i x (by simpa using hi)
theorem Qjn {f : FuncId} {xs : Array Operand} {tys : Array TypeId} {ins : List (Nat × List (List PV))} {ts : List TV} {r : List RS} {outs : List (Option (List (List PV)))} {σ bs ids : List Qr} {bl : List (Qr × Option Bk)} {t : TV}
  (hcon : CH P f ins ts r outs) (hin : InS st σ ins) (hargs : HTs st σ (xs.toList.map st.ev) ts bs) (hlen : ∀ (k : Nat) (x : Nat × List (List PV)) (rows' : List (List PV)), ins[k]? = some x → outs[k]? = some (some rows') → x.2.length ≤ rows'.length) (hol : outs.length = ins.length)
  (hok : xs.toList.all Zj = true := by exact rfl) (hnod : N4 (σ.map some) = true := by exact rfl) (hdis : Ev σ bs = true := by exact rfl) (hids : (BP d 0 (QP r)).map (·.1) = ids := by exact rfl) (hbl : BP d 0 (QP r) ++ (Ls σ ins outs ++ W7 st bs) = bl := by exact rfl) (ht : Mh d r = t := by exact rfl) :
  ZA E N P ops ⟨some d, .call { callee := .value (.func f), args := xs, argTypes := tys }, ty, pos, af, gg⟩ st ⟨σ ++ bs, ids⟩ ⟨t, bl⟩ := by
 subst hids
 subst hbl
 subst ht
 intro st' ha hf hd cx a w Q hr
 have hbe : ∀ b ∈ σ ++ bs, st'.h b = st.h b := ha.2
 have hin' := Q3y hin (st' := st') fun b hb => hbe b (List.mem_append_left _ hb)
 have hargs' := Qjm hargs (st' := st') fun b hb => hbe b (List.mem_append_right _ hb)
 obtain ⟨hsl, hsat⟩ := Qoh hin'
 have hlive := Qoi hargs'
 have hbn : ∀ b ∈ bs, st'.h b ≠ none := fun b hb => by obtain ⟨_, _, _, h⟩ := hlive b hb; rw [h]; simp
 have hdis' := Xa hdis
 have hnod' : ∀ {i j : Nat} {c : Qr}, σ[i]? = some c → σ[j]? = some c → i = j := fun {i j c} h1 h2 => EW hnod i j c (by rw [List.getElem?_map, h1]; rfl) (by rw [List.getElem?_map, h2]; rfl)
 have hσn : ∀ {k : Nat} {c : Qr}, σ[k]? = some c → st'.h c ≠ none := fun h => by obtain ⟨_, _, _, h2⟩ := hsat _ _ h; rw [h2]; simp
 let A2 : Nat → Prop := fun x => cx.A x ∨ ∃ b ∈ bs, st'.h b ≠ none ∧ ∃ q, cx.ι b = some (x, q)
 have hAsz : ∀ x, A2 x → x < w.heap.size := by
  rintro x (h | ⟨b, hb, hbl, q, hq⟩)
  ·exact (hr.A x h).1
  ·exact (hr.own b x q hbl hq).1
 have hmut : ∀ {k : Nat} {c : Qr}, σ[k]? = some c → ∀ g q, cx.ι c = some (g, q) → ¬ A2 g := by
  intro k c hk g q hg
  obtain ⟨e1, rows, _, hbk⟩ := hsat k c hk
  obtain ⟨_, _, h8⟩ := hr.bl c _ hbk
  rw [hg] at h8
  obtain ⟨_, c1, el, fz, capR, _, h9, _⟩ := h8
  rintro (h | ⟨z, hz, hzl, q2, hq2⟩)
  ·exact (h9 rfl).2 h
  ·refine hr.inj c z g q g q2 (hσn hk) hzl hg hq2 ?_ rfl
   rintro rfl
   exact hdis' c (List.mem_of_getElem? hk) hz
 let pin1 : Qr → Option (Nat × Nat) := fun b => if b.2 = 0 ∧ 65537 ≤ b.1 then (match σ[b.1 - 65537]? with | some c => cx.ι c | none => none) else none
 have hpin : ∀ k c, σ[k]? = some c → pin1 (hB k) = cx.ι c := by
  intro k c hk
  show (if (hB k).2 = 0 ∧ 65537 ≤ (hB k).1 then _ else _) = _
  rw [if_pos (by simp [hB])]
  simp only [hB, Nat.add_eq, Nat.add_sub_cancel_left, hk]
 let st0 : St := ⟨enT 0 ts, inH 0 ins⟩
 have hh0 : ∀ k c, σ[k]? = some c → st0.h (hB k) = st'.h c := by
  intro k c hk
  obtain ⟨e, rows, h1, h2⟩ := hsat k c hk
  show (Ym (inH 0 ins) (hB k)).getD none = _
  rw [Qof, if_pos (by simp [hB])]
  simp only [hB, Nat.add_eq, Nat.add_zero, Nat.add_sub_cancel_left, h1]
  rw [h2]; rfl
 have hst0 : ∀ b bk, st0.h b = some bk → ∃ k c e rows, b = hB k ∧ σ[k]? = some c ∧ ins[k]? = some (e, rows) ∧ bk = .row e rows true ∧ st'.h c = some bk := by
  intro b bk hb
  have hb1 : (Ym (inH 0 ins) b).getD none = some bk := hb
  rw [Qof] at hb1
  by_cases h : b.2 = 0 ∧ 65537 + 0 ≤ b.1
  ·rw [if_pos h] at hb1
   cases hx : ins[b.1 - (65537 + 0)]? with
   | none => rw [hx] at hb1; cases hb1
   | some x =>
    rw [hx] at hb1
    cases hb1
    obtain ⟨e, rows⟩ := x
    have hlt := (List.getElem?_eq_some_iff.1 hx).1
    obtain ⟨c, hc⟩ : ∃ c, σ[b.1 - (65537 + 0)]? = some c := ⟨σ[b.1 - (65537 + 0)], by simp⟩
    obtain ⟨e2, rows2, h2, h3⟩ := hsat _ c hc
    rw [hx] at h2; cases h2
    refine ⟨b.1 - (65537 + 0), c, e, rows, ?_, hc, hx, rfl, h3⟩
    obtain ⟨b1, b2⟩ := b
    simp only [hB, Nat.add_eq, Prod.mk.injEq] at h ⊢
    omega
  ·rw [if_neg h] at hb1; cases hb1
 obtain ⟨T, fn, body, hfn, hbody, hN2, htl, haw⟩ := hcon.run
 let E1 : En := ⟨w, A2, fun x => ∃ (k : Nat) (c : Qr) (q : Nat), σ[k]? = some c ∧ cx.ι c = some (x, q), pin1⟩
 have hev : ∀ x ∈ xs.toList, RT cx w st'.h (st.ev x) (a.eval x) := by
  intro x hx
  rw [← JQ ha (x := x) (by simp only [Op.operands, Call.operands]; simp at hx ⊢; exact .inr hx)]
  exact hr.ev (List.all_eq_true.1 hok x hx)
 obtain ⟨htsl, hts⟩ := Qwu hr (pin1 := pin1) (h0 := st0.h) (A2 := A2) (fun x hx => .inl hx) hpin hh0 hargs' (fun b hb g q hg => .inr ⟨b, hb, hbn b hb, q, hg⟩) (vs := (xs.map a.eval).toList) (by simp) (fun i t hi => by
  rw [List.getElem?_map, Option.map_eq_some_iff] at hi
  obtain ⟨x, hx, rfl⟩ := hi
  exact ⟨a.eval x, by rw [Array.toList_map, List.getElem?_map, hx]; rfl, hev x (List.mem_of_getElem? hx)⟩)
 have hvsz : (xs.map a.eval).size = ts.length := by rw [htsl]; simp
 have hr1 : XB E1 fn.ntmps ⟨pin1, A2⟩ st0 { tmps := (xs.map a.eval) ++ Array.replicate (fn.ntmps - (xs.map a.eval).size) undef, defers := [] } w := by
  refine ⟨rfl, by simp only [Array.size_append, Array.size_replicate]; omega, fun s => ?_, fun b bk hb => ?_, fun b b' g o g' o' hb hb' hi hi' hne => ?_, fun b g o hb hi => ?_, fun x hx => ⟨hAsz x hx, .inl hx⟩, fun x hx => hx, fun _ _ _ => rfl, Nat.le_refl _, rfl, rfl, rfl, hN2, fun _ _ => rfl, .refl _⟩
  ·have e : st0.g s = (Zv (enT 0 ts) s).getD (.c .any) := rfl
   rw [e]
   cases hl : Zv (enT 0 ts) s with
   | none => exact ⟨.inl rfl, trivial⟩
   | some t =>
    obtain ⟨i, h1, h2⟩ := Qec hl
    rw [Nat.zero_add] at h1
    subst h1
    obtain ⟨v, h3, h4⟩ := hts s t h2
    have hi := (List.getElem?_eq_some_iff.1 h3).1
    have : ((xs.map a.eval) ++ Array.replicate (fn.ntmps - (xs.map a.eval).size) undef).getD s undef = v := by
     rw [Array.getD_eq_getD_getElem?, Array.getElem?_append_left (by simpa using hi)]
     rw [Array.getElem?_toList] at h3
     rw [h3]; rfl
    rw [this]
    exact h4
  ·obtain ⟨k, c, e, rows, rfl, h1, h2, rfl, h3⟩ := hst0 b bk hb
   obtain ⟨h5, h6, h7⟩ := hr.bl c _ h3
   refine ⟨h5, h6, ?_⟩
   have hp : (⟨pin1, A2⟩ : Cx).ι (hB k) = cx.ι c := hpin k c h1
   rw [hp]
   have hm := hmut h1
   revert h7 hm
   cases cx.ι c with
   | none => exact fun h _ => h
   | some y =>
    obtain ⟨gx, qx⟩ := y
    rintro ⟨rfl, c1, el, fz', capR, h8, h9, h10, h11, h12, h13, h14⟩ hm
    exact ⟨rfl, c1, el, fz', capR, h8, fun _ => ⟨(h9 rfl).1, hm gx 0 rfl⟩, (fun h => by cases h), h11, h12, h13, fun i r k p hi hk => let ⟨cv, hcv, hp⟩ := h14 i r k p hi hk; ⟨cv, hcv, hp.mono (fun x hx => .inl hx) (Nat.le_refl _) (fun _ _ _ => rfl)⟩⟩
  ·obtain ⟨bk, hb1⟩ := Option.ne_none_iff_exists'.1 hb
   obtain ⟨bk', hb2⟩ := Option.ne_none_iff_exists'.1 hb'
   obtain ⟨k, c, _, _, rfl, h1, _, _, _⟩ := hst0 b bk hb1
   obtain ⟨k', c', _, _, rfl, h1', _, _, _⟩ := hst0 b' bk' hb2
   have e1 : cx.ι c = some (g, o) := (hpin k c h1).symm.trans hi
   have e2 : cx.ι c' = some (g', o') := (hpin k' c' h1').symm.trans hi'
   refine hr.inj c c' g o g' o' (hσn h1) (hσn h1') e1 e2 ?_
   rintro rfl
   exact hne (by rw [hnod' h1 h1'])
  ·obtain ⟨bk, hb1⟩ := Option.ne_none_iff_exists'.1 hb
   obtain ⟨k, c, _, _, rfl, h1, _, _, _⟩ := hst0 b bk hb1
   have e1 : cx.ι c = some (g, o) := (hpin k c h1).symm.trans hi
   exact ⟨(hr.own c g o (hσn h1) e1).1, .inr ⟨k, c, o, h1, e1⟩⟩
 have hfl : W7 st bs = W7 st' bs := List.map_congr_left fun b hb => by rw [hbe b (List.mem_append_right _ hb)]
 have hcalls : Calls P f (xs.map a.eval) w (fun e w' => ∃ v cx', e = .returned v ∧ XB E N cx' (Ef.ap ⟨Mh d r, BP d 0 (QP r) ++ (Ls σ ins outs ++ W7 st' bs)⟩ ⟨some d, .call { callee := .value (.func f), args := xs, argTypes := tys }, ty, pos, af, gg⟩ st') (a.put (some d) v) w') := by
  refine calls_of_wp hfn hbody (wp_mono (haw E1 _ _ _ hr1) ?_)
  rintro e a' w' ⟨st2, cx2, ⟨he, tsr, os, bs', h1, h2, hout, h3, h4, h5⟩, hr'⟩
  obtain ⟨vs', h6, h7, h8⟩ := M9 hr' h1
  have hres := FU (fn := fn) (rs := fn.results.toList) (by simp) h6
  have hnod2 := EW h3
  have hdis2 := Xa h4
  have hsur := Xa h5
  obtain ⟨hbl2, hol2⟩ := N8 h2
  obtain ⟨-, houtat⟩ := Q9v hout
  have hpin2 : ∀ k c, σ[k]? = some c → cx2.ι (hB k) = cx.ι c := fun k c hk => (hr'.pin (hB k) (.inr (by simp [hB]))).trans (hpin k c hk)
  let A' : Nat → Prop := fun x => cx2.A x ∨ ∃ b ∈ bs', st2.h b ≠ none ∧ ∃ q, cx2.ι b = some (x, q)
  have hlive2 : ∀ b, some b ∈ os → st2.h b ≠ none := fun b hb => by obtain ⟨_, _, h⟩ := hol2 b hb; rw [h]; simp
  have hmut2 : ∀ b, some b ∈ os → ∀ g q, cx2.ι b = some (g, q) → ¬ cx2.A g := by
   intro b hb g q hg
   obtain ⟨e1, rows, hbk⟩ := hol2 b hb
   obtain ⟨_, _, h8⟩ := hr'.bl b _ hbk
   rw [hg] at h8
   obtain ⟨_, c, el, fz, capR, _, h9, _⟩ := h8
   exact (h9 rfl).2
  have hnA : ∀ b, some b ∈ os → ∀ g q, cx2.ι b = some (g, q) → ¬ A' g := by
   rintro b hb g q hg (h | ⟨b2, hb2, hb2l, q2, hg2⟩)
   ·exact hmut2 b hb g q hg h
   ·refine hr'.inj b b2 g q g q2 (hlive2 b hb) hb2l hg hg2 ?_ rfl
    rintro rfl
    exact hdis2 b (List.mem_filterMap.2 ⟨some b, hb, rfl⟩) hb2
  have hval := (Oq hr' (A' := A') (fun x hx => .inl hx) h2 (n := 0) (gs := fun n => DY cx2 ((os[n]?).getD none)) (vs := vs') (fun b hb g q hg => .inr ⟨b, hb, hbl2 b hb, q, hg⟩) (fun b hb g q hg => hnA b hb g q hg) (fun k o hk => by rw [Nat.zero_add, hk]; rfl) h7 h8).1
  have hgo : ∀ (n x : Nat), DY cx2 ((os[n]?).getD none) = some x → ∃ b q, os[n]? = some (some b) ∧ cx2.ι b = some (x, q) := by
   intro n x hx
   cases ho : os[n]? with
   | none => rw [ho] at hx; cases hx
   | some o =>
    rw [ho] at hx
    cases o with
    | none => cases hx
    | some b =>
     simp only [DY, Option.getD_some, Option.bind_some, Option.map_eq_some_iff] at hx
     obtain ⟨⟨x', q⟩, h8, rfl⟩ := hx
     exact ⟨b, q, rfl, h8⟩
  have hfin : ∃ v, (results fn a'.tmps).run P w' = .ok v w' ∧ Q9g w' A' (fun n => DY cx2 ((os[n]?).getD none)) r v := by
   refine ⟨_, hres, ?_⟩
   match r, vs', hval with
   | [], [], _ => exact ⟨#[], rfl, trivial⟩
   | [t], [v], h => exact h.1
   | t :: t2 :: r, v :: v2 :: vs, h => exact ⟨_, rfl, h⟩
   | [t], v :: v2 :: vs, h => exact h.2.elim
   | t :: t2 :: r, [v], h => exact h.2.elim
  obtain ⟨v, hv1, hv2⟩ := hfin
  obtain ⟨us, hus, hrt⟩ := Lh (d := d) hv2
  have hplk : ∀ {k : Nat} {c : Qr} {o : Option (List (List PV))} {x : Nat × List (List PV)}, σ[k]? = some c → outs[k]? = some o → ins[k]? = some x → Ym (Ls σ ins outs) c = some (o.map fun rows' => .row x.1 rows' true) := by
   intro k c o x hk ho hx
   obtain ⟨y, hy⟩ := Option.ne_none_iff_exists'.1 (Q53 hsl hol hk)
   obtain ⟨k', x', o', g1, g2, g3, g4⟩ := SE hy
   have := hnod' hk g1
   subst this
   rw [hx] at g2; rw [ho] at g3
   cases g2; cases g3
   rw [hy, g4]
  have hpl : ∀ b, Ym (Ls σ ins outs) b ≠ none → ∃ k, σ[k]? = some b := fun b hb => by
   obtain ⟨y, hy⟩ := Option.ne_none_iff_exists'.1 hb
   obtain ⟨k', x', o', g1, _⟩ := SE hy
   exact ⟨k', g1⟩
  have hMp : ∀ x, E1.M x → ∃ b, Ym (Ls σ ins outs) b ≠ none ∧ st'.h b ≠ none ∧ ∃ q, cx.ι b = some (x, q) := by
   rintro x ⟨k, c, q, hk, hq⟩
   exact ⟨c, Q53 hsl hol hk, hσn hk, q, hq⟩
  have hR2 : a'.defers = [] ∧ ∃ v, (results fn a'.tmps).run P w' = .ok v w' ∧ ∃ v' cx', Ending.returned v = .returned v' ∧ XB E N cx' (Ef.ap ⟨Mh d r, BP d 0 (QP r) ++ (Ls σ ins outs ++ W7 st' bs)⟩ ⟨some d, .call { callee := .value (.func f), args := xs, argTypes := tys }, ty, pos, af, gg⟩ st') (a.put (some d) v') w' := by
   refine ⟨hr'.defers, v, hv1, v, ?_⟩
   have hcore := Ta (o := ⟨some d, .call { callee := .value (.func f), args := xs, argTypes := tys }, ty, pos, af, gg⟩) hr hd (hd d rfl) (w' := w') (pl := Ls σ ins outs) (fz := bs) (gs2 := fun n => DY cx2 ((os[n]?).getD none)) (us := us) (A2 := A') (v := v) (r := r) (fun n e rows hx => hf (d, n) ?_) (fun x hx => .inl (hr'.A0 x (.inl hx))) (fun x hx => ?_) (fun b hb => ⟨hlive b hb, fun g q hg => .inl (hr'.A0 g (.inr ⟨b, hb, hbn b hb, q, hg⟩))⟩) (fun b hb hb2 => ?_) (fun b y hy => ?_) hr'.sz hr'.cz (fun x hx hn => hr'.kept x hx fun hM => ?_) hr'.os hr'.tape hr'.output (fun n m x hx hy => ?_) (fun n x hx => ?_) hus hrt
   ·obtain ⟨cx', hc⟩ := hcore
    exact ⟨cx', rfl, hc⟩
   ·have := Ub d (QP r) 0 (d, n)
    rw [if_pos ⟨rfl, Nat.zero_le _⟩, Nat.sub_zero, hx] at this
    exact List.mem_map.2 ⟨_, W5 this, rfl⟩
   ·have hM : ∀ x, E1.M x → cx.A x ∨ (w.heap.size ≤ x ∧ x < w'.heap.size) ∨ ∃ b, (b ∈ bs ∨ Ym (Ls σ ins outs) b ≠ none) ∧ st'.h b ≠ none ∧ ∃ q, cx.ι b = some (x, q) := fun x hx => by
     obtain ⟨b, g1, g2, g3⟩ := hMp x hx
     exact .inr (.inr ⟨b, .inr g1, g2, g3⟩)
    rcases hx with hx | ⟨b, hb, hbl', q, hq⟩
    ·obtain ⟨g1, g2 | g2 | g2⟩ := hr'.A x hx
     ·rcases g2 with g2 | ⟨b, hb, g3, g4⟩
      ·exact .inl g2
      ·exact .inr (.inr ⟨b, .inl hb, g3, g4⟩)
     ·exact .inr (.inl ⟨g2, g1⟩)
     ·exact hM x g2
    ·obtain ⟨g1, g2 | g2⟩ := hr'.own b x q hbl' hq
     ·exact .inr (.inl ⟨g2, g1⟩)
     ·exact hM x g2
   ·obtain ⟨k, hk⟩ := hpl b hb
    exact hdis' b (List.mem_of_getElem? hk) hb2
   ·obtain ⟨k, x, o, g1, g2, g3, g4⟩ := SE hy
    obtain ⟨e1, rows1, g5, g6⟩ := hsat k b g1
    rw [g2] at g5; cases g5
    refine ⟨⟨e1, rows1, g6⟩, fun bk hbk => ?_⟩
    rw [g4] at hbk
    cases o with
    | none => cases hbk
    | some rows' =>
     cases hbk
     refine ⟨e1, rows1, rows', g6, rfl, hlen k _ rows' g2 g3, ?_⟩
     have g7 := houtat k e1 rows1 rows' g2 g3
     rw [Nat.zero_add] at g7
     obtain ⟨g8, g9, g10⟩ := hr'.bl (hB k) _ g7
     refine ⟨g8, g9, ?_⟩
     show match cx.ι b with | none => _ | some (g, o) => _
     rw [hpin2 k b g1] at g10
     have hsk : hB k ∈ Qeb 0 outs := by have := Q52 (k := 0) g3; rwa [Nat.zero_add] at this
     have hnb : ∀ gx qx, cx.ι b = some (gx, qx) → ¬ cx2.A gx → ¬ A' gx := by
      rintro gx qx hgx hna (h | ⟨b2, hb2, hb2l, q2, hg2⟩)
      ·exact hna h
      ·refine hr'.inj (hB k) b2 gx qx gx q2 (by rw [g7]; simp) hb2l ((hpin2 k b g1).trans hgx) hg2 ?_ rfl
       rintro rfl
       exact hsur (hB k) hsk (List.mem_append_right _ hb2)
     revert g10 hnb
     cases cx.ι b with
     | none => exact fun h _ => h
     | some y =>
      obtain ⟨gx, qx⟩ := y
      rintro ⟨rfl, c1, el, fz', capR, i8, i9, i10, i11, i12, i13, i14⟩ hnb
      exact ⟨rfl, c1, el, fz', capR, i8, fun _ => ⟨(i9 rfl).1, hnb gx 0 rfl (i9 rfl).2⟩, (fun h => by cases h), i11, i12, i13, fun i r k p hi hk => let ⟨cv, hcv, hp⟩ := i14 i r k p hi hk; ⟨cv, hcv, hp.mono (fun x hx => .inl hx) (Nat.le_refl _) (fun _ _ _ => rfl)⟩⟩
   ·obtain ⟨b, g1, g2, q, g3⟩ := hMp x hM
    exact hn b g1 q g3
   ·obtain ⟨b, q, h8, h9⟩ := hgo n x hx
    obtain ⟨b2, q2, h10, h11⟩ := hgo m x hy
    by_cases hbb : b = b2
    ·subst hbb; exact hnod2 n m b h8 h10
    ·exact absurd rfl (hr'.inj b b2 x q x q2 (hlive2 b (List.mem_of_getElem? h8)) (hlive2 b2 (List.mem_of_getElem? h10)) h9 h11 hbb)
   ·obtain ⟨b, q, h8, h9⟩ := hgo n x hx
    have hbl3 := hlive2 b (List.mem_of_getElem? h8)
    obtain ⟨g1, g2⟩ := hr'.own b x q hbl3 h9
    refine ⟨g1, ?_⟩
    rcases g2 with g2 | ⟨k, c, q', hk, hq⟩
    ·exact .inl g2
    ·right
     refine ⟨c, ?_, q', hq⟩
     obtain ⟨e1, rows1, g5, g6⟩ := hsat k c hk
     have hkl := (List.getElem?_eq_some_iff.1 g5).1
     obtain ⟨o, ho⟩ : ∃ o, outs[k]? = some o := ⟨outs[k], by simp⟩
     rw [hplk hk ho g5]
     cases o with
     | none => rfl
     | some rows' =>
      exfalso
      have g7 := houtat k e1 rows1 rows' g5 ho
      rw [Nat.zero_add] at g7
      have hsk : hB k ∈ Qeb 0 outs := by have := Q52 (k := 0) ho; rwa [Nat.zero_add] at this
      refine hr'.inj b (hB k) x q x q' hbl3 (by rw [g7]; simp) h9 ((hpin2 k c hk).trans hq) ?_ rfl
      rintro rfl
      exact hsur (hB k) hsk (List.mem_append_left _ (List.mem_filterMap.2 ⟨_, List.mem_of_getElem? h8, rfl⟩))
  rcases he with rfl | rfl
  ·exact hR2
  ·exact hR2
 unfold Oper.wp
 rw [Li hcon.ent, Oper.upon_enter, hfl]
 refine hcalls.mono ?_
 rintro e w' ⟨v, cx', rfl, h⟩
 exact ⟨cx', h⟩
def Qed : List Qr → Nat → Option Qr
 | [], _ => none
 | b :: _, 0 => some b
 | _ :: r, k + 1 => Qed r k
theorem Q54 : ∀ {l : List Qr} {k : Nat} {b : Qr}, Qed l k = some b → l[k]? = some b
 | [], k, b, h => by simp [Qed] at h
 | x :: l, 0, b, h => by simpa [Qed] using h
 | x :: l, k + 1, b, h => by simpa using Q54 (l := l) (by simpa [Qed] using h)
def hcF (st : St) (σ : List Qr) (c c' : CV) : Option (CV × List Qr × List Prop) := match c', c with
 | .sl b' _ n', .sl b off n => match Qed σ (Nat.sub b'.1 65537) with
  | some c0 => gd (Xf c0 b && (Xf b' (hB (Nat.sub b'.1 65537)) && Nat.beq off 0)) (some (.sl b' 0 n', [], [n = n']))
  | none => none
 | .ptr b' i' j', .ptr b i j => match Qed σ (Nat.sub b'.1 65537) with
  | some c0 => gd (Xf c0 b && Xf b' (hB (Nat.sub b'.1 65537))) (some (.ptr b' i' j', [], [i = i', j = j']))
  | none => none
 | .p x', c => match Qe6 st c (.p x') with
  | some ⟨.p x, none, b, p⟩ => some (.p x, b, p)
  | _ => none
 | _, _ => none
theorem Qoj {σ : List Qr} {c c' x : CV} {b : List Qr} {p : List Prop} (h : hcF st σ c c' = some (x, b, p)) (hp : XR p) : HC st σ c x b := by
 unfold hcF at h
 split at h
 ·split at h
  ·rename_i h1
   obtain ⟨h2, h3⟩ := Kq h
   cases h3
   simp only [Bool.and_eq_true] at h2
   have e1 := Za.1 h2.1
   have e2 := Za.1 h2.2.1
   have e3 := Nat.eq_of_beq_eq_true h2.2.2
   subst e1 e3
   rw [e2]
   cases hp with | cons hp _ => exact .sl (Q54 h1) hp
  ·cases h
 ·split at h
  ·rename_i h1
   obtain ⟨h2, h3⟩ := Kq h
   cases h3
   simp only [Bool.and_eq_true] at h2
   have e1 := Za.1 h2.1
   have e2 := Za.1 h2.2
   subst e1
   rw [e2]
   cases hp with | cons hp hq => cases hq with | cons hq _ => exact .ptr (Q54 h1) hp hq
  ·cases h
 ·split at h
  ·rename_i h1; cases h; exact .p (OA h1 hp)
  ·cases h
 ·cases h
def Qee (st : St) (σ : List Qr) : List CV → List CV → Option (List CV × List Qr × List Prop)
 | c :: cs, c' :: cs' => match hcF st σ c c' with
  | some (x, b, p) => match Qee st σ cs cs' with
   | some (xs, bs, ps) => match Hb b bs, Hb p ps with
    | some b', some p' => some (x :: xs, b', p')
    | _, _ => none
   | none => none
  | none => none
 | [], [] => some ([], [], [])
 | _, _ => none
theorem Qhd {σ : List Qr} : ∀ {cs cs' xs : List CV} {b : List Qr} {p : List Prop}, Qee st σ cs cs' = some (xs, b, p) → XR p → HCs st σ cs xs b
 | c :: cs, c' :: cs', xs, b, p, h, hp => by
  simp only [Qee] at h
  split at h
  ·rename_i h1
   split at h
   ·rename_i h2
    split at h
    ·rename_i hb hq
     cases h
     rw [KX hb]
     rw [KX hq] at hp
     exact .cons (Qoj h1 hp.app.1) (Qhd h2 hp.app.2)
    ·cases h
   ·cases h
  ·cases h
 | [], [], xs, b, p, h, hp => by simp only [Qee] at h; cases h; exact .nil
 | [], _ :: _, _, _, _, h, _ => by simp [Qee] at h
 | _ :: _, [], _, _, _, h, _ => by simp [Qee] at h
def OB (st : St) (σ : List Qr) : List TV → List TV → Option (List TV × List Qr × List Prop)
 | .c c :: ts, .c c' :: ts' => match hcF st σ c c' with
  | some (x, b, p) => match OB st σ ts ts' with
   | some (xs, bs, ps) => match Hb b bs, Hb p ps with
    | some b', some p' => some (.c x :: xs, b', p')
    | _, _ => none
   | none => none
  | none => none
 | .agg c :: ts, .agg c' :: ts' => match Qee st σ c c' with
  | some (x, b, p) => match OB st σ ts ts' with
   | some (xs, bs, ps) => match Hb b bs, Hb p ps with
    | some b', some p' => some (.agg x :: xs, b', p')
    | _, _ => none
   | none => none
  | none => none
 | [], [] => some ([], [], [])
 | _, _ => none
theorem Qwv {σ : List Qr} : ∀ {ts ts' xs : List TV} {b : List Qr} {p : List Prop}, OB st σ ts ts' = some (xs, b, p) → XR p → HTs st σ ts xs b := by
 intro ts
 induction ts with
 | nil =>
  intro ts' xs b p h hp
  cases ts' with
  | nil => simp only [OB] at h; cases h; exact .nil
  | cons => simp [OB] at h
 | cons t ts ih =>
  intro ts' xs b p h hp
  cases ts' with
  | nil => cases t <;> simp [OB] at h
  | cons t' ts' =>
   cases t with
   | c c =>
    cases t' with
    | c c' =>
     simp only [OB] at h
     split at h
     ·rename_i h1
      split at h
      ·rename_i h2
       split at h
       ·rename_i hb hq
        cases h
        rw [KX hb]
        rw [KX hq] at hp
        exact .cons (.c (Qoj h1 hp.app.1)) (ih h2 hp.app.2)
       ·cases h
      ·cases h
     ·cases h
    | agg => simp [OB] at h
    | tup => simp [OB] at h
   | agg c =>
    cases t' with
    | agg c' =>
     simp only [OB] at h
     split at h
     ·rename_i h1
      split at h
      ·rename_i h2
       split at h
       ·rename_i hb hq
        cases h
        rw [KX hb]
        rw [KX hq] at hp
        exact .cons (.agg (Qhd h1 hp.app.1)) (ih h2 hp.app.2)
       ·cases h
      ·cases h
     ·cases h
    | c => simp [OB] at h
    | tup => simp [OB] at h
   | tup => simp [OB] at h
def inF (st : St) : List Qr → List (Nat × List (List PV)) → Option (List Prop)
 | c :: σ, x :: ins => match st.h c with
  | some (.row e rows true) => match Nat.beq e x.1 with
   | true => match inF st σ ins with
    | some ps => some ((rows = x.2) :: ps)
    | none => none
   | false => none
  | _ => none
 | [], [] => some []
 | _, _ => none
theorem Qok : ∀ {σ : List Qr} {ins : List (Nat × List (List PV))} {ps : List Prop}, inF st σ ins = some ps → XR ps → InS st σ ins
 | c :: σ, x :: ins, ps, h, hp => by
  simp only [inF] at h
  split at h
  ·rename_i hb
   split at h
   ·rename_i he
    split at h
    ·rename_i h2
     cases h
     cases hp with
     | cons hp hq =>
      subst hp
      have := Nat.eq_of_beq_eq_true he
      subst this
      exact ⟨hb, Qok h2 hq⟩
    ·cases h
   ·cases h
  ·cases h
 | [], [], ps, h, hp => trivial
 | [], _ :: _, _, h, _ => by simp [inF] at h
 | _ :: _, [], _, h, _ => by simp [inF] at h
def sgC (b' : Qr) : List CV → List CV → Option Qr
 | .sl b _ _ :: cs, .sl y _ _ :: cs' => match Xf y b' with
  | true => some b
  | false => sgC b' cs cs'
 | .ptr b _ _ :: cs, .ptr y _ _ :: cs' => match Xf y b' with
  | true => some b
  | false => sgC b' cs cs'
 | _ :: cs, _ :: cs' => sgC b' cs cs'
 | _, _ => none
def sgT (b' : Qr) : List TV → List TV → Option Qr
 | t :: ts, t' :: ts' => match sgC b' t.cs1 t'.cs1 with
  | some b => some b
  | none => sgT b' ts ts'
 | _, _ => none
def sgF (ts ts' : List TV) : Nat → List (Nat × List (List PV)) → Option (List Qr)
 | _, [] => some []
 | k, _ :: ins => match sgT (hB k) ts ts' with
  | some b => match sgF ts ts' (Nat.add k 1) ins with
   | some l => some (b :: l)
   | none => none
  | none => none
def Qjo : List (Nat × List (List PV)) → List (Option (List (List PV))) → Option (List Prop)
 | x :: ins, y :: outs => match Qjo ins outs with
  | some ps => match y with
   | some rows' => some ((x.2.length ≤ rows'.length) :: ps)
   | none => some ps
  | none => none
 | [], [] => some []
 | _, _ => none
theorem Qhe : ∀ {ins : List (Nat × List (List PV))} {outs : List (Option (List (List PV)))} {ps : List Prop}, Qjo ins outs = some ps → XR ps → outs.length = ins.length ∧ ∀ (k : Nat) (x : Nat × List (List PV)) (rows' : List (List PV)), ins[k]? = some x → outs[k]? = some (some rows') → x.2.length ≤ rows'.length
 | x :: ins, y :: outs, ps, h, hp => by
  simp only [Qjo] at h
  split at h
  ·rename_i ps' h1
   have key : XR ps' ∧ ∀ rows', y = some rows' → x.2.length ≤ rows'.length := by
    split at h
    ·cases h; cases hp with | cons hp hq => exact ⟨hq, fun rows' e => by cases e; exact hp⟩
    ·cases h; exact ⟨hp, fun rows' e => by cases e⟩
   obtain ⟨h2, h3⟩ := Qhe h1 key.1
   refine ⟨by simp [h2], fun k x' rows' hx ho => ?_⟩
   cases k with
   | zero => rw [List.getElem?_cons_zero] at hx ho; cases hx; cases ho; exact key.2 rows' rfl
   | succ k => exact h3 k x' rows' (by simpa using hx) (by simpa using ho)
  ·cases h
 | [], [], ps, h, hp => ⟨rfl, fun k x rows' h => by simp at h⟩
 | [], _ :: _, _, h, _ => by simp [Qjo] at h
 | _ :: _, [], _, h, _ => by simp [Qjo] at h
theorem callh {f : FuncId} {xs : Array Operand} {tys : Array TypeId} {ins : List (Nat × List (List PV))} {ts ts2 : List TV} {r : List RS} {outs : List (Option (List (List PV)))} {σ bs ids : List Qr} {bl : List (Qr × Option Bk)} {t : TV} {pi pa pl : List Prop}
  (hcon : CH P f ins ts r outs) (hσ : sgF (xs.toList.map st.ev) ts 0 ins = some σ := by exact rfl) (hin : inF st σ ins = some pi := by exact rfl) (hargs : OB st σ (xs.toList.map st.ev) ts = some (ts2, bs, pa) := by exact rfl) (he : ts2 = ts := by exact rfl) (hlen : Qjo ins outs = some pl := by exact rfl)
  (hok : xs.toList.all Zj = true := by exact rfl) (hnod : N4 (σ.map some) = true := by exact rfl) (hdis : Ev σ bs = true := by exact rfl) (hids : (BP d 0 (QP r)).map (·.1) = ids := by exact rfl) (hbl : BP d 0 (QP r) ++ (Ls σ ins outs ++ W7 st bs) = bl := by exact rfl) (ht : Mh d r = t := by exact rfl) (hpl : XR pl := by exact Nh) (hpi : XR pi := by exact Nh) (hpa : XR pa := by exact Nh) :
  ZA E N P ops ⟨some d, .call { callee := .value (.func f), args := xs, argTypes := tys }, ty, pos, af, gg⟩ st ⟨σ ++ bs, ids⟩ ⟨t, bl⟩ := by
 subst he
 obtain ⟨h1, h2⟩ := Qhe hlen hpl
 exact Qjn hcon (Qok hin hpi) (Qwv hargs hpa) h2 h1 hok hnod hdis hids hbl ht
def Q3z (st : St) : Nat → List (Nat × List (List PV)) → List (Option (List (List PV))) → Option (List Prop)
 | k, x :: ins, y :: outs => match Q3z st (Nat.add k 1) ins outs with
  | some ps => match y with
   | none => some ps
   | some rows' => match st.h (hB k) with
    | some (.row e rows true) => match Nat.beq e x.1 with
     | true => some ((rows = rows') :: ps)
     | false => none
    | _ => none
  | none => none
 | _, [], [] => some []
 | _, _, _ => none
theorem Tc : ∀ {ins : List (Nat × List (List PV))} {outs : List (Option (List (List PV)))} {k : Nat} {ps : List Prop}, Q3z st k ins outs = some ps → XR ps → Qhb st k ins outs
 | x :: ins, y :: outs, k, ps, h, hp => by
  simp only [Q3z] at h
  split at h
  ·rename_i ps' h1
   cases y with
   | none => simp only at h; cases h; refine ⟨fun rows' e => ?_, Tc h1 hp⟩; cases e
   | some rows0 =>
    simp only at h
    split at h
    ·rename_i hb
     split at h
     ·rename_i he
      cases h
      cases hp with
      | cons hp hq =>
       subst hp
       have := Nat.eq_of_beq_eq_true he
       refine ⟨fun rows' e => ?_, Tc h1 hq⟩
       cases e
       rw [hb, this]
     ·cases h
    ·cases h
  ·cases h
 | [], [], k, ps, h, hp => trivial
 | [], _ :: _, _, _, h, _ => by simp [Q3z] at h
 | _ :: _, [], _, _, h, _ => by simp [Q3z] at h
theorem finH {T : Tb P} {fn : Func} {e : Exit} {ins : List (Nat × List (List PV))} {r : List RS} {outs : List (Option (List (List PV)))} {ts : List TV} {c : CR} {po : List Prop} (h1 : Ru T st fn.results.toList = some ts) (h2 : MQ st ts r = some c) (ho : Q3z st 0 ins outs = some po) (hp : XR c.ps) (hq : XR po) (h3 : c.x = r) (h4 : N4 c.o = true) (h5 : Ev (c.o.filterMap id) c.bs = true) (h6 : Ev (Qeb 0 outs) (c.o.filterMap id ++ c.bs) = true) (he : e = .normal ∨ e = .ret) : Qog T fn ins r outs e st := by
 subst h3
 exact ⟨he, _, _, _, Lo h1, Lp h2 hp, Tc ho hq, h4, h5, h6⟩
end
def Qol {P : Program} (T : Tb P) (fn : Func) (fm : Frm) (r : List RS) (out : List PV) : Exit → St → Prop := fun e st => (e = .normal ∨ e = .ret) ∧ ∃ ts os bs cs bs', On T st fn.results.toList ts ∧ Pl st ts r os bs ∧ st.h Ka = some (.box cs (some fm)) ∧ Hu st cs out bs' ∧ N4 os = true ∧ Ev (os.filterMap id) (bs ++ bs') = true
structure CP (P : Program) (f : FuncId) (fm : Frm) (row : List PV) (ts : List TV) (r : List RS) (out : List PV) : Prop where
 ent : Ol P f = true
 run : ∃ (T : Tb P) (fn : Func) (body : Code), P.funcs[f]? = some fn ∧ fn.body = some body ∧ fn.ntmps ≤ 65536 ∧ ts.length ≤ fn.ntmps ∧ ∀ E, AW E fn.ntmps P body (Qol T fn fm r out) ⟨enT 0 ts, [(Ka, some (.box (row.map .p) (some fm)))]⟩
inductive HPs (st : St) (c : Qr) (i : Nat) : List TV → List TV → List Qr → Prop
 | nil : HPs st c i [] [] []
 | ptr {ts ts' : List TV} {bs : List Qr} (hs : HPs st c i ts ts' bs) : HPs st c i (.c (.ptr c i 0) :: ts) (.c (.ptr Ka 0 0) :: ts') bs
 | c {x : CV} {p : PV} {b : List Qr} {ts ts' : List TV} {bs : List Qr} (h : ToC st x (.p p) none b) (hs : HPs st c i ts ts' bs) : HPs st c i (.c x :: ts) (.c (.p p) :: ts') (b ++ bs)
 | agg {xs : List CV} {ps : List PV} {b : List Qr} {ts ts' : List TV} {bs : List Qr} (h : Hu st xs ps b) (hs : HPs st c i ts ts' bs) : HPs st c i (.agg xs :: ts) (.agg (ps.map .p) :: ts') (b ++ bs)
section
variable {E : En} {N : Nat} {cx : Cx} {st : St} {a : Act} {w w' : World} {P : Program} {T : Tb P} {ops : Array Oper} {o : Oper} {d : Nat} {ty : Nat} {pos : String} {af : Array Edge} {gg : Option (Nat × Bool)}
theorem Qjp {st' : St} {c : Qr} {i : Nat} {ts ts' : List TV} {bs : List Qr} (h : HPs st c i ts ts' bs) (hb : ∀ b ∈ bs, st'.h b = st.h b) : HPs st' c i ts ts' bs := by
 induction h with
 | nil => exact .nil
 | ptr hs ih => exact .ptr (ih hb)
 | c h hs ih => exact .c (Mb h fun b hm => hb b (List.mem_append_left _ hm)) (ih fun b hm => hb b (List.mem_append_right _ hm))
 | agg h hs ih => exact .agg (SX h fun b hm => hb b (List.mem_append_left _ hm)) (ih fun b hm => hb b (List.mem_append_right _ hm))
theorem Qom {c : Qr} {i : Nat} {ts ts' : List TV} {bs : List Qr} (h : HPs st c i ts ts' bs) : ∀ b ∈ bs, ∃ e rows mu, st.h b = some (.row e rows mu) := by
 induction h with
 | nil => simp
 | ptr hs ih => exact ih
 | c h hs ih =>
  intro b hb
  rcases List.mem_append.1 hb with hb | hb
  ·exact BQ h b hb
  ·exact ih b hb
 | agg h hs ih =>
  intro b hb
  rcases List.mem_append.1 hb with hb | hb
  ·exact Pm h b hb
  ·exact ih b hb
theorem Qww {c : Qr} {i : Nat} {ts ts' : List TV} {bs : List Qr} (h : HPs st c i ts ts' bs) : ts'.length = ts.length := by
 induction h with
 | nil => rfl
 | ptr _ ih => simp [ih]
 | c _ _ ih => simp [ih]
 | agg _ _ ih => simp [ih]
theorem Qwx (hr : XB E N cx st a w) {A2 : Nat → Prop} {cx1 : Cx} (hA1 : cx1.A = A2) {h0 : Qr → Option Bk} {c : Qr} {i e : Nat} {rows : List (List PV)} {row : List PV} {fm : Frm} (hA : ∀ x, cx.A x → A2 x) (hc : st.h c = some (.row e rows true)) (hp : ∀ g o, cx.ι c = some (g, o) → o = 0 ∧ cx1.ι Ka = some (g, i * e)) (hh : h0 Ka = some (.box (row.map .p) (some fm))) :
  ∀ {ts ts' : List TV} {bs : List Qr}, HPs st c i ts ts' bs → (∀ b ∈ bs, ∀ g q, cx.ι b = some (g, q) → A2 g) → ∀ {vs : List Value}, vs.length = ts.length → (∀ (i : Nat) (t : TV), ts[i]? = some t → ∃ v, vs[i]? = some v ∧ RT cx w st.h t v) →
  ∀ (i : Nat) (t : TV), ts'[i]? = some t → ∃ v, vs[i]? = some v ∧ RT cx1 w h0 t v := by
 subst hA1
 intro ts ts' bs h
 induction h with
 | nil => intro _ vs _ _ i t h; simp at h
 | @ptr ts ts' bs hs ih =>
  intro hb vs hl hv j t hj
  cases vs with
  | nil => simp at hl
  | cons v vs =>
   cases j with
   | zero =>
    rw [List.getElem?_cons_zero] at hj
    cases hj
    obtain ⟨v', hv', h1, h2⟩ := hv 0 _ rfl
    obtain ⟨g, q, h3, h4⟩ := h2 _ hc
    obtain ⟨rfl, h5⟩ := hp g q h3
    refine ⟨v', hv', .inr (by rw [h4]; rfl), fun bk hbk => ⟨g, i * e, h5, ?_⟩⟩
    rw [hh] at hbk
    cases hbk
    rw [h4]; simp [Bk.e]
   | succ j => exact ih hb (vs := vs) (by simpa using hl) (fun i t hi => by simpa using hv (i + 1) t (by simpa using hi)) j t (by simpa using hj)
 | @c x p b ts ts' bs h hs ih =>
  intro hb vs hl hv j t hj
  cases vs with
  | nil => simp at hl
  | cons v vs =>
   cases j with
   | zero =>
    rw [List.getElem?_cons_zero] at hj
    cases hj
    obtain ⟨v', hv', h1, h2⟩ := hv 0 _ rfl
    have h3 : RP w cx1.A p v' := Om hr h h2 hA (fun b' hb' => hb b' (List.mem_append_left _ hb')) (fun b' hb' => by cases hb')
    exact ⟨v', hv', .inr h3.one, h3⟩
   | succ j => exact ih (fun b' hb' => hb b' (List.mem_append_right _ hb')) (vs := vs) (by simpa using hl) (fun i t hi => by simpa using hv (i + 1) t (by simpa using hi)) j t (by simpa using hj)
 | @agg xs ps b ts ts' bs h hs ih =>
  intro hb vs hl hv j t hj
  cases vs with
  | nil => simp at hl
  | cons v vs =>
   cases j with
   | zero =>
    rw [List.getElem?_cons_zero] at hj
    cases hj
    obtain ⟨v', hv', us, rfl, h2, h3⟩ := hv 0 _ rfl
    have h4 := F1 hr (A' := cx1.A) hA (gs := fun _ => none) (Mc h) (n := 0) (vs := us.toList) (fun b' hb' => hb b' (List.mem_append_left _ hb')) (fun b' hb' => by rw [List.mem_map] at hb'; obtain ⟨y, _, hy⟩ := hb'; cases hy) (fun k o hk => by rw [List.getElem?_map, Option.map_eq_some_iff] at hk; obtain ⟨y, _, rfl⟩ := hk; rfl) (by simpa using h2) (fun i c hi => by obtain ⟨u, hu, h5, h6⟩ := h3 i c hi; exact ⟨u, by simpa using hu, h5, h6⟩)
    obtain ⟨h5, h6⟩ := F0 h4
    refine ⟨_, hv', us, rfl, by simpa using h5, fun k c hk => ?_⟩
    rw [List.getElem?_map, Option.map_eq_some_iff] at hk
    obtain ⟨y, hy, rfl⟩ := hk
    obtain ⟨u, hu, h7, h8⟩ := h6 k (.p y) (by rw [List.getElem?_map, hy]; rfl)
    exact ⟨u, by simpa using hu, h7, h8⟩
   | succ j => exact ih (fun b' hb' => hb b' (List.mem_append_right _ hb')) (vs := vs) (by simpa using hl) (fun i t hi => by simpa using hv (i + 1) t (by simpa using hi)) j t (by simpa using hj)
theorem Qjq {f : FuncId} {xs : Array Operand} {tys : Array TypeId} {c : Qr} {e i : Nat} {rows : List (List PV)} {row out : List PV} {ts : List TV} {r : List RS} {bs ids : List Qr} {bl : List (Qr × Option Bk)} {t : TV}
  (hcon : CP P f ⟨e, i, rows⟩ row ts r out) (hc : st.h c = some (.row e rows true)) (hrow : rows[i]? = some row) (hargs : HPs st c i (xs.toList.map st.ev) ts bs)
  (hok : xs.toList.all Zj = true := by exact rfl) (hdis : Ev [c] bs = true := by exact rfl) (hids : (BP d 0 (QP r)).map (·.1) = ids := by exact rfl) (hbl : BP d 0 (QP r) ++ ([(c, some (.row e (rows.set i out) true))] ++ W7 st bs) = bl := by exact rfl) (ht : Mh d r = t := by exact rfl) :
  ZA E N P ops ⟨some d, .call { callee := .value (.func f), args := xs, argTypes := tys }, ty, pos, af, gg⟩ st ⟨c :: bs, ids⟩ ⟨t, bl⟩ := by
 subst hids
 subst hbl
 subst ht
 intro st' ha hf hd cx a w Q hr
 have hbe : ∀ b ∈ c :: bs, st'.h b = st.h b := ha.2
 have hc' : st'.h c = some (.row e rows true) := by rw [hbe c List.mem_cons_self]; exact hc
 have hargs' := Qjp hargs (st' := st') fun b hb => hbe b (List.mem_cons_of_mem _ hb)
 have hlive := Qom hargs'
 have hbn : ∀ b ∈ bs, st'.h b ≠ none := fun b hb => by obtain ⟨_, _, _, h⟩ := hlive b hb; rw [h]; simp
 have hdis' : c ∉ bs := Xa hdis c (by simp)
 have hcn : st'.h c ≠ none := by rw [hc']; simp
 have hil := (List.getElem?_eq_some_iff.1 hrow).1
 let A2 : Nat → Prop := fun x => cx.A x ∨ ∃ b ∈ bs, st'.h b ≠ none ∧ ∃ q, cx.ι b = some (x, q)
 have hAsz : ∀ x, A2 x → x < w.heap.size := by
  rintro x (h | ⟨b, hb, hbl, q, hq⟩)
  ·exact (hr.A x h).1
  ·exact (hr.own b x q hbl hq).1
 obtain ⟨he0, hre, hrb⟩ := hr.bl c _ hc'
 obtain ⟨g, hg, c0, el0, capR, hgc, hnA0, hcsz, hcl, hcm, hcat⟩ : ∃ g, cx.ι c = some (g, 0) ∧ ∃ c0 el0 capR, w.heap[g]? = some (.cells c0 el0 (0, 0)) ∧ ¬ cx.A g ∧ c0.size = capR * e ∧ rows.length ≤ capR ∧ capR ≤ maxLen ∧ ∀ (i : Nat) (r : List PV) (k : Nat) (p : PV), rows[i]? = some r → r[k]? = some p → ∃ cv, c0[i * e + k]? = some cv ∧ RP w cx.A p cv := by
  cases hi : cx.ι c with
  | none => rw [hi] at hrb; rw [hrb] at hil; simp at hil
  | some y =>
   obtain ⟨g, q⟩ := y
   rw [hi] at hrb
   obtain ⟨rfl, c0, el0, fz, capR, h1, h2, h3, h4, h5, h6, h7⟩ := hrb
   obtain ⟨rfl, h8⟩ := h2 rfl
   exact ⟨g, rfl, c0, el0, capR, h1, h8, h4, h5, h6, h7⟩
 have hgl : g < w.heap.size := (Array.getElem?_eq_some_iff.1 hgc).1
 have hgA2 : ¬ A2 g := by
  rintro (h | ⟨z, hz, hzl, q2, hq2⟩)
  ·exact hnA0 h
  ·refine hr.inj c z g 0 g q2 hcn hzl hg hq2 ?_ rfl
   rintro rfl
   exact hdis' hz
 have hrl : row.length = e := hre row (List.mem_of_getElem? hrow)
 have hie : i * e + e ≤ rows.length * e := by have : (i + 1) * e ≤ rows.length * e := Nat.mul_le_mul_right e hil; rw [Nat.add_mul] at this; omega
 have hre2 : rows.length * e ≤ c0.size := by rw [hcsz]; exact Nat.mul_le_mul_right e hcl
 let pin1 : Qr → Option (Nat × Nat) := fun b => if b = Ka then some (g, i * e) else none
 have hpin : pin1 Ka = some (g, i * e) := by simp [pin1]
 let st0 : St := ⟨enT 0 ts, [(Ka, some (.box (row.map .p) (some ⟨e, i, rows⟩)))]⟩
 have hst0 : ∀ b bk, st0.h b = some bk → b = Ka ∧ bk = .box (row.map .p) (some ⟨e, i, rows⟩) := by
  intro b bk hb
  have hb1 : (Ym [(Ka, some (Bk.box (row.map .p) (some ⟨e, i, rows⟩)))] b).getD none = some bk := hb
  simp only [Ym] at hb1
  cases hq : Xf Ka b with
  | true => rw [hq] at hb1; cases hb1; exact ⟨(Za.1 hq).symm, rfl⟩
  | false => rw [hq] at hb1; cases hb1
 have hh0 : st0.h Ka = some (.box (row.map .p) (some ⟨e, i, rows⟩)) := rfl
 obtain ⟨T, fn, body, hfn, hbody, hN2, htl, haw⟩ := hcon.run
 let E1 : En := ⟨w, A2, fun x => x = g, pin1⟩
 have hev : ∀ x ∈ xs.toList, RT cx w st'.h (st.ev x) (a.eval x) := by
  intro x hx
  rw [← JQ ha (x := x) (by simp only [Op.operands, Call.operands]; simp at hx ⊢; exact .inr hx)]
  exact hr.ev (List.all_eq_true.1 hok x hx)
 have hts := Qwx hr (cx1 := ⟨pin1, A2⟩) rfl (h0 := st0.h) (A2 := A2) (fun x hx => .inl hx) hc' (fun g' o' h => by rw [hg] at h; cases h; exact ⟨rfl, hpin⟩) hh0 hargs' (fun b hb g q hg => .inr ⟨b, hb, hbn b hb, q, hg⟩) (vs := (xs.map a.eval).toList) (by simp) (fun i t hi => by
  rw [List.getElem?_map, Option.map_eq_some_iff] at hi
  obtain ⟨x, hx, rfl⟩ := hi
  exact ⟨a.eval x, by rw [Array.toList_map, List.getElem?_map, hx]; rfl, hev x (List.mem_of_getElem? hx)⟩)
 have hvsz : (xs.map a.eval).size = ts.length := by rw [Qww hargs']; simp
 have hr1 : XB E1 fn.ntmps ⟨pin1, A2⟩ st0 { tmps := (xs.map a.eval) ++ Array.replicate (fn.ntmps - (xs.map a.eval).size) undef, defers := [] } w := by
  refine ⟨rfl, by simp only [Array.size_append, Array.size_replicate]; omega, fun s => ?_, fun b bk hb => ?_, fun b b' g o g' o' hb hb' hi hi' hne => ?_, fun b g' o hb hi => ?_, fun x hx => ⟨hAsz x hx, .inl hx⟩, fun x hx => hx, fun _ _ _ => rfl, Nat.le_refl _, rfl, rfl, rfl, hN2, fun _ _ => rfl, .refl _⟩
  ·have e : st0.g s = (Zv (enT 0 ts) s).getD (.c .any) := rfl
   rw [e]
   cases hl : Zv (enT 0 ts) s with
   | none => exact ⟨.inl rfl, trivial⟩
   | some t =>
    obtain ⟨i, h1, h2⟩ := Qec hl
    rw [Nat.zero_add] at h1
    subst h1
    obtain ⟨v, h3, h4⟩ := hts s t h2
    have hi := (List.getElem?_eq_some_iff.1 h3).1
    have : ((xs.map a.eval) ++ Array.replicate (fn.ntmps - (xs.map a.eval).size) undef).getD s undef = v := by
     rw [Array.getD_eq_getD_getElem?, Array.getElem?_append_left (by simpa using hi)]
     rw [Array.getElem?_toList] at h3
     rw [h3]; rfl
    rw [this]
    exact h4
  ·obtain ⟨rfl, rfl⟩ := hst0 b bk hb
   have hmono : ∀ p v, RP w cx.A p v → RP w A2 p v := fun p v h => h.mono (fun x hx => .inl hx) (Nat.le_refl _) (fun _ _ _ => rfl)
   refine ⟨g, i * e, c0, el0, hpin, hgc, hgA2, by rw [List.length_map, hrl]; omega, fun k x hx => ?_, rfl, by rw [List.length_map]; exact hrl, he0, hre2, hre, fun j r k p _ hj hk => ?_⟩
   ·rw [List.getElem?_map, Option.map_eq_some_iff] at hx
    obtain ⟨p, hp, rfl⟩ := hx
    obtain ⟨cv, h1, h2⟩ := hcat i row k p hrow hp
    exact ⟨cv, h1, h2.one, hmono p cv h2⟩
   ·obtain ⟨cv, h1, h2⟩ := hcat j r k p hj hk
    exact ⟨cv, h1, hmono p cv h2⟩
  ·obtain ⟨bk, hb1⟩ := Option.ne_none_iff_exists'.1 hb
   obtain ⟨bk', hb2⟩ := Option.ne_none_iff_exists'.1 hb'
   exact absurd ((hst0 b bk hb1).1.trans (hst0 b' bk' hb2).1.symm) hne
  ·obtain ⟨bk, hb1⟩ := Option.ne_none_iff_exists'.1 hb
   obtain ⟨rfl, _⟩ := hst0 b bk hb1
   have hi' : pin1 Ka = some (g', o) := hi
   rw [hpin] at hi'
   cases hi'
   exact ⟨hgl, .inr rfl⟩
 have hfl : W7 st bs = W7 st' bs := List.map_congr_left fun b hb => by rw [hbe b (List.mem_cons_of_mem _ hb)]
 have hcalls : Calls P f (xs.map a.eval) w (fun ex w' => ∃ v cx', ex = .returned v ∧ XB E N cx' (Ef.ap ⟨Mh d r, BP d 0 (QP r) ++ ([(c, some (.row e (rows.set i out) true))] ++ W7 st' bs)⟩ ⟨some d, .call { callee := .value (.func f), args := xs, argTypes := tys }, ty, pos, af, gg⟩ st') (a.put (some d) v) w') := by
  refine calls_of_wp hfn hbody (wp_mono (haw E1 _ _ _ hr1) ?_)
  rintro ex a' w' ⟨st2, cx2, ⟨hex, tsr, os, bs', cs, bs2, h1, h2, hbox, htp, h3, h4⟩, hr'⟩
  obtain ⟨vs', h6, h7, h8⟩ := M9 hr' h1
  have hres := FU (fn := fn) (rs := fn.results.toList) (by simp) h6
  have hnod2 := EW h3
  have hdis2 := Xa h4
  obtain ⟨hbl2, hol2⟩ := N8 h2
  have hpl2 := Pm htp
  have hpin2 : cx2.ι Ka = some (g, i * e) := (hr'.pin Ka (.inl rfl)).trans hpin
  have hbl3 : ∀ b ∈ bs' ++ bs2, st2.h b ≠ none := fun b hb => by
   rcases List.mem_append.1 hb with h | h
   ·exact hbl2 b h
   ·obtain ⟨_, _, _, h⟩ := hpl2 b h; rw [h]; simp
  let A' : Nat → Prop := fun x => cx2.A x ∨ ∃ b ∈ bs' ++ bs2, st2.h b ≠ none ∧ ∃ q, cx2.ι b = some (x, q)
  have hlive2 : ∀ b, some b ∈ os → st2.h b ≠ none := fun b hb => by obtain ⟨_, _, h⟩ := hol2 b hb; rw [h]; simp
  have hmut2 : ∀ b, some b ∈ os → ∀ g q, cx2.ι b = some (g, q) → ¬ cx2.A g := by
   intro b hb g q hg
   obtain ⟨e1, rows, hbk⟩ := hol2 b hb
   obtain ⟨_, _, h8⟩ := hr'.bl b _ hbk
   rw [hg] at h8
   obtain ⟨_, c, el, fz, capR, _, h9, _⟩ := h8
   exact (h9 rfl).2
  have hnA : ∀ b, some b ∈ os → ∀ g q, cx2.ι b = some (g, q) → ¬ A' g := by
   rintro b hb g q hg (h | ⟨b2, hb2, hb2l, q2, hg2⟩)
   ·exact hmut2 b hb g q hg h
   ·refine hr'.inj b b2 g q g q2 (hlive2 b hb) hb2l hg hg2 ?_ rfl
    rintro rfl
    exact hdis2 b (List.mem_filterMap.2 ⟨some b, hb, rfl⟩) hb2
  have hpl : st2.h Ka ≠ none := by rw [hbox]; simp
  have hrow' : ∀ b ∈ bs' ++ bs2, b ≠ Ka := by
   intro b hb e
   subst e
   have : ∃ e rows mu, st2.h Ka = some (.row e rows mu) := by
    rcases List.mem_append.1 hb with h | h
    ·have hSs : ∀ {ts xs os bs}, Pl st2 ts xs os bs → ∀ b ∈ bs, ∃ e rows mu, st2.h b = some (.row e rows mu) := by
      have hCs : ∀ {cs xs os bs}, BM st2 cs xs os bs → ∀ b ∈ bs, ∃ e rows mu, st2.h b = some (.row e rows mu) := by
       intro cs xs os bs h
       induction h with
       | nil => simp
       | cons h hs ih =>
        intro b hb
        rcases List.mem_append.1 hb with hb | hb
        ·exact BQ h b hb
        ·exact ih b hb
      intro ts xs os bs h
      induction h with
      | nil => simp
      | cons h hs ih =>
       intro b hb
       rcases List.mem_append.1 hb with hb | hb
       ·cases h with
        | c h => exact BQ h b hb
        | agg h => exact hCs h b hb
       ·exact ih b hb
     exact hSs h2 _ h
    ·exact hpl2 _ h
   obtain ⟨_, _, _, h⟩ := this
   rw [hbox] at h; cases h
  have hgA' : ∀ hna : ¬ cx2.A g, ¬ A' g := by
   rintro hna (h | ⟨b2, hb2, hb2l, q2, hg2⟩)
   ·exact hna h
   ·exact hr'.inj Ka b2 g (i * e) g q2 hpl hb2l hpin2 hg2 (fun e => hrow' b2 hb2 e.symm) rfl
  have hval := (Oq hr' (A' := A') (fun x hx => .inl hx) h2 (n := 0) (gs := fun n => DY cx2 ((os[n]?).getD none)) (vs := vs') (fun b hb g q hg => .inr ⟨b, List.mem_append_left _ hb, hbl2 b hb, q, hg⟩) (fun b hb g q hg => hnA b hb g q hg) (fun k o hk => by rw [Nat.zero_add, hk]; rfl) h7 h8).1
  have hgo : ∀ (n x : Nat), DY cx2 ((os[n]?).getD none) = some x → ∃ b q, os[n]? = some (some b) ∧ cx2.ι b = some (x, q) := by
   intro n x hx
   cases ho : os[n]? with
   | none => rw [ho] at hx; cases hx
   | some o =>
    rw [ho] at hx
    cases o with
    | none => cases hx
    | some b =>
     simp only [DY, Option.getD_some, Option.bind_some, Option.map_eq_some_iff] at hx
     obtain ⟨⟨x', q⟩, h8, rfl⟩ := hx
     exact ⟨b, q, rfl, h8⟩
  have hfin : ∃ v, (results fn a'.tmps).run P w' = .ok v w' ∧ Q9g w' A' (fun n => DY cx2 ((os[n]?).getD none)) r v := by
   refine ⟨_, hres, ?_⟩
   match r, vs', hval with
   | [], [], _ => exact ⟨#[], rfl, trivial⟩
   | [t], [v], h => exact h.1
   | t :: t2 :: r, v :: v2 :: vs, h => exact ⟨_, rfl, h⟩
   | [t], v :: v2 :: vs, h => exact h.2.elim
   | t :: t2 :: r, [v], h => exact h.2.elim
  obtain ⟨v, hv1, hv2⟩ := hfin
  obtain ⟨us, hus, hrt⟩ := Lh (d := d) hv2
  have hlk : ∀ b y, Ym [(c, some (Bk.row e (rows.set i out) true))] b = some y → b = c ∧ y = some (.row e (rows.set i out) true) := by
   intro b y h
   simp only [Ym] at h
   cases hq : Xf c b with
   | true => rw [hq] at h; cases h; exact ⟨(Za.1 hq).symm, rfl⟩
   | false => rw [hq] at h; cases h
  have hlk2 : ∀ b, Ym [(c, some (Bk.row e (rows.set i out) true))] b ≠ none → b = c := fun b h => by
   obtain ⟨y, hy⟩ := Option.ne_none_iff_exists'.1 h
   exact (hlk b y hy).1
  have hlkc : Ym [(c, some (Bk.row e (rows.set i out) true))] c ≠ none := by simp only [Ym]; rw [Za.2 rfl]; simp
  -- the list behind
  obtain ⟨g3, o3, c3, el3, j1, j2, j3, j4, j5, j6⟩ := hr'.bl Ka _ hbox
  rw [hpin2] at j1
  cases j1
  obtain ⟨k1, k2, k3, k4, k5, k6⟩ := j6
  obtain ⟨c4, el4, fz4, l1, l2⟩ := hr'.cz g c0 el0 (0, 0) hgc
  rw [j2] at l1
  cases l1
  have hcsl := (Oo (Mc htp)).1
  rw [List.length_map] at hcsl
  have hRBc : RB ⟨cx.ι, A'⟩ w' st'.h c (.row e (rows.set i out) true) := by
   refine ⟨he0, fun r hr => ?_, ?_⟩
   ·rcases List.mem_or_eq_of_mem_set hr with h | h
    ·exact hre r h
    ·rw [h, ← hcsl]; exact k2
   ·show match cx.ι c with | none => _ | some (g, o) => _
    rw [hg]
    refine ⟨rfl, c3, el3, (0, 0), capR, j2, fun _ => ⟨rfl, hgA' j3⟩, (fun h => by cases h), by rw [l2, hcsz], by rw [List.length_set]; exact hcl, hcm, fun j r k p hj hk => ?_⟩
    by_cases hji : j = i
    ·subst hji
     rw [List.getElem?_set_self hil] at hj
     cases hj
     have m1 := F1 hr' (A' := A') (fun x hx => .inl hx) (gs := fun _ => none) (Mc htp) (n := 0) (vs := (c3.toList.drop (j * e)).take cs.length) (fun b hb g q hg => .inr ⟨b, List.mem_append_right _ hb, hbl3 b (List.mem_append_right _ hb), q, hg⟩) (fun b hb => by rw [List.mem_map] at hb; obtain ⟨y, _, hy⟩ := hb; cases hy) (fun k o hk => by rw [List.getElem?_map, Option.map_eq_some_iff] at hk; obtain ⟨y, _, rfl⟩ := hk; rfl) (by simp only [List.length_take, List.length_drop, Array.length_toList]; omega) (fun i x hi => by
      obtain ⟨cv, h13, h14, h15⟩ := j5 i x hi
      have hil := (List.getElem?_eq_some_iff.1 hi).1
      exact ⟨cv, by rw [List.getElem?_take, if_pos hil, List.getElem?_drop, Array.getElem?_toList]; exact h13, h14, h15⟩)
     obtain ⟨m2, m3⟩ := F0 m1
     obtain ⟨u, hu, m4, m5⟩ := m3 k (.p p) (by rw [List.getElem?_map, hk]; rfl)
     refine ⟨u, ?_, m5⟩
     have hkl := (List.getElem?_eq_some_iff.1 hk).1
     rw [List.getElem?_take, if_pos (by omega), List.getElem?_drop, Array.getElem?_toList] at hu
     exact hu
    ·rw [List.getElem?_set_ne (fun e => hji e.symm)] at hj
     obtain ⟨cv, m1, m2⟩ := k6 j r k p hji hj hk
     exact ⟨cv, m1, m2.mono (fun x hx => .inl hx) (Nat.le_refl _) (fun _ _ _ => rfl)⟩
  have hR2 : a'.defers = [] ∧ ∃ v, (results fn a'.tmps).run P w' = .ok v w' ∧ ∃ v' cx', Ending.returned v = .returned v' ∧ XB E N cx' (Ef.ap ⟨Mh d r, BP d 0 (QP r) ++ ([(c, some (.row e (rows.set i out) true))] ++ W7 st' bs)⟩ ⟨some d, .call { callee := .value (.func f), args := xs, argTypes := tys }, ty, pos, af, gg⟩ st') (a.put (some d) v') w' := by
   refine ⟨hr'.defers, v, hv1, v, ?_⟩
   have hMc : ∀ x, x = g → ∃ b, (b ∈ bs ∨ Ym [(c, some (Bk.row e (rows.set i out) true))] b ≠ none) ∧ st'.h b ≠ none ∧ ∃ q, cx.ι b = some (x, q) := fun x hx => ⟨c, .inr hlkc, hcn, 0, by rw [hx]; exact hg⟩
   have hcore := Ta (o := ⟨some d, .call { callee := .value (.func f), args := xs, argTypes := tys }, ty, pos, af, gg⟩) hr hd (hd d rfl) (w' := w') (pl := [(c, some (.row e (rows.set i out) true))]) (fz := bs) (gs2 := fun n => DY cx2 ((os[n]?).getD none)) (us := us) (A2 := A') (v := v) (r := r) (fun n e' rows' hx => hf (d, n) ?_) (fun x hx => .inl (hr'.A0 x (.inl hx))) (fun x hx => ?_) (fun b hb => ⟨hlive b hb, fun g q hg => .inl (hr'.A0 g (.inr ⟨b, hb, hbn b hb, q, hg⟩))⟩) (fun b hb hb2 => ?_) (fun b y hy => ?_) hr'.sz hr'.cz (fun x hx hn => hr'.kept x hx fun hM => ?_) hr'.os hr'.tape hr'.output (fun n m x hx hy => ?_) (fun n x hx => ?_) hus hrt
   ·obtain ⟨cx', hc⟩ := hcore
    exact ⟨cx', rfl, hc⟩
   ·have := Ub d (QP r) 0 (d, n)
    rw [if_pos ⟨rfl, Nat.zero_le _⟩, Nat.sub_zero, hx] at this
    exact List.mem_map.2 ⟨_, W5 this, rfl⟩
   ·rcases hx with hx | ⟨b, hb, hbl', q, hq⟩
    ·obtain ⟨g1, g2 | g2 | g2⟩ := hr'.A x hx
     ·rcases g2 with g2 | ⟨b, hb, g3, g4⟩
      ·exact .inl g2
      ·exact .inr (.inr ⟨b, .inl hb, g3, g4⟩)
     ·exact .inr (.inl ⟨g2, g1⟩)
     ·exact .inr (.inr (hMc x g2))
    ·obtain ⟨g1, g2 | g2⟩ := hr'.own b x q hbl' hq
     ·exact .inr (.inl ⟨g2, g1⟩)
     ·exact .inr (.inr (hMc x g2))
   ·rw [hlk2 b hb] at hb2; exact hdis' hb2
   ·obtain ⟨rfl, rfl⟩ := hlk b y hy
    exact ⟨⟨e, rows, hc'⟩, fun bk hbk => by cases hbk; exact ⟨e, rows, _, hc', rfl, by rw [List.length_set]; exact Nat.le_refl _, hRBc⟩⟩
   ·exact hn c hlkc 0 (by rw [show x = g from hM]; exact hg)
   ·obtain ⟨b, q, h8, h9⟩ := hgo n x hx
    obtain ⟨b2, q2, h10, h11⟩ := hgo m x hy
    by_cases hbb : b = b2
    ·subst hbb; exact hnod2 n m b h8 h10
    ·exact absurd rfl (hr'.inj b b2 x q x q2 (hlive2 b (List.mem_of_getElem? h8)) (hlive2 b2 (List.mem_of_getElem? h10)) h9 h11 hbb)
   ·obtain ⟨b, q, h8, h9⟩ := hgo n x hx
    have hbl3 := hlive2 b (List.mem_of_getElem? h8)
    obtain ⟨g1, g2 | g2⟩ := hr'.own b x q hbl3 h9
    ·exact ⟨g1, .inl g2⟩
    ·exfalso
     have g3 : x = g := g2
     subst g3
     refine hr'.inj b Ka x q x (i * e) hbl3 hpl h9 hpin2 ?_ rfl
     rintro rfl
     obtain ⟨_, _, h⟩ := hol2 _ (List.mem_of_getElem? h8)
     rw [hbox] at h; cases h
  rcases hex with rfl | rfl
  ·exact hR2
  ·exact hR2
 unfold Oper.wp
 rw [Li hcon.ent, Oper.upon_enter, hfl]
 refine hcalls.mono ?_
 rintro ex w' ⟨v, cx', rfl, h⟩
 exact ⟨cx', h⟩
def Q55 (st : St) (c : Qr) (i : Nat) : List TV → List TV → Option (List TV × List Qr × List Prop)
 | .c (.ptr b j k) :: ts, _ :: ts' => match Xf b c, k with
  | true, 0 => match Q55 st c i ts ts' with
   | some (xs, bs, ps) => some (.c (.ptr Ka 0 0) :: xs, bs, (j = i) :: ps)
   | none => none
  | _, _ => none
 | .c x :: ts, .c (.p y) :: ts' => match Qe6 st x (.p y) with
  | some ⟨.p p, none, b, q⟩ => match Q55 st c i ts ts' with
   | some (xs, bs, ps) => match Hb b bs, Hb q ps with
    | some b', some q' => some (.c (.p p) :: xs, b', q')
    | _, _ => none
   | none => none
  | _ => none
 | .agg x :: ts, .agg y :: ts' => match Iu st x (y.map fun z => match z with | .p p => .p p | _ => .p (.o undef)) with
  | some ⟨x', o, b, q⟩ => match x'.mapM (fun r => match r with | .p y => some y | _ => none), o.all (·.isNone) with
   | some ys, true => match Q55 st c i ts ts' with
    | some (xs, bs, ps) => match Hb b bs, Hb q ps with
     | some b', some q' => some (.agg (ys.map .p) :: xs, b', q')
     | _, _ => none
    | none => none
   | _, _ => none
  | none => none
 | [], [] => some ([], [], [])
 | _, _ => none
theorem Qwy {c : Qr} {i : Nat} : ∀ {ts ts' xs : List TV} {b : List Qr} {p : List Prop}, Q55 st c i ts ts' = some (xs, b, p) → XR p → HPs st c i ts xs b := by
 intro ts
 induction ts with
 | nil =>
  intro ts' xs b p h hp
  cases ts' with
  | nil => simp only [Q55] at h; cases h; exact .nil
  | cons => simp [Q55] at h
 | cons t ts ih =>
  intro ts' xs b p h hp
  unfold Q55 at h
  split at h
  ·rename_i h0
   cases h0
   split at h
   ·rename_i hb
    split at h
    ·rename_i h2
     cases h
     have := Za.1 hb
     subst this
     cases hp with | cons hp hq => subst hp; exact .ptr (ih h2 hq)
    ·cases h
   ·cases h
  ·rename_i h0
   cases h0
   split at h
   ·rename_i h1
    split at h
    ·rename_i h2
     split at h
     ·rename_i hb hq
      cases h
      rw [KX hb]
      rw [KX hq] at hp
      exact .c (OA h1 hp.app.1) (ih h2 hp.app.2)
     ·cases h
    ·cases h
   ·cases h
  ·rename_i h0
   cases h0
   split at h
   ·rename_i h1
    split at h
    ·rename_i h3 h4
     split at h
     ·rename_i h2
      split at h
      ·rename_i hb hq
       cases h
       rw [KX hb]
       rw [KX hq] at hp
       exact .agg (Q51 (F4 h1 hp.app.1) h3 h4) (ih h2 hp.app.2)
      ·cases h
     ·cases h
    ·cases h
   ·cases h
  ·rename_i h0; cases h0
  ·cases h
def ptF : List TV → List TV → Option (Qr × Nat)
 | .c (.ptr b j _) :: _, .c (.ptr _ _ _) :: _ => some (b, j)
 | _ :: ts, _ :: ts' => ptF ts ts'
 | _, _ => none
theorem callp {f : FuncId} {xs : Array Operand} {tys : Array TypeId} {c : Qr} {e i : Nat} {rows : List (List PV)} {row out : List PV} {ts ts2 : List TV} {r : List RS} {bs ids : List Qr} {bl : List (Qr × Option Bk)} {t : TV} {pa : List Prop}
  (hcon : CP P f ⟨e, i, rows⟩ row ts r out) (hrow : rows[i]? = some row) (hpa : XR pa) (hσ : ptF (xs.toList.map st.ev) ts = some (c, i) := by exact rfl) (hc : st.h c = some (.row e rows true) := by exact rfl) (hargs : Q55 st c i (xs.toList.map st.ev) ts = some (ts2, bs, pa) := by exact rfl) (he : ts2 = ts := by exact rfl)
  (hok : xs.toList.all Zj = true := by exact rfl) (hdis : Ev [c] bs = true := by exact rfl) (hids : (BP d 0 (QP r)).map (·.1) = ids := by exact rfl) (hbl : BP d 0 (QP r) ++ ([(c, some (.row e (rows.set i out) true))] ++ W7 st bs) = bl := by exact rfl) (ht : Mh d r = t := by exact rfl) :
  ZA E N P ops ⟨some d, .call { callee := .value (.func f), args := xs, argTypes := tys }, ty, pos, af, gg⟩ st ⟨c :: bs, ids⟩ ⟨t, bl⟩ := by
 subst he
 exact Qjq hcon hc hrow (Qwy hargs hpa) hok hdis hids hbl ht
theorem Z4j {V : Type} {enc : V → List PV} {L : List V} {x x' : V} {f : FuncId} {xs : Array Operand} {tys : Array TypeId} {c : Qr} {e i : Nat} {ts ts2 : List TV} {r : List RS} {bs ids : List Qr} {bl : List (Qr × Option Bk)} {t : TV} {pa : List Prop}
  (hcon : CP P f ⟨e, i, L.map enc⟩ (enc x) ts r (enc x')) (hσ : ptF (xs.toList.map st.ev) ts = some (c, i) := by exact rfl) (hc : st.h c = some (.row e (L.map enc) true) := by exact rfl) (hargs : Q55 st c i (xs.toList.map st.ev) ts = some (ts2, bs, pa) := by exact rfl) (he : ts2 = ts := by exact rfl)
  (hok : xs.toList.all Zj = true := by exact rfl) (hdis : Ev [c] bs = true := by exact rfl) (hids : (BP d 0 (QP r)).map (·.1) = ids := by exact rfl) (hbl : BP d 0 (QP r) ++ ([(c, some (.row e ((L.set i x').map enc) true))] ++ W7 st bs) = bl := by exact rfl) (ht : Mh d r = t := by exact rfl) (hpa : XR pa := by exact Nh) (hrow : L[i]? = some x := by exact hi_) :
  ZA E N P ops ⟨some d, .call { callee := .value (.func f), args := xs, argTypes := tys }, ty, pos, af, gg⟩ st ⟨c :: bs, ids⟩ ⟨t, bl⟩ :=
 callp hcon (by rw [List.getElem?_map, hrow]; rfl) hpa hσ hc hargs he hok hdis hids (by rw [← hbl, List.map_set]) ht
structure CPs where
 x : List PV
 bs : List Qr
 ps : List Prop
def Z4k (st : St) (cs : List CV) (out : List PV) : Option CPs := match Iu st cs (out.map .p) with
 | some ⟨x, o, b, p⟩ => match x.mapM (fun r => match r with | .p y => some y | _ => none), o.all (·.isNone) with
  | some ys, true => some ⟨ys, b, p⟩
  | _, _ => none
 | none => none
theorem Qwz {cs : List CV} {out : List PV} {c : CPs} (h : Z4k st cs out = some c) (hp : XR c.ps) : Hu st cs c.x c.bs := by
 unfold Z4k at h
 split at h
 ·rename_i h1
  split at h
  ·rename_i h2 h3; cases h; exact Q51 (F4 h1 hp) h2 h3
  ·cases h
 ·cases h
theorem finP {T : Tb P} {fn : Func} {e : Exit} {fm : Frm} {r : List RS} {out : List PV} {ts : List TV} {c : CR} {cs : List CV} {c2 : CPs} (h1 : Ru T st fn.results.toList = some ts) (h2 : MQ st ts r = some c) (hb : st.h Ka = some (.box cs (some fm))) (h6 : Z4k st cs out = some c2) (hp : XR c.ps) (hq : XR c2.ps) (h3 : c.x = r) (h7 : c2.x = out) (h4 : N4 c.o = true) (h5 : Ev (c.o.filterMap id) (c.bs ++ c2.bs) = true) (he : e = .normal ∨ e = .ret) : Qol T fn fm r out e st := by
 subst h3 h7
 exact ⟨he, _, _, _, _, _, Lo h1, Lp h2 hp, hb, Qwz h6 hq, h4, h5⟩
end
class Fh {R : Type} (W : (R → Prop) → Prop) (f : outParam Nat) (ins : outParam (List (Nat × List (List PV)))) (ts : outParam (List TV)) (res : outParam (R → List RS)) (outs : outParam (R → List (Option (List (List PV))))) : Prop extends Gm W where
 run : ∀ r, Rr W r → CH Tryz.prog f ins ts (res r) (outs r)
theorem cch {R : Type} {W : (R → Prop) → Prop} {f : Nat} {ins : List (Nat × List (List PV))} {ts : List TV} {res : R → List RS} {outs : R → List (Option (List (List PV)))} [g : Fh W f ins ts res outs] {r : R} (h : Rr W r) : CH Tryz.prog f ins ts (res r) (outs r) := g.run r h
class Fq {R : Type} (W : (R → Prop) → Prop) (V : outParam Type) (f : outParam Nat) (enc : outParam (V → List PV)) (x : outParam V) (ts : outParam (List TV)) (res : outParam (R → List RS)) (out : outParam (R → V)) : Prop extends Gm W where
 run : ∀ (L : List V) (i : Nat) (r : R), Rr W r → CP Tryz.prog f ⟨(enc x).length, i, L.map enc⟩ (enc x) ts (res r) (enc (out r))
theorem ccp {R V : Type} {W : (R → Prop) → Prop} {f : Nat} {enc : V → List PV} {x : V} {ts : List TV} {res : R → List RS} {out : R → V} [g : Fq W V f enc x ts res out] {L : List V} {i : Nat} {r : R} (h : Rr W r) : CP Tryz.prog f ⟨(enc x).length, i, L.map enc⟩ (enc x) ts (res r) (enc (out r)) := g.run L i r h
def MR (b : Nat) (cs : Array Value) (t : TypeId) (w : World) : Prop := w.heap[b]? = some (.cells cs t (0, 0))
theorem MR.lt {b : Nat} {cs : Array Value} {t : TypeId} {w : World} (h : MR b cs t w) : b < w.heap.size := by
 unfold MR at h
 exact (Array.getElem?_eq_some_iff.mp h).1
theorem MR.cell {b : Nat} {cs : Array Value} {t : TypeId} {w : World} (h : MR b cs t w) (i : Nat) {v : Value} (hi : cs[i]? = some v) : w.cell? ⟨b, i, none⟩ = some v := by
 unfold MR at h
 simp [World.cell?, h, hi]
theorem MR.froz {b : Nat} {cs : Array Value} {t : TypeId} {w : World} (h : MR b cs t w) (i : Nat) : w.frozen? ⟨b, i, none⟩ = false := by
 unfold MR at h
 simp [World.frozen?, h]
theorem MR.keep {b : Nat} {cs : Array Value} {t : TypeId} {w w' : World} (h : MR b cs t w) (g : w.grownBy w' none) : MR b cs t w' := by
 have := g.block b h.lt (by simp)
 unfold MR at *
 rw [this]; exact h
theorem MR.new (w : World) (cs : Array Value) (t : TypeId) : MR w.heap.size cs t (w.alloc (.cells cs t)) := by
 unfold MR
 show (w.heap.push (.cells cs t))[w.heap.size]? = _
 simp
theorem MR.set {b : Nat} {cs : Array Value} {t : TypeId} {w : World} (h : MR b cs t w) (o : Nat) (v : Value) : MR b (cs.setIfInBounds o v) t (w.setCell ⟨b, o, none⟩ v) := by
 unfold MR at *
 simp [World.setCell, Array.getElem?_modify, h]
theorem MR.drew {b : Nat} {cs : Array Value} {t : TypeId} {w : World} (h : MR b cs t w) : MR b cs t w.drew := h
def Row (k : IntKind) (t : TypeId) (g : Nat) (l : List Int) (w : World) : Prop := ∃ cur : Array Value, MR g cur t w ∧ l.length ≤ cur.size ∧ ∀ i, i < l.length → cur[i]? = some (.int k (gI l i))
theorem Row.keep {k : IntKind} {t : TypeId} {g : Nat} {l : List Int} {w w' : World} (h : Row k t g l w) (hg : w.grownBy w' none) : Row k t g l w' := by
 obtain ⟨cur, h1, h2⟩ := h
 exact ⟨cur, h1.keep hg, h2⟩
theorem Row.drew {k : IntKind} {t : TypeId} {g : Nat} {l : List Int} {w : World} (h : Row k t g l w) : Row k t g l w.drew := h
theorem Row.lt {k : IntKind} {t : TypeId} {g : Nat} {l : List Int} {w : World} (h : Row k t g l w) : g < w.heap.size := by
 obtain ⟨cur, h1, h2⟩ := h
 exact h1.lt
theorem Row.cell {k : IntKind} {t : TypeId} {g : Nat} {l : List Int} {w : World} (h : Row k t g l w) {i : Nat} (hi : i < l.length) : w.cell? ⟨g, i, none⟩ = some (.int k (gI l i)) := by
 obtain ⟨cur, h1, h2, h3⟩ := h
 exact h1.cell i (h3 i hi)
theorem Row.froz {k : IntKind} {t : TypeId} {g : Nat} {l : List Int} {w : World} (h : Row k t g l w) (i : Nat) : w.frozen? ⟨g, i, none⟩ = false := by
 obtain ⟨cur, h1, _⟩ := h
 exact h1.froz i
theorem Row.set {k : IntKind} {t : TypeId} {g : Nat} {l : List Int} {w : World} (h : Row k t g l w) (i : Nat) (x : Int) : Row k t g (l.set i x) (w.setCell ⟨g, i, none⟩ (.int k x)) := by
 obtain ⟨cur, h1, h2, h3⟩ := h
 refine ⟨_, h1.set i (.int k x), by simpa using h2, fun j hj => ?_⟩
 simp only [List.length_set] at hj
 rw [Array.getElem?_setIfInBounds]
 by_cases e : i = j
 ·subst e
  rw [if_pos rfl, if_pos (by omega)]
  simp [gI, List.getD_eq_getElem?_getD, List.getElem?_set, hj]
 ·rw [if_neg e, h3 j hj]
  simp [gI, List.getD_eq_getElem?_getD, List.getElem?_set, e]
def Two (p q : Nat) (w w' : World) : Prop := w'.os = w.os ∧ w'.tape = w.tape ∧ w'.output = w.output ∧ w.heap.size ≤ w'.heap.size ∧ ∀ k, k < w.heap.size → k ≠ p → k ≠ q → w'.heap[k]? = w.heap[k]?
theorem Two.refl (p q : Nat) (w : World) : Two p q w w := ⟨rfl, rfl, rfl, Nat.le_refl _, fun _ _ _ _ => rfl⟩
theorem Two.size {p q : Nat} {w w' : World} (h : Two p q w w') : w.heap.size ≤ w'.heap.size := h.2.2.2.1
theorem Two.grown {p q : Nat} {w w1 w2 : World} (h : Two p q w w1) (g : w1.grownBy w2 none) : Two p q w w2 := by
 obtain ⟨h1, h2, h3, h4, h5⟩ := h
 exact ⟨g.os.trans h1, g.tape.trans h2, g.output.trans h3, Nat.le_trans h4 g.size, fun k hk hp hq => (g.block k (Nat.lt_of_lt_of_le hk h4) (by simp)).trans (h5 k hk hp hq)⟩
theorem Two.drew {p q : Nat} {w w1 : World} (h : Two p q w w1) : Two p q w w1.drew := h
end Go.Proofs.YtikagchjeogchaaGreat
namespace Go.Proofs.YtikagchjeogchaaGreat
open Go.RowKit Go.ChangeShapes Go.WideShapes
def OC (k : Int) : List Int :=
 if k = 1 then [0, 3] else if k = 2 then [0] else if k = 3 then [0, 1] else if k = 5 then [0, 12] else if k = 6 then [0, 4, 5] else if k = 7 then [0, 1, 5] else if k = 8 then [0, 1, 5, 6, 7]
 else if k = 9 then [2] else if k = 10 then [8, 9, 12] else if k = 11 then [8] else if k = 12 ∨ k = 15 then [8, 9] else if k = 13 then [10, 11] else if k = 14 then [10] else if k = 16 then [0, 13] else []
def UK (k : Int) : Prop := 1 ≤ k ∧ k ≤ 17
instance (k : Int) : Decidable (UK k) := by unfold UK; infer_instance
theorem Q56 {k : Int} (h : UK k) : k = 1 ∨ k = 2 ∨ k = 3 ∨ k = 4 ∨ k = 5 ∨ k = 6 ∨ k = 7 ∨ k = 8 ∨ k = 9 ∨ k = 10 ∨ k = 11 ∨ k = 12 ∨ k = 13 ∨ k = 14 ∨ k = 15 ∨ k = 16 ∨ k = 17 := by
 obtain ⟨h1, h2⟩ := h; omega
theorem Qx0 {k : Int} (h : ¬ UK k) : (k == 1) = false ∧ (k == 2) = false ∧ (k == 3) = false ∧ (k == 4) = false ∧ (k == 5) = false ∧ (k == 6) = false ∧ (k == 7) = false ∧ (k == 8) = false ∧ (k == 9) = false ∧ (k == 10) = false ∧ (k == 11) = false ∧ (k == 12) = false ∧ (k == 13) = false ∧ (k == 14) = false ∧ (k == 15) = false ∧ (k == 16) = false ∧ (k == 17) = false := by
 unfold UK at h
 refine ⟨?_, ?_, ?_, ?_, ?_, ?_, ?_, ?_, ?_, ?_, ?_, ?_, ?_, ?_, ?_, ?_, ?_⟩ <;> exact beq_eq_false_iff_ne.2 (by omega)
theorem Qon {P : Program} {T e : TypeId} (hT : P.underlying T = some (.slice e)) (d : Nat) (a : Addr) (n c : Nat) (w : World) : Sem.run P (Op.equalIn (d + 1) T (.slice (some a) n c) (.slice none 0 0)) w = .ok false w := by
 simp [Op.equalIn, run_underlying hT]
theorem Qx1 {P : Program} {T e : TypeId} (hT : P.underlying T = some (.slice e)) (a : Addr) (n c : Nat) (w : World) : Sem.run P (binOp .eql T (.slice (some a) n c) (.slice none 0 0)) w = .ok (.bool false) w := by
 have h := Qon hT 9999 a n c w
 show Sem.run P (do let b ← Op.equalIn (9999 + 1) T (.slice (some a) n c) (.slice none 0 0); pure (Value.bool b) : Sem Value) w = _
 generalize Op.equalIn (9999 + 1) T (.slice (some a) n c) (.slice none 0 0) = q at *
 simp [h]
theorem Qjs {P : Program} {T e : TypeId} (hT : P.underlying T = some (.slice e)) (d : Nat) (w : World) : Sem.run P (Op.equalIn (d + 1) T (.slice none 0 0) (.slice none 0 0)) w = .ok true w := by
 simp [Op.equalIn, run_underlying hT]
theorem Qoo {P : Program} {T e : TypeId} (hT : P.underlying T = some (.slice e)) (w : World) : Sem.run P (binOp .eql T (.slice none 0 0) (.slice none 0 0)) w = .ok (.bool true) w := by
 have h := Qjs hT 9999 w
 show Sem.run P (do let b ← Op.equalIn (9999 + 1) T (.slice none 0 0) (.slice none 0 0); pure (Value.bool b) : Sem Value) w = _
 generalize Op.equalIn (9999 + 1) T (.slice none 0 0) (.slice none 0 0) = q at *
 simp [h]
theorem Qop (w : World) (e : TypeId) (l : List Int) (cs : Array Value) (n : Nat) (h : cs.toList = l.map (.int .i64)) (hl : l.length = n) (hn : n ≤ 100) : (w.alloc (.cells cs e)).ownsRow w.heap.size e 1 (.slice (some ⟨w.heap.size, 0, none⟩) n n) n (l.map (.int .i64)) := by
 have hs : cs.size = n * 1 := by rw [← Array.length_toList, h, List.length_map, hl, Nat.mul_one]
 have := World.ownsRow_lit (e := e) w cs n (Nat.le_refl _) (by unfold maxLen; omega) (by omega)
 rw [h] at this
 exact this
set_option maxRecDepth 100000 in
set_option maxHeartbeats 1600000 in
theorem Qoq (k : Int) (w : World) (hk : UK k) :
  Calls Tryz.prog 38 #[.int .i64 k] w fun e w' => ∃ a, e = .returned (.slice (some a) (OC k).length (OC k).length) ∧ Ints .i64 w' (.slice (some a) (OC k).length (OC k).length) (OC k) ∧ w.grownBy w' none := by
 rcases Q56 hk with rfl | rfl | rfl | rfl | rfl | rfl | rfl | rfl | rfl | rfl | rfl | rfl | rfl | rfl | rfl | rfl | rfl
 all_goals
  go_enter Tryz.func38, Tryz.ntmps38
  go_wp2
  go_ret
  exact ⟨_, rfl, Q8z (Qop w _ _ _ _ rfl rfl (by decide)) (by decide), DU _ _⟩
set_option maxRecDepth 100000 in
theorem Qx2 (k : Int) (w : World) (hk : ¬ UK k) :
  Calls Tryz.prog 38 #[.int .i64 k] w fun e w' => e = .returned (.slice none 0 0) ∧ w = w' := by
 obtain ⟨k1, k2, k3, k4, k5, k6, k7, k8, k9, k10, k11, k12, k13, k14, k15, k16, k17⟩ := Qx0 hk
 clear hk
 go_enter Tryz.func38, Tryz.ntmps38
 go_wp2
 go_ret
 exact ⟨rfl, rfl⟩
end Go.Proofs.YtikagchjeogchaaGreat
namespace Go.Proofs.YtikagchjeogchaaGreat
open Go.RowKit Go.ChangeShapes Go.WideShapes
structure OpD where
 kind : Int
 name : ByteArray
 other : ByteArray
 names : List ByteArray
 pk : Int
 ps : Int
 pd : Int
 pz : Int
 items : List (ByteArray × Int)
 coins : List Int
 ex : Int
 so : Int
 ha : Int
 ix : Int
 cu : Int
 co : Int
 qk : Int
 qs : ByteArray
 qc : Int
 qn : Int
 qd : Int
 data : List Int
def opV (o : OpD) (vn vi vc vd : Value) : Value :=
 .agg #[.int .i64 o.kind, .string o.name, .string o.other, vn, .int .i64 o.pk, .int .i64 o.ps, .int .i64 o.pd, .int .u64 o.pz, vi, vc, .int .i64 o.ex, .int .i64 o.so, .int .i64 o.ha, .int .i64 o.ix, .int .i64 o.cu, .int .i64 o.co, .int .i64 o.qk, .string o.qs, .int .i64 o.qc, .int .i64 o.qn, .int .i64 o.qd, vd]
def Sl (v : Value) (n : Nat) : Prop := ∃ a cap, v = .slice a n cap
def zro (o : OpD) (f : Nat) : Bool :=
 match f with
 | 0 => o.name.toList == []
 | 1 => o.other.toList == []
 | 2 => decide (o.names.length = 0)
 | 3 => decide (o.pk = 0 ∧ o.ps = 0 ∧ o.pd = 0 ∧ o.pz = 0)
 | 4 => decide (o.items.length = 0)
 | 5 => decide (o.coins.length = 0)
 | 6 => decide (o.ex = 0)
 | 7 => decide (o.so = 0)
 | 8 => decide (o.ha = 0)
 | 9 => decide (o.ix = 0)
 | 10 => decide (o.cu = 0)
 | 11 => decide (o.co = 0)
 | 12 => decide (o.qk = 0 ∧ o.qs.toList = [] ∧ o.qc = 0 ∧ o.qn = 0 ∧ o.qd = 0)
 | _ => decide (o.data.length = 0)
theorem len0 (n : Nat) : ((n : Int) == 0) = decide (n = 0) := by
 by_cases h : n = 0
 ·subst h; rfl
 ·rw [decide_eq_false h]; exact beq_eq_false_iff_ne.2 (by omega)
theorem Z1j {f : Nat} (h : f < 14) : f = 0 ∨ f = 1 ∨ f = 2 ∨ f = 3 ∨ f = 4 ∨ f = 5 ∨ f = 6 ∨ f = 7 ∨ f = 8 ∨ f = 9 ∨ f = 10 ∨ f = 11 ∨ f = 12 ∨ f = 13 := by omega
set_option maxRecDepth 100000 in
set_option maxHeartbeats 1600000 in
theorem Qos (o : OpD) (f : Nat) (vn vi vc vd : Value) (w : World) (hf : f < 14) (h1 : Sl vn o.names.length) (h2 : Sl vi o.items.length) (h3 : Sl vc o.coins.length) (h4 : Sl vd o.data.length) :
  Calls Tryz.prog 40 #[opV o vn vi vc vd, .int .i64 f] w fun e w' => e = .returned (.bool (zro o f)) ∧ w.grownBy w' none := by
 obtain ⟨an, cn, rfl⟩ := h1
 obtain ⟨ai, ci, rfl⟩ := h2
 obtain ⟨ac, cc, rfl⟩ := h3
 obtain ⟨ad, cd, rfl⟩ := h4
 unfold opV
 obtain ⟨kind, name, other, names, pk, ps, pd, pz, items, coins, ex, so, ha, ix, cu, co, qk, qs, qc, qn, qd, data⟩ := o
 simp only
 rcases Z1j hf with rfl | rfl | rfl | rfl | rfl | rfl | rfl | rfl | rfl | rfl | rfl | rfl | rfl | rfl
 all_goals
  go_enter Tryz.func40, Tryz.ntmps40
  go_wp2
  all_goals
   go_ret
   refine ⟨ret_b ?_, DU _ _⟩
   first | rfl | exact len0 _ | (simp [zro]; done) | (simp_all [zro]; done) | (simp [zro]; omega) | (simp_all [zro]; omega)
def Qot (B : Nat) (v : Value) : Prop := ∀ a n c, v = .slice (some a) n c → B ≤ a.block
theorem Ints.set {k : IntKind} {w : World} {b off n c : Nat} {l : List Int} (h : Ints k w (.slice (some ⟨b, off, none⟩) n c) l) {b' o : Nat} (u : Value) (hne : b ≠ b') : Ints k (w.setCell ⟨b', o, none⟩ u) (.slice (some ⟨b, off, none⟩) n c) l := by
 obtain ⟨a, cap, he, h1, h2, h3, h4⟩ := h
 refine ⟨a, cap, he, h1, h2, h3, ?_⟩
 rcases h4 with h4 | ⟨b2, off2, hb2, hlt, hc⟩
 ·exact .inl h4
 ·refine .inr ⟨b2, off2, hb2, by simpa using hlt, fun i hi => ?_⟩
  cases he
  cases hb2
  have := hc i hi
  simp [go_sem, hne]
  simpa using this
theorem Qot.mono {B B' : Nat} {v : Value} (h : Qot B v) (hb : B' ≤ B) : Qot B' v := fun a n c e => Nat.le_trans hb (h a n c e)
theorem Ints.at {k : IntKind} {w : World} {a : Option Addr} {n cap : Nat} {l : List Int} (h : Ints k w (.slice a n cap) l) (hl : 0 < l.length) : ∃ b off, a = some ⟨b, off, none⟩ ∧ b < w.heap.size ∧ ∀ i, i < l.length → w.cell? ⟨b, off + i, none⟩ = some (.int k (gI l i)) := by
 obtain ⟨a', cap', e, h1, h2, h3, h4⟩ := h
 injection e with e1 e2 e3
 subst e1
 rcases h4 with rfl | h4
 ·simp at hl
 ·exact h4
theorem Two.own {p q : Nat} {w w1 w2 w3 : World} {r : Option Nat} (h : Two p q w w1) (g : w1.grownBy w2 none) (g' : w2.grownBy w3 r) (hr : ∀ k, r = some k → w.heap.size ≤ k) : Two p q w w3 := by
 obtain ⟨h1, h2, h3, h4, h5⟩ := h.grown g
 exact ⟨g'.os.trans h1, g'.tape.trans h2, g'.output.trans h3, Nat.le_trans h4 g'.size, fun k hk hp hq => (g'.block k (Nat.lt_of_lt_of_le hk h4) (fun e => by have := hr k e.symm; omega)).trans (h5 k hk hp hq)⟩
theorem MR.own {b : Nat} {cs : Array Value} {t : TypeId} {w w' : World} {r : Option Nat} (h : MR b cs t w) (g : w.grownBy w' r) (hne : r ≠ some b) : MR b cs t w' := by
 have := g.block b h.lt (fun e => hne e.symm)
 unfold MR at *
 rw [this]; exact h
end Go.Proofs.YtikagchjeogchaaGreat
namespace Go.Proofs.YtikagchjeogchaaGreat
open Go.RowKit Go.ChangeShapes Go.WideShapes
def WY (k : Int) (f : Nat) : Bool := (OC k).contains (f : Int)
def HA : List Int → Int
 | [] => 0
 | e :: r => if e ≠ 0 then e else HA r
def Iv (k : Int) (C : Nat → Int) : List Int := (List.range 14).map fun f => if WY k f = true then C f else 0
def Td (o : OpD) (C : Nat → Int) : Int :=
 if ¬ UK o.kind then 8 else if HA (Iv o.kind C) ≠ 0 then HA (Iv o.kind C) else if (List.range 14).all (fun f => WY o.kind f || zro o f) = true then 0 else 18
theorem Qhg {k : Int} (hk : ¬ UK k) : OC k = [] := by
 unfold UK at hk
 unfold OC
 repeat rw [if_neg (by omega)]
theorem Qou (k : Int) : (OC k).all (fun x => decide (0 ≤ x ∧ x ≤ 13)) = true := by
 by_cases hk : UK k
 ·rcases Q56 hk with rfl | rfl | rfl | rfl | rfl | rfl | rfl | rfl | rfl | rfl | rfl | rfl | rfl | rfl | rfl | rfl | rfl <;> decide
 ·rw [Qhg hk]; rfl
theorem Qx3 {k : Int} {x : Int} (h : x ∈ OC k) : 0 ≤ x ∧ x ≤ 13 := of_decide_eq_true (List.all_eq_true.1 (Qou k) x h)
theorem Qov (k : Int) : (OC k).length ≤ 5 := by
 by_cases hk : UK k
 ·rcases Q56 hk with rfl | rfl | rfl | rfl | rfl | rfl | rfl | rfl | rfl | rfl | rfl | rfl | rfl | rfl | rfl | rfl | rfl <;> decide
 ·rw [Qhg hk]; simp
theorem Qow {L : List Int} (h : ∀ i, i < L.length → gI L i = 0) : HA L = 0 := by
 induction L with
 | nil => rfl
 | cons e r ih =>
  have h0 := h 0 (by simp)
  have h1 : e = 0 := h0
  unfold HA
  rw [if_neg (by simp [h1])]
  exact ih fun i hi => h (i + 1) (by simp; omega)
theorem Z4l {L : List Int} {k : Nat} (hk : k < L.length) (h : ∀ i, i < k → gI L i = 0) (hn : gI L k ≠ 0) : HA L = gI L k := by
 induction L generalizing k with
 | nil => simp at hk
 | cons e r ih =>
  unfold HA
  cases k with
  | zero => have h1 : e ≠ 0 := hn; rw [if_pos h1]; rfl
  | succ k =>
   have h1 : e = 0 := h 0 (by omega)
   rw [if_neg (by simp [h1])]
   exact ih (by simpa using hk) (fun i hi => h (i + 1) (by omega)) hn
theorem Q9x (k : Int) (C : Nat → Int) : (Iv k C).length = 14 := by simp [Iv]
theorem Qx4 (k : Int) (C : Nat → Int) {f : Nat} (h : f < 14) : gI (Iv k C) f = if WY k f = true then C f else 0 := by
 rw [O8 (by rw [Q9x]; exact h)]; simp [Iv]
def Msk (b : Nat) (S : List Int) (w : World) : Prop := ∃ cs : Array Value, MR b cs 119 w ∧ cs.size = 14 ∧ ∀ f, f < 14 → cs[f]? = some (.bool (S.contains (f : Int)))
theorem Msk.keep {b : Nat} {S : List Int} {w w' : World} (h : Msk b S w) (g : w.grownBy w' none) : Msk b S w' := by
 obtain ⟨cs, h1, h2⟩ := h
 exact ⟨cs, h1.keep g, h2⟩
theorem Msk.cell {b : Nat} {S : List Int} {w : World} (h : Msk b S w) {f : Nat} (hf : f < 14) : w.cell? ⟨b, f, none⟩ = some (.bool (S.contains (f : Int))) := by
 obtain ⟨cs, h1, h2, h3⟩ := h
 exact h1.cell f (h3 f hf)
theorem Msk.froz {b : Nat} {S : List Int} {w : World} (h : Msk b S w) (f : Nat) : w.frozen? ⟨b, f, none⟩ = false := by
 obtain ⟨cs, h1, _⟩ := h
 exact h1.froz f
theorem Msk.set {b : Nat} {S : List Int} {w : World} (h : Msk b S w) {x : Nat} (hx : x < 14) : Msk b (S ++ [(x : Int)]) (w.setCell ⟨b, x, none⟩ (.bool true)) := by
 obtain ⟨cs, h1, h2, h3⟩ := h
 refine ⟨_, h1.set x (.bool true), by simpa using h2, fun f hf => ?_⟩
 rw [Array.getElem?_setIfInBounds]
 by_cases e : x = f
 ·subst e
  rw [if_pos rfl, if_pos (by omega)]
  simp
 ·rw [if_neg e, h3 f hf]
  have : (S ++ [(x : Int)]).contains (f : Int) = S.contains (f : Int) := by
   simp only [List.contains_eq_mem, List.mem_append, List.mem_singleton]
   congr 1
   rw [eq_iff_iff]
   constructor
   ·rintro (h | h)
    ·exact h
    ·omega
   ·exact .inl
  rw [this]
theorem Msk.new (w : World) (cs : Array Value) (h : cs = (Array.replicate 14 (Value.bool false))) : Msk w.heap.size [] (w.alloc (.cells cs 119)) := by
 subst h
 refine ⟨_, MR.new _ _ _, rfl, fun f hf => ?_⟩
 rw [Array.getElem?_replicate, if_pos hf]; simp
theorem F5 {P : Program} {ops : Array Oper} {rest : List Oper} {o : Oper} {a : Act} {w : World} {Q : Exit → Act → World → Prop} (hw : Region.wanted o (yielded ops a.tmps) = true) (ty : TypeId) (x : Operand) (ho : o.op = .load ty x)
  (g : Nat) (hx : a.eval x = .pointer (some ⟨g, 0, none⟩)) (t : TypeId) (cs : Array Value) (fr : Nat × Nat) (d : TypeDesc) (hg : w.heap[g]? = some (.cells cs t fr))
  (hu : P.underlying ty = some d) (hd : (match d with | .struct _ | .array _ _ => true | _ => false) = true) (hi : (P.info? ty).map (·.size) = some cs.size)
  (h : wpList P ops Q rest (a.put o.dst (.agg cs)) w) : wpList P ops Q (o :: rest) a w :=
 wpList_step fun K hK => by
  rw [if_pos hw]
  exact wp_load_row ty x ho g hx t cs fr d hg hu hd hi (hK _ _ h)
set_option maxRecDepth 100000 in
set_option maxHeartbeats 1600000 in
theorem Qox (cs : Array Value) (kind : Int) (C : Nat → Int) (ZR : Nat → Bool) (w : World) (hsz : cs.size = 22) (h0 : cs[0]? = some (.int .i64 kind)) (hinf : (Tryz.prog.info? 71).map (·.size) = some cs.size)
  (hC : ∀ (f : Nat) (w' : World), f < 14 → WY kind f = true → w.grownBy w' none → Calls Tryz.prog 39 #[.agg cs, .int .i64 f] w' fun e w'' => e = .returned (.int .i64 (C f)) ∧ w'.grownBy w'' none)
  (hZ : ∀ (f : Nat) (w' : World), f < 14 → Calls Tryz.prog 40 #[.agg cs, .int .i64 f] w' fun e w'' => e = .returned (.bool (ZR f)) ∧ w'.grownBy w'' none) (hk : UK kind) (VO : Int)
  (hV : VO = if HA (Iv kind C) ≠ 0 then HA (Iv kind C) else if (List.range 14).all (fun f => WY kind f || ZR f) = true then 0 else 18) :
  Calls Tryz.prog 23 #[.agg cs] w fun e w' => e = .returned (.int .i64 VO) ∧ w.grownBy w' none := by
 have HV := Lib.hid hV
 have hc0 : ∀ h, cs[0]'h = .int .i64 kind := fun h => by
  have := Array.getElem?_eq_getElem h
  rw [h0] at this
  exact (Option.some.inj this).symm
 have CZ := Lib.hid hZ
 have CU := Lib.hid (fun w => Qoq kind w hk)
 have hlen := Qov kind
 have HIN := Lib.hid (fun x (h : x ∈ OC kind) => Qx3 h)
 have HC := Lib.hid hC
 have HM := Lib.hid (fun (f : Nat) (hf : f < 14) => Qx4 kind C hf)
 have HML := Lib.hid (Q9x kind C)
 have hmine : WY kind = fun f : Nat => (OC kind).contains (f : Int) := rfl
 have hmk := congrFun hmine
 generalize Iv kind C = MC at *
 generalize WY kind = MB at *
 generalize OC kind = U at *
 have HMK := Lib.hid hmk
 have henil := fun a n c w => Qx1 (P := Tryz.prog) Tryz.underlying22 a n c w
 clear hC hk hmine hmk hV hZ
 go_enter Tryz.func23, Tryz.ntmps23
 go_wp2_with fail
 refine (CU.out _).mono ?_
 rintro e w1 ⟨a, rfl, IU, g1⟩
 have c1 : MR w.heap.size cs 71 w1 := (MR.new w _ _).keep g1
 have G1 := (DU _ _).trans' g1
 have hz1 := c1.lt
 clear g1
 go_wp2_with fail
 go_loopw [6, 17] (fun _ i wr => ∃ j : Nat, j ≤ U.length ∧ i = .int .i64 j ∧ Msk w1.heap.size (U.take j) wr ∧ w1.grownBy wr none ∧ w1.heap.size < wr.heap.size) (fun _ i _ => U.length - (intOf i).toNat)
 case atStart => exact ⟨0, by omega, rfl, Msk.new _ _ (by rfl), DU _ _, by simp⟩
 case round =>
  obtain ⟨j, hj, rfl, hM, g2, hz2⟩ := hrel
  by_cases hlt : j < U.length
  ·obtain ⟨b, off, hab, hb, hc⟩ := (IU.grown g2).at (by omega)
   injection hab with hab
   subst hab
   have y := hc j hlt
   have hx := HIN.out _ (Qd9 hlt)
   have HS := Lib.hid (Q4d hlt)
   obtain ⟨X, hX⟩ : ∃ X : Nat, gI U j = X := ⟨(gI U j).toNat, by omega⟩
   rw [hX] at y hx HS
   have hX14 : (X : Int) < 14 := by omega
   have hX0 : (0 : Int) ≤ X := by omega
   have e1 : (j : Int) < U.length := by omega
   have e2 : (0 : Int) ≤ j := by omega
   have f1 := hM.cell (f := X) (by omega)
   have f2 := hM.froz X
   clear hc hX
   go_wp2
   go_roundw
   case rel =>
    refine ⟨j + 1, by omega, by go_num, ?_, Qiu g2 _ (Nat.le_refl _), by simpa using hz2⟩
    rw [HS.out]
    exact hM.set (by omega)
   case measure => simp [intOf]; omega
  ·obtain rfl : j = U.length := by omega
   rw [List.take_of_length_le (by omega)] at hM
   rename World => w2
   have c2 := c1.keep g2
   have G2 := G1.trans' g2
   clear c1 IU CU G1 g2 hlt hj
   go_wp2_with fail
   go_loopw [7, 8, 24] (fun _ _ i ws => ∃ f : Nat, f ≤ 14 ∧ i = .int .i64 f ∧ Hid (∀ g, g < f → gI MC g = 0) ∧ w2.grownBy ws none) (fun _ _ i _ => 14 - (intOf i).toNat)
   case atStart => exact ⟨0, by omega, rfl, fun g hg => absurd hg (by omega), SH _⟩
   case round =>
    obtain ⟨f, hf, rfl, hall, g3⟩ := hrel
    have M3 := hM.keep g3
    have c3 := c2.keep g3
    have G3 := G2.trans' g3
    by_cases hlt : f < 14
    ·have f1 := M3.cell hlt
     rw [← HMK.out] at f1
     have hmc := HM.out f hlt
     have e1 : (f : Int) < 14 := by omega
     have e2 : (0 : Int) ≤ f := by omega
     have hcc := fun h => HC.out f wr hlt h G3
     have hnx : gI MC f = 0 → Hid (∀ g, g < f + 1 → gI MC g = 0) := fun h g hg => by
      by_cases e : g = f
      ·rw [e]; exact h
      ·exact hall.out g (by omega)
     have hbad : gI MC f ≠ 0 → Hid (VO = gI MC f) := fun h => by
      have hq := Z4l (L := MC) (k := f) (by rw [HML.out]; exact hlt) hall.out h
      show _ = _
      rw [HV.out, hq, if_pos h]
     generalize MB f = mb at *
     cases mb
     ·have HS := Lib.hid (hnx (by rw [hmc]; rfl))
      clear hcc hmc hnx hbad
      go_wp2
      go_roundw
      case rel => exact ⟨f + 1, by omega, by go_num, HS.out, g3⟩
      case measure => simp [intOf]; omega
     ·rw [if_pos rfl] at hmc
      rw [hmc] at hnx hbad
      have CK := Lib.hid (hcc rfl)
      generalize C f = ce at *
      clear hcc hmc
      by_cases hce : ce = 0
      ·have HS := Lib.hid (hnx hce)
       subst hce
       clear hnx hbad
       go_wp2_with (refine wpList_load_row rfl 71 _ rfl _ rfl _ cs (0, 0) _ c3 Tryz.underlying71 rfl hinf ?_)
       go_wp2_with fail
       refine CK.out.mono ?_
       rintro e w5 ⟨rfl, g5⟩
       clear f1
       go_wp2
       go_roundw
       case rel => exact ⟨f + 1, by omega, by go_num, HS.out, g3.trans' g5⟩
       case measure => simp [intOf]; omega
      ·have HB := hbad hce
       have hcb : (ce != 0) = true := bne_iff_ne.2 hce
       clear hnx hbad hce
       go_wp2_with (refine wpList_load_row rfl 71 _ rfl _ rfl _ cs (0, 0) _ c3 Tryz.underlying71 rfl hinf ?_)
       go_wp2_with fail
       refine CK.out.mono ?_
       rintro e w5 ⟨rfl, g5⟩
       clear f1
       go_wp2
       go_ret
       rw [HB.out]
       exact ⟨rfl, G3.trans' g5⟩
    ·obtain rfl : f = 14 := by omega
     have HZ : Hid (HA MC = 0) := Qow (fun i hi => hall.out i (by rw [HML.out] at hi; exact hi))
     have hV2 : VO = if (List.range 14).all (fun f => MB f || ZR f) = true then 0 else 18 := by
      rw [HV.out, HZ.out, if_neg (by simp)]
     have HV2 := Lib.hid hV2
     clear hM c2 G2 hall hlt hf HV HM HML HC hV2 HZ
     rename World => w3
     go_wp2_with fail
     go_loopw [9, 38] (fun _ i ws => ∃ f : Nat, f ≤ 14 ∧ i = .int .i64 f ∧ Hid (∀ g, g < f → (MB g || ZR g) = true) ∧ w3.grownBy ws none) (fun _ i _ => 14 - (intOf i).toNat)
     case atStart => exact ⟨0, by omega, rfl, fun g hg => absurd hg (by omega), SH _⟩
     case round =>
      obtain ⟨f, hf, rfl, hall, g4⟩ := hrel
      have M4 := M3.keep g4
      have c4 := c3.keep g4
      have G4 := G3.trans' g4
      by_cases hlt : f < 14
      ·have f1 := M4.cell hlt
       rw [← HMK.out] at f1
       have e1 : (f : Int) < 14 := by omega
       have e2 : (0 : Int) ≤ f := by omega
       have hnx : (MB f || ZR f) = true → Hid (∀ g, g < f + 1 → (MB g || ZR g) = true) := fun h g hg => by
        by_cases e : g = f
        ·rw [e]; exact h
        ·exact hall.out g (by omega)
       have hbad : (MB f || ZR f) = false → Hid (VO = 18) := fun h => by
        show _ = _
        rw [HV2.out, if_neg]
        intro hh
        have := List.all_eq_true.1 hh f (by simpa using hlt)
        rw [h] at this
        cases this
       have CK := Lib.hid (CZ.out f wr hlt)
       generalize MB f = mb at *
       cases mb
       ·generalize ZR f = zf at *
        cases zf
        ·have HB := hbad rfl
         clear hnx hbad
         go_wp2_with (refine F5 (by first | rfl | simp [Region.wanted, yielded]) 71 _ rfl _ rfl _ cs (0, 0) _ c4 Tryz.underlying71 rfl hinf ?_)
         go_wp2_with fail
         refine CK.out.mono ?_
         rintro e w5 ⟨rfl, g5⟩
         clear f1
         go_wp2
         go_ret
         rw [HB.out]
         exact ⟨rfl, G4.trans' g5⟩
        ·have HS := Lib.hid (hnx rfl)
         clear hnx hbad
         go_wp2_with (refine F5 (by first | rfl | simp [Region.wanted, yielded]) 71 _ rfl _ rfl _ cs (0, 0) _ c4 Tryz.underlying71 rfl hinf ?_)
         go_wp2_with fail
         refine CK.out.mono ?_
         rintro e w5 ⟨rfl, g5⟩
         clear f1
         go_wp2
         go_roundw
         case rel =>
          refine ⟨_, _, _, _, _, _, _, _, _, _, _, _, _, _, _, _, ?_, rfl⟩
          exact ⟨f + 1, by omega, by go_num, HS.out, g4.trans' g5⟩
         case measure => simp [intOf]; omega
       ·have HS := Lib.hid (hnx rfl)
        clear hnx hbad
        go_wp2
        go_roundw
        case rel => exact ⟨f + 1, by omega, by go_num, HS.out, g4⟩
        case measure => simp [intOf]; omega
      ·obtain rfl : f = 14 := by omega
       have HB := Lib.hid (show VO = 0 by
        rw [HV2.out, if_pos]
        exact List.all_eq_true.2 fun g hg => hall.out g (by simpa using hg))
       clear c4 M4
       go_wp2
       go_ret
       rw [HB.out]
       exact ⟨rfl, G4⟩
end Go.Proofs.YtikagchjeogchaaGreat
namespace Go.Proofs.YtikagchjeogchaaGreat
open Go.RowKit Go.ChangeShapes Go.WideShapes
theorem Tryz.infoOp : (Tryz.prog.info? 71).map (·.size) = some 22 := by kernel_rfl
set_option maxRecDepth 100000 in
set_option maxHeartbeats 1600000 in
theorem Qoy (cs : Array Value) (kind : Int) (w : World) (hsz : cs.size = 22) (h0 : cs[0]? = some (.int .i64 kind)) (hk : ¬ UK kind) :
  Calls Tryz.prog 23 #[.agg cs] w fun e w' => e = .returned (.int .i64 8) ∧ w.grownBy w' none := by
 have hc0 : ∀ h, cs[0]'h = .int .i64 kind := fun h => by
  have := Array.getElem?_eq_getElem h
  rw [h0] at this
  exact (Option.some.inj this).symm
 have CU := Lib.hid (fun w => Qx2 kind w hk)
 have henil := fun w => Qoo (P := Tryz.prog) Tryz.underlying22 w
 go_enter Tryz.func23, Tryz.ntmps23
 go_wp2_with fail
 refine (CU.out _).mono ?_
 rintro e w1 ⟨rfl, rfl⟩
 go_wp2
 go_ret
 exact ⟨rfl, DU _ _⟩
theorem Qjt (o : OpD) (C : Nat → Int) (vn vi vc vd : Value) (w : World)
  (h1 : Sl vn o.names.length) (h2 : Sl vi o.items.length) (h3 : Sl vc o.coins.length) (h4 : Sl vd o.data.length)
  (hC : ∀ (f : Nat) (w' : World), f < 14 → WY o.kind f = true → w.grownBy w' none → Calls Tryz.prog 39 #[opV o vn vi vc vd, .int .i64 f] w' fun e w'' => e = .returned (.int .i64 (C f)) ∧ w'.grownBy w'' none) :
  Calls Tryz.prog 23 #[opV o vn vi vc vd] w fun e w' => e = .returned (.int .i64 (Td o C)) ∧ w.grownBy w' none := by
 by_cases hk : UK o.kind
 ·refine Qox _ o.kind C (zro o) w (by rfl) (by rfl) (by exact Tryz.infoOp) hC (fun f w' hf => Qos o f vn vi vc vd w' hf h1 h2 h3 h4) hk _ ?_
  unfold Td
  rw [if_neg (by simp [hk])]
 ·unfold Td
  rw [if_pos hk]
  exact Qoy _ o.kind w (by rfl) (by rfl) hk
end Go.Proofs.YtikagchjeogchaaGreat
