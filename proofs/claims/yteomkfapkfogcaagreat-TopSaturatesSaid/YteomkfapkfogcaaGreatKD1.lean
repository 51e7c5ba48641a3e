/- Parts of the proof, laid together. No condition. -/
import Derived.Test.YteomkfapkfogcaaGreatKPat
import Derived.Test.YteomkfapkfogcaaGreatKPbt
import Derived.Test.YteomkfapkfogcaaGreatKPct
import Derived.Test.YteomkfapkfogcaaGreatKPac00
import Derived.Test.YteomkfapkfogcaaGreatKPbc00
import Derived.Test.YteomkfapkfogcaaGreatKPcc00
import Derived.Test.YteomkfapkfogcaaGreatKPac01
import Derived.Test.YteomkfapkfogcaaGreatKPbc01
import Derived.Test.YteomkfapkfogcaaGreatKPcc01
import Derived.Test.YteomkfapkfogcaaGreatKPac02
import Derived.Test.YteomkfapkfogcaaGreatKPbc02
import Derived.Test.YteomkfapkfogcaaGreatKPcc02
import Derived.Test.YteomkfapkfogcaaGreatKPac03
import Derived.Test.YteomkfapkfogcaaGreatKPbc03
import Derived.Test.YteomkfapkfogcaaGreatKPcc03
import Derived.Test.YteomkfapkfogcaaGreatKPac10
import Derived.Test.YteomkfapkfogcaaGreatKPbc10
import Derived.Test.YteomkfapkfogcaaGreatKPcc10
import Derived.Test.YteomkfapkfogcaaGreatKPac11
import Derived.Test.YteomkfapkfogcaaGreatKPbc11
import Derived.Test.YteomkfapkfogcaaGreatKPcc11
import Derived.Test.YteomkfapkfogcaaGreatKPac12
import Derived.Test.YteomkfapkfogcaaGreatKPbc12
import Derived.Test.YteomkfapkfogcaaGreatKPcc12
import Derived.Test.YteomkfapkfogcaaGreatKPac13
import Derived.Test.YteomkfapkfogcaaGreatKPbc13
import Derived.Test.YteomkfapkfogcaaGreatKPcc13
import Derived.Test.YteomkfapkfogcaaGreatKPk
import Derived.Test.YteomkfapkfogcaaGreatKPm0
import Derived.Test.YteomkfapkfogcaaGreatKPm1
set_option linter.unusedVariables false
set_option linter.unusedSimpArgs false
namespace Go.Proofs.YteomkfapkfogcaaGreat
set_option maxRecDepth 100000
open Go.RowKit
theorem memoX_ok : MOk Tryz.prog memoX := memoX_of (known_of known6) fun r n m h => by
  unfold colX at h
  split at h <;> cases h
  · exact col_of col01
  · exact col_of col02
  · exact col_of col03
  · exact col_of col04
  · exact col_of col11
  · exact col_of col12
  · exact col_of col13
  · exact col_of col14
theorem tl_t (q : Int) (w0 : World) : Goes Tryz.prog Tryz.f3.ntmps q w0 tail3 (End3 w0) stBt.g stBt.s := cfg3 (rec3 memoX_ok) q w0 okX okZ okBt okCt okDt okEt0 okEt1 okFt goX goZ goCt goDt goEt0 goEt1 goFt00 goFt01 goFt10 goFt11 goGt0 goGt1
theorem tl_c00 (q : Int) (w0 : World) : Goes Tryz.prog Tryz.f3.ntmps q w0 tail3 (End3 w0) stBc00.g stBc00.s := cfg3 (rec3 memoX_ok) q w0 okX okZ okBc00 okCc00 okDc00 okEc000 okEc001 okFc00 goX goZ goCc00 goDc00 goEc000 goEc001 goFc0000 goFc0001 goFc0010 goFc0011 goGc000 goGc001
theorem tl_c01 (q : Int) (w0 : World) : Goes Tryz.prog Tryz.f3.ntmps q w0 tail3 (End3 w0) stBc01.g stBc01.s := cfg3 (rec3 memoX_ok) q w0 okX okZ okBc01 okCc01 okDc01 okEc010 okEc011 okFc01 goX goZ goCc01 goDc01 goEc010 goEc011 goFc0100 goFc0101 goFc0110 goFc0111 goGc010 goGc011
theorem tl_c02 (q : Int) (w0 : World) : Goes Tryz.prog Tryz.f3.ntmps q w0 tail3 (End3 w0) stBc02.g stBc02.s := cfg3 (rec3 memoX_ok) q w0 okX okZ okBc02 okCc02 okDc02 okEc020 okEc021 okFc02 goX goZ goCc02 goDc02 goEc020 goEc021 goFc0200 goFc0201 goFc0210 goFc0211 goGc020 goGc021
theorem tl_c03 (q : Int) (w0 : World) : Goes Tryz.prog Tryz.f3.ntmps q w0 tail3 (End3 w0) stBc03.g stBc03.s := cfg3 (rec3 memoX_ok) q w0 okX okZ okBc03 okCc03 okDc03 okEc030 okEc031 okFc03 goX goZ goCc03 goDc03 goEc030 goEc031 goFc0300 goFc0301 goFc0310 goFc0311 goGc030 goGc031
theorem tl_c10 (q : Int) (w0 : World) : Goes Tryz.prog Tryz.f3.ntmps q w0 tail3 (End3 w0) stBc10.g stBc10.s := cfg3 (rec3 memoX_ok) q w0 okX okZ okBc10 okCc10 okDc10 okEc100 okEc101 okFc10 goX goZ goCc10 goDc10 goEc100 goEc101 goFc1000 goFc1001 goFc1010 goFc1011 goGc100 goGc101
theorem tl_c11 (q : Int) (w0 : World) : Goes Tryz.prog Tryz.f3.ntmps q w0 tail3 (End3 w0) stBc11.g stBc11.s := cfg3 (rec3 memoX_ok) q w0 okX okZ okBc11 okCc11 okDc11 okEc110 okEc111 okFc11 goX goZ goCc11 goDc11 goEc110 goEc111 goFc1100 goFc1101 goFc1110 goFc1111 goGc110 goGc111
theorem tl_c12 (q : Int) (w0 : World) : Goes Tryz.prog Tryz.f3.ntmps q w0 tail3 (End3 w0) stBc12.g stBc12.s := cfg3 (rec3 memoX_ok) q w0 okX okZ okBc12 okCc12 okDc12 okEc120 okEc121 okFc12 goX goZ goCc12 goDc12 goEc120 goEc121 goFc1200 goFc1201 goFc1210 goFc1211 goGc120 goGc121
theorem tl_c13 (q : Int) (w0 : World) : Goes Tryz.prog Tryz.f3.ntmps q w0 tail3 (End3 w0) stBc13.g stBc13.s := cfg3 (rec3 memoX_ok) q w0 okX okZ okBc13 okCc13 okDc13 okEc130 okEc131 okFc13 goX goZ goCc13 goDc13 goEc130 goEc131 goFc1300 goFc1301 goFc1310 goFc1311 goGc130 goGc131
theorem TopSaturates_walk (n : Int) (w : World) : Calls Tryz.prog 3 #[.int .i64 n] w fun e w' => e = .returned (.bool true) ∧ Below w.heap.size w w' := by
  refine calls3 n w ?_
  rw [← body3_eq]
  refine step_ok (rec3 memoX_ok _) okA3 okInit (ook0 n) goA ?_
  rcases zz1 n 0 with h0 | h0 <;> rcases zz1 n 2 with h2 | h2 <;> rcases zz3 n 3 with h3 | h3 | h3 | h3
  · exact step_ok (rec3 memoX_ok _) okB3 okA (ook3 h0 (by decide) h2 (by decide) h3 (by decide)) goB000 (tl_t n w)
  · exact step_ok (rec3 memoX_ok _) okB3 okA (ook3 h0 (by decide) h2 (by decide) h3 (by decide)) goB001 (tl_t n w)
  · exact step_ok (rec3 memoX_ok _) okB3 okA (ook3 h0 (by decide) h2 (by decide) h3 (by decide)) goB002 (tl_t n w)
  · exact step_ok (rec3 memoX_ok _) okB3 okA (ook3 h0 (by decide) h2 (by decide) h3 (by decide)) goB003 (tl_t n w)
  · exact step_ok (rec3 memoX_ok _) okB3 okA (ook3 h0 (by decide) h2 (by decide) h3 (by decide)) goB010 (tl_t n w)
  · exact step_ok (rec3 memoX_ok _) okB3 okA (ook3 h0 (by decide) h2 (by decide) h3 (by decide)) goB011 (tl_t n w)
  · exact step_ok (rec3 memoX_ok _) okB3 okA (ook3 h0 (by decide) h2 (by decide) h3 (by decide)) goB012 (tl_t n w)
  · exact step_ok (rec3 memoX_ok _) okB3 okA (ook3 h0 (by decide) h2 (by decide) h3 (by decide)) goB013 (tl_t n w)
  · exact step_ok (rec3 memoX_ok _) okB3 okA (ook3 h0 (by decide) h2 (by decide) h3 (by decide)) goB100 (tl_c00 n w)
  · exact step_ok (rec3 memoX_ok _) okB3 okA (ook3 h0 (by decide) h2 (by decide) h3 (by decide)) goB101 (tl_c01 n w)
  · exact step_ok (rec3 memoX_ok _) okB3 okA (ook3 h0 (by decide) h2 (by decide) h3 (by decide)) goB102 (tl_c02 n w)
  · exact step_ok (rec3 memoX_ok _) okB3 okA (ook3 h0 (by decide) h2 (by decide) h3 (by decide)) goB103 (tl_c03 n w)
  · exact step_ok (rec3 memoX_ok _) okB3 okA (ook3 h0 (by decide) h2 (by decide) h3 (by decide)) goB110 (tl_c10 n w)
  · exact step_ok (rec3 memoX_ok _) okB3 okA (ook3 h0 (by decide) h2 (by decide) h3 (by decide)) goB111 (tl_c11 n w)
  · exact step_ok (rec3 memoX_ok _) okB3 okA (ook3 h0 (by decide) h2 (by decide) h3 (by decide)) goB112 (tl_c12 n w)
  · exact step_ok (rec3 memoX_ok _) okB3 okA (ook3 h0 (by decide) h2 (by decide) h3 (by decide)) goB113 (tl_c13 n w)
end Go.Proofs.YteomkfapkfogcaaGreat
