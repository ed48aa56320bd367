/-
  A part of AnalyzeFew's proof.
-/
import Derived.Test.YthbfgdbbnapjeaaGreatWhT0
set_option linter.unusedVariables false
set_option linter.unusedSimpArgs false
namespace Go.Abs.W
open Go Go.Abs
set_option maxRecDepth 100000
def conR : D := .agg ([.int .i64 1, .bool true, .str [85], .str [120, 120], .str [65, 99, 116, 105, 111, 110], .str [118], .str [85], .str [120, 120, 120], .int .i64 6, .bool false, .int .i64 0, .str [], .str [], .str [], .sl [] none, .sl [] none, .sl (stoR [120, 120] [120, 120, 120]) none])
theorem confl_a : ∃ σ, callN T 39998 8 [.agg [.sl sch1 none, .sl schA2 none], .sl (ePs [polY, polZ]) none, .int .i64 9] [] = some (conR, σ) := run_d kr
end Go.Abs.W
