/-
  A part of AnalyzeFew's proof.
-/
import Derived.Test.YthbfgdbbnapjeaaGreatWhT0
set_option linter.unusedVariables false
set_option linter.unusedSimpArgs false
namespace Go.Abs.W
open Go Go.Abs
set_option maxRecDepth 100000
theorem reach_a : ∃ σ, callN T 39998 9 [.agg [.sl sch1 none, .sl schA2 none], .sl (ePs [polX]) none, .str [120], .int .i64 9] [] = some (.agg noR, σ) := run_d kr
end Go.Abs.W
