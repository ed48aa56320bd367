/-
  A part of AnalyzeFew's proof.
-/
import Derived.Test.YthbfgdbbnapjeaaGreatWhR
set_option linter.unusedVariables false
set_option linter.unusedSimpArgs false
namespace Go.Abs.W
open Go Go.Abs
set_option maxRecDepth 100000
theorem rows_7 : ((List.range 32).all fun p => rowOK (p + 224)) = true := by
 show _ = _
 kernel_rfl
end Go.Abs.W
