import Derived.KernelRfl
import Derived.Test.YtlmgngibnioljaaGreatTmF0
import Derived.Test.YtlmgngibnioljaaGreatTmN10
set_option linter.unusedVariables false
set_option linter.unusedSimpArgs false
/-
  The theory of as many policies, by closed runs.
-/
namespace Go.Abs.T
open Go Go.Abs Go.Proofs
set_option maxRecDepth 100000
theorem r6_1_10 : R6 true 10 := r6_of (tj_ok f13_1 n14_1_10 n22_1_10) (by kernel_rfl)
end Go.Abs.T
