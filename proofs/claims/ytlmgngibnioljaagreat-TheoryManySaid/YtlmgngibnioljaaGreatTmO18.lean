import Derived.KernelRfl
import Derived.Test.YtlmgngibnioljaaGreatTmF0
import Derived.Test.YtlmgngibnioljaaGreatTmN10
set_option linter.unusedVariables false
set_option linter.unusedSimpArgs false
/-
  The theory of as many policies, by closed runs.
-/
namespace Go.Abs.T
open Go Go.Abs Go.Proofs
set_option maxRecDepth 100000
theorem r6_1_13 : R6 true 13 := r6_of (tj_ok f13_1 n14_1_13 n22_1_13) (by kernel_rfl)
theorem r6_1_14 : R6 true 14 := r6_of (tj_ok f13_1 n14_1_14 n22_1_14) (by kernel_rfl)
theorem r6_1_15 : R6 true 15 := r6_of (tj_ok f13_1 n14_1_15 n22_1_15) (by kernel_rfl)
end Go.Abs.T
