import Derived.KernelRfl
import Derived.Test.YtlmgngibnioljaaGreatTmF0
import Derived.Test.YtlmgngibnioljaaGreatTmN10
set_option linter.unusedVariables false
set_option linter.unusedSimpArgs false
/-
  The theory of as many policies, by closed runs.
-/
namespace Go.Abs.T
open Go Go.Abs Go.Proofs
set_option maxRecDepth 100000
theorem r6_1_7 : R6 true 7 := r6_of (tj_ok f13_1 n14_1_7 n22_1_7) (by kernel_rfl)
theorem r6_1_8 : R6 true 8 := r6_of (tj_ok f13_1 n14_1_8 n22_1_8) (by kernel_rfl)
end Go.Abs.T

/-
  The theory of as many policies, by closed runs.
-/
namespace Go.Abs.T
open Go Go.Abs Go.Proofs
set_option maxRecDepth 100000
theorem r6_1_9 : R6 true 9 := r6_of (tj_ok f13_1 n14_1_9 n22_1_9) (by kernel_rfl)
end Go.Abs.T
