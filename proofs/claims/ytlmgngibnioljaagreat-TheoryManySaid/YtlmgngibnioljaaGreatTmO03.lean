import Derived.KernelRfl
import Derived.Test.YtlmgngibnioljaaGreatTmF0
import Derived.Test.YtlmgngibnioljaaGreatTmN00
set_option linter.unusedVariables false
set_option linter.unusedSimpArgs false
/-
  The theory of as many policies, by closed runs.
-/
namespace Go.Abs.T
open Go Go.Abs Go.Proofs
set_option maxRecDepth 100000
theorem r6_0_7 : R6 false 7 := r6_of (tj_ok f13_0 n14_0_7 n22_0_7) (by kernel_rfl)
theorem r6_0_8 : R6 false 8 := r6_of (tj_ok f13_0 n14_0_8 n22_0_8) (by kernel_rfl)
end Go.Abs.T

/-
  The theory of as many policies, by closed runs.
-/
namespace Go.Abs.T
open Go Go.Abs Go.Proofs
set_option maxRecDepth 100000
theorem r6_0_9 : R6 false 9 := r6_of (tj_ok f13_0 n14_0_9 n22_0_9) (by kernel_rfl)
end Go.Abs.T
