import Derived.KernelRfl
import Derived.Test.YtlmgngibnioljaaGreatTmF0
import Derived.Test.YtlmgngibnioljaaGreatTmN10
set_option linter.unusedVariables false
set_option linter.unusedSimpArgs false
/-
  The theory of as many policies, by closed runs.
-/
namespace Go.Abs.T
open Go Go.Abs Go.Proofs
set_option maxRecDepth 100000
theorem r6_1_0 : R6 true 0 := r6_of tab_ok (by kernel_rfl)
theorem r6_1_1 : R6 true 1 := r6_of (tj_ok f13_1 n14_1_1 n22_1_1) (by kernel_rfl)
theorem r6_1_2 : R6 true 2 := r6_of (tj_ok f13_1 n14_1_2 n22_1_2) (by kernel_rfl)
end Go.Abs.T

/-
  The theory of as many policies, by closed runs.
-/
namespace Go.Abs.T
open Go Go.Abs Go.Proofs
set_option maxRecDepth 100000
theorem r6_1_3 : R6 true 3 := r6_of (tj_ok f13_1 n14_1_3 n22_1_3) (by kernel_rfl)
theorem r6_1_4 : R6 true 4 := r6_of (tj_ok f13_1 n14_1_4 n22_1_4) (by kernel_rfl)
end Go.Abs.T

/-
  The theory of as many policies, by closed runs.
-/
namespace Go.Abs.T
open Go Go.Abs Go.Proofs
set_option maxRecDepth 100000
theorem r6_1_5 : R6 true 5 := r6_of (tj_ok f13_1 n14_1_5 n22_1_5) (by kernel_rfl)
theorem r6_1_6 : R6 true 6 := r6_of (tj_ok f13_1 n14_1_6 n22_1_6) (by kernel_rfl)
end Go.Abs.T
