import Derived.KernelRfl
import Derived.Test.YtlmgngibnioljaaGreatTmF0
import Derived.Test.YtlmgngibnioljaaGreatTmN00
set_option linter.unusedVariables false
set_option linter.unusedSimpArgs false
/-
  The theory of as many policies, by closed runs.
-/
namespace Go.Abs.T
open Go Go.Abs Go.Proofs
set_option maxRecDepth 100000
theorem r6_0_0 : R6 false 0 := r6_of tab_ok (by kernel_rfl)
theorem r6_0_1 : R6 false 1 := r6_of (tj_ok f13_0 n14_0_1 n22_0_1) (by kernel_rfl)
theorem r6_0_2 : R6 false 2 := r6_of (tj_ok f13_0 n14_0_2 n22_0_2) (by kernel_rfl)
end Go.Abs.T

/-
  The theory of as many policies, by closed runs.
-/
namespace Go.Abs.T
open Go Go.Abs Go.Proofs
set_option maxRecDepth 100000
theorem r6_0_3 : R6 false 3 := r6_of (tj_ok f13_0 n14_0_3 n22_0_3) (by kernel_rfl)
theorem r6_0_4 : R6 false 4 := r6_of (tj_ok f13_0 n14_0_4 n22_0_4) (by kernel_rfl)
end Go.Abs.T

/-
  The theory of as many policies, by closed runs.
-/
namespace Go.Abs.T
open Go Go.Abs Go.Proofs
set_option maxRecDepth 100000
theorem r6_0_5 : R6 false 5 := r6_of (tj_ok f13_0 n14_0_5 n22_0_5) (by kernel_rfl)
theorem r6_0_6 : R6 false 6 := r6_of (tj_ok f13_0 n14_0_6 n22_0_6) (by kernel_rfl)
end Go.Abs.T
