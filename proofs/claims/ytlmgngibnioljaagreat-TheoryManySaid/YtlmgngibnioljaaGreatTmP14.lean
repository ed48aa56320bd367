import Derived.Test.YtlmgngibnioljaaGreatTmF0
import Derived.KernelRfl
set_option linter.unusedVariables false
set_option linter.unusedSimpArgs false
/-
  The document's theory of as many policies, by closed runs.
-/
namespace Go.Abs.T
open Go Go.Abs Go.Proofs
set_option maxRecDepth 100000
theorem r7_1_12 : R7 true 12 := r7_of (tp_ok f28_1 f67_1) (by kernel_rfl)
theorem r9_1_12 : R9 true 12 := r9_of (by kernel_rfl)
end Go.Abs.T

/-
  The document's theory of as many policies, by closed runs.
-/
namespace Go.Abs.T
open Go Go.Abs Go.Proofs
set_option maxRecDepth 100000
theorem r7_1_13 : R7 true 13 := r7_of (tp_ok f28_1 f67_1) (by kernel_rfl)
theorem r7_1_14 : R7 true 14 := r7_of (tp_ok f28_1 f67_1) (by kernel_rfl)
theorem r7_1_15 : R7 true 15 := r7_of (tp_ok f28_1 f67_1) (by kernel_rfl)
end Go.Abs.T
