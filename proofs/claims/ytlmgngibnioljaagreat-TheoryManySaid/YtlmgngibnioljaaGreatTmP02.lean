import Derived.Test.YtlmgngibnioljaaGreatTmF0
import Derived.KernelRfl
set_option linter.unusedVariables false
set_option linter.unusedSimpArgs false
/-
  The document's theory of as many policies, by closed runs.
-/
namespace Go.Abs.T
open Go Go.Abs Go.Proofs
set_option maxRecDepth 100000
theorem r7_0_10 : R7 false 10 := r7_of (tp_ok f28_0 f67_0) (by kernel_rfl)
theorem r9_0_10 : R9 false 10 := r9_of (by kernel_rfl)
end Go.Abs.T

/-
  The document's theory of as many policies, by closed runs.
-/
namespace Go.Abs.T
open Go Go.Abs Go.Proofs
set_option maxRecDepth 100000
theorem r7_0_11 : R7 false 11 := r7_of (tp_ok f28_0 f67_0) (by kernel_rfl)
theorem r9_0_11 : R9 false 11 := r9_of (by kernel_rfl)
end Go.Abs.T
