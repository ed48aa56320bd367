import Derived.Test.YtlmgngibnioljaaGreatTmF0
import Derived.KernelRfl
set_option linter.unusedVariables false
set_option linter.unusedSimpArgs false
/-
  The document's theory of as many policies, by closed runs.
-/
namespace Go.Abs.T
open Go Go.Abs Go.Proofs
set_option maxRecDepth 100000
theorem r7_0_0 : R7 false 0 := r7_of (tp_ok f28_0 f67_0) (by kernel_rfl)
theorem r9_0_0 : R9 false 0 := r9_of (by kernel_rfl)
theorem r7_0_1 : R7 false 1 := r7_of (tp_ok f28_0 f67_0) (by kernel_rfl)
theorem r9_0_1 : R9 false 1 := r9_of (by kernel_rfl)
theorem r7_0_2 : R7 false 2 := r7_of (tp_ok f28_0 f67_0) (by kernel_rfl)
theorem r9_0_2 : R9 false 2 := r9_of (by kernel_rfl)
theorem r7_0_3 : R7 false 3 := r7_of (tp_ok f28_0 f67_0) (by kernel_rfl)
theorem r9_0_3 : R9 false 3 := r9_of (by kernel_rfl)
theorem r7_0_4 : R7 false 4 := r7_of (tp_ok f28_0 f67_0) (by kernel_rfl)
theorem r9_0_4 : R9 false 4 := r9_of (by kernel_rfl)
theorem r7_0_5 : R7 false 5 := r7_of (tp_ok f28_0 f67_0) (by kernel_rfl)
theorem r9_0_5 : R9 false 5 := r9_of (by kernel_rfl)
theorem r7_0_6 : R7 false 6 := r7_of (tp_ok f28_0 f67_0) (by kernel_rfl)
theorem r9_0_6 : R9 false 6 := r9_of (by kernel_rfl)
end Go.Abs.T

/-
  The document's theory of as many policies, by closed runs.
-/
namespace Go.Abs.T
open Go Go.Abs Go.Proofs
set_option maxRecDepth 100000
theorem r7_0_7 : R7 false 7 := r7_of (tp_ok f28_0 f67_0) (by kernel_rfl)
theorem r9_0_7 : R9 false 7 := r9_of (by kernel_rfl)
theorem r7_0_8 : R7 false 8 := r7_of (tp_ok f28_0 f67_0) (by kernel_rfl)
theorem r9_0_8 : R9 false 8 := r9_of (by kernel_rfl)
theorem r7_0_9 : R7 false 9 := r7_of (tp_ok f28_0 f67_0) (by kernel_rfl)
theorem r9_0_9 : R9 false 9 := r9_of (by kernel_rfl)
end Go.Abs.T
