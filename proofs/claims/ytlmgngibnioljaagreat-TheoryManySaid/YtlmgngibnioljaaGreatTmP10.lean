import Derived.Test.YtlmgngibnioljaaGreatTmF0
import Derived.KernelRfl
set_option linter.unusedVariables false
set_option linter.unusedSimpArgs false
/-
  The document's theory of as many policies, by closed runs.
-/
namespace Go.Abs.T
open Go Go.Abs Go.Proofs
set_option maxRecDepth 100000
theorem r7_1_0 : R7 true 0 := r7_of (tp_ok f28_1 f67_1) (by kernel_rfl)
theorem r9_1_0 : R9 true 0 := r9_of (by kernel_rfl)
theorem r7_1_1 : R7 true 1 := r7_of (tp_ok f28_1 f67_1) (by kernel_rfl)
theorem r9_1_1 : R9 true 1 := r9_of (by kernel_rfl)
theorem r7_1_2 : R7 true 2 := r7_of (tp_ok f28_1 f67_1) (by kernel_rfl)
theorem r9_1_2 : R9 true 2 := r9_of (by kernel_rfl)
theorem r7_1_3 : R7 true 3 := r7_of (tp_ok f28_1 f67_1) (by kernel_rfl)
theorem r9_1_3 : R9 true 3 := r9_of (by kernel_rfl)
theorem r7_1_4 : R7 true 4 := r7_of (tp_ok f28_1 f67_1) (by kernel_rfl)
theorem r9_1_4 : R9 true 4 := r9_of (by kernel_rfl)
theorem r7_1_5 : R7 true 5 := r7_of (tp_ok f28_1 f67_1) (by kernel_rfl)
theorem r9_1_5 : R9 true 5 := r9_of (by kernel_rfl)
theorem r7_1_6 : R7 true 6 := r7_of (tp_ok f28_1 f67_1) (by kernel_rfl)
theorem r9_1_6 : R9 true 6 := r9_of (by kernel_rfl)
end Go.Abs.T

/-
  The document's theory of as many policies, by closed runs.
-/
namespace Go.Abs.T
open Go Go.Abs Go.Proofs
set_option maxRecDepth 100000
theorem r7_1_7 : R7 true 7 := r7_of (tp_ok f28_1 f67_1) (by kernel_rfl)
theorem r9_1_7 : R9 true 7 := r9_of (by kernel_rfl)
theorem r7_1_8 : R7 true 8 := r7_of (tp_ok f28_1 f67_1) (by kernel_rfl)
theorem r9_1_8 : R9 true 8 := r9_of (by kernel_rfl)
theorem r7_1_9 : R7 true 9 := r7_of (tp_ok f28_1 f67_1) (by kernel_rfl)
theorem r9_1_9 : R9 true 9 := r9_of (by kernel_rfl)
end Go.Abs.T
