/-
  A part of AnalyzeFew's proof.
-/
import Derived.Test.YthbfgdbbnapjeaaGreatWq11
set_option linter.unusedVariables false
set_option linter.unusedSimpArgs false
namespace Go.Abs.W
open Go Go.Abs
set_option maxRecDepth 100000
theorem model_a (tr : List Bool) : ∃ rm σ, callN T 39995 35 [.agg [.sl sch1 none, .sl schA2 none], .agg [.str [85], .str [118], .str [85]], .sl [] none, .sl (bools tr) none] [] = some (rm, σ) ∧ freeze σ rm = some mdA :=
 call_endHZ (t := 7) (n := 18) (cs := [.sl (bools tr) none]) (m := m35n) rfl rfl (by decide) (bools_same _) kr
end Go.Abs.W
