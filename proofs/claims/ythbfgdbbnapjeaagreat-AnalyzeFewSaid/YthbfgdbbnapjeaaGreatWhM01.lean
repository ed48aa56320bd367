/-
  A part of AnalyzeFew's proof.
-/
import Derived.Test.YthbfgdbbnapjeaaGreatWq11
set_option linter.unusedVariables false
set_option linter.unusedSimpArgs false
namespace Go.Abs.W
open Go Go.Abs
set_option maxRecDepth 100000
theorem model_01 (tr : List Bool) : ∃ rm σ, callN T 39996 35 [.agg [.sl sch1 none, .sl sch2 none], .agg [.str [85], .str [118], .str [85]], .sl [at1, at2] none, .sl (bools (false :: true :: tr)) none] [] = some (rm, σ) ∧ freeze σ rm = some (mdR false true) :=
 call_endHZ (t := 7) (n := 18) (cs := [.sl (bools (false :: true :: tr)) none]) (m := m35n) rfl rfl (by decide) (bools_same _) kr
end Go.Abs.W
