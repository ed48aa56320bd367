/-
  A part of AnalyzeFew's proof.
-/
import Derived.Test.YthbfgdbbnapjeaaGreatWhR
set_option linter.unusedVariables false
set_option linter.unusedSimpArgs false
namespace Go.Abs.W
open Go Go.Abs
set_option maxRecDepth 100000
theorem alw_all : ((List.range 256).all fun p => (List.range 4).all fun i => alwOK p i) = true := by
 show _ = _
 kernel_rfl
theorem alw_ok {p i : Nat} (hp : p < 256) (hi : i < 4) : callN T 39999 6 [.int .u8 (p : Int), .int .i64 (i : Int)] [] = some (.bool (allowL (bitsL p) i), []) :=
 alw_of (List.all_eq_true.1 (List.all_eq_true.1 alw_all p (List.mem_range.2 hp)) i (List.mem_range.2 hi))
end Go.Abs.W
