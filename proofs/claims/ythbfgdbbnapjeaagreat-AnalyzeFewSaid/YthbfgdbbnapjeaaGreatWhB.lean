/-
  A part of AnalyzeFew's proof.
-/
import Derived.Test.YthbfgdbbnapjeaaGreatWaA
set_option linter.unusedVariables false
set_option linter.unusedSimpArgs false
namespace Go.Abs.W
open Go Go.Abs Go.Proofs
set_option maxRecDepth 100000
theorem pf_0_0 : callN T 39995 36 [.ptr 1 0, .agg (eP (rowP 0))] (stG 0) = some (.agg (eF (tkF 0)), stF2) := callN_of_fast kr
theorem pf_0_1 : callN T 39995 36 [.ptr 1 0, .agg (eP (rowP 1))] (stG 0) = some (.agg (eF (tkF 1)), stF2) := callN_of_fast kr
theorem pf_0_2 : callN T 39995 36 [.ptr 1 0, .agg (eP (rowP 2))] (stG 0) = some (.agg (eF (tkF 2)), stF2) := callN_of_fast kr
theorem pf_0_3 : callN T 39995 36 [.ptr 1 0, .agg (eP (rowP 3))] (stG 0) = some (.agg (eF (tkF 3)), stF2) := callN_of_fast kr
theorem pf_0_4 : callN T 39995 36 [.ptr 1 0, .agg (eP (rowP 4))] (stG 0) = some (.agg (eF (tkF 4)), stF2) := callN_of_fast kr
theorem pf_0_5 : callN T 39995 36 [.ptr 1 0, .agg (eP (rowP 5))] (stG 0) = some (.agg (eF (tkF 5)), stF2) := callN_of_fast kr
theorem pf_0_6 : callN T 39995 36 [.ptr 1 0, .agg (eP (rowP 6))] (stG 0) = some (.agg (eF (tkF 6)), stF2) := callN_of_fast kr
theorem pf_0_7 : callN T 39995 36 [.ptr 1 0, .agg (eP (rowP 7))] (stG 0) = some (.agg (eF (tkF 7)), stF2) := callN_of_fast kr
theorem pf_1_0 : callN T 39995 36 [.ptr 1 0, .agg (eP (rowP 0))] (stG 1) = some (.agg (eF (tkF 0)), stF2) := callN_of_fast kr
theorem pf_1_1 : callN T 39995 36 [.ptr 1 0, .agg (eP (rowP 1))] (stG 1) = some (.agg (eF (tkF 1)), stF2) := callN_of_fast kr
theorem pf_1_2 : callN T 39995 36 [.ptr 1 0, .agg (eP (rowP 2))] (stG 1) = some (.agg (eF (tkF 2)), stF2) := callN_of_fast kr
theorem pf_1_3 : callN T 39995 36 [.ptr 1 0, .agg (eP (rowP 3))] (stG 1) = some (.agg (eF (tkF 3)), stF2) := callN_of_fast kr
theorem pf_1_4 : callN T 39995 36 [.ptr 1 0, .agg (eP (rowP 4))] (stG 1) = some (.agg (eF (tkF 4)), stF2) := callN_of_fast kr
theorem pf_1_5 : callN T 39995 36 [.ptr 1 0, .agg (eP (rowP 5))] (stG 1) = some (.agg (eF (tkF 5)), stF2) := callN_of_fast kr
theorem pf_1_6 : callN T 39995 36 [.ptr 1 0, .agg (eP (rowP 6))] (stG 1) = some (.agg (eF (tkF 6)), stF2) := callN_of_fast kr
theorem pf_1_7 : callN T 39995 36 [.ptr 1 0, .agg (eP (rowP 7))] (stG 1) = some (.agg (eF (tkF 7)), stF2) := callN_of_fast kr
theorem pf0 {i : Nat} (h : i < 8) : callN T 39995 36 [.ptr 1 0, .agg (eP (rowP i))] stF0 = some (.agg (eF (tkF i)), stF2) := by
 match i, h with
 | 0, _ => exact pf_0_0
 | 1, _ => exact pf_0_1
 | 2, _ => exact pf_0_2
 | 3, _ => exact pf_0_3
 | 4, _ => exact pf_0_4
 | 5, _ => exact pf_0_5
 | 6, _ => exact pf_0_6
 | 7, _ => exact pf_0_7
theorem pf2 {i : Nat} (h : i < 8) : callN T 39995 36 [.ptr 1 0, .agg (eP (rowP i))] stF2 = some (.agg (eF (tkF i)), stF2) := by
 match i, h with
 | 0, _ => exact pf_1_0
 | 1, _ => exact pf_1_1
 | 2, _ => exact pf_1_2
 | 3, _ => exact pf_1_3
 | 4, _ => exact pf_1_4
 | 5, _ => exact pf_1_5
 | 6, _ => exact pf_1_6
 | 7, _ => exact pf_1_7
end Go.Abs.W
