import Derived.Test.YtlmgngibnioljaaGreatTmI
import Derived.KernelRfl
import Derived.Test.YtlmgngibnioljaaGreatTmO00
import Derived.Test.YtlmgngibnioljaaGreatTmO03
import Derived.Test.YtlmgngibnioljaaGreatTmO05
import Derived.Test.YtlmgngibnioljaaGreatTmO06
import Derived.Test.YtlmgngibnioljaaGreatTmO07
import Derived.Test.YtlmgngibnioljaaGreatTmO08
import Derived.Test.YtlmgngibnioljaaGreatTmO10
import Derived.Test.YtlmgngibnioljaaGreatTmO13
import Derived.Test.YtlmgngibnioljaaGreatTmO15
import Derived.Test.YtlmgngibnioljaaGreatTmO16
import Derived.Test.YtlmgngibnioljaaGreatTmO17
import Derived.Test.YtlmgngibnioljaaGreatTmO18
import Derived.Test.YtlmgngibnioljaaGreatTmP00
import Derived.Test.YtlmgngibnioljaaGreatTmP02
import Derived.Test.YtlmgngibnioljaaGreatTmP04
import Derived.Test.YtlmgngibnioljaaGreatTmP10
import Derived.Test.YtlmgngibnioljaaGreatTmP12
import Derived.Test.YtlmgngibnioljaaGreatTmP14
set_option linter.unusedVariables false
set_option linter.unusedSimpArgs false
/-
  The answers for every number of policies.
-/
namespace Go.Abs.T
open Go Go.Abs Go.Proofs
set_option maxRecDepth 100000
theorem r9_0_13 : R9 false 13 := r9_of (by kernel_rfl)
theorem r9_0_14 : R9 false 14 := r9_of (by kernel_rfl)
theorem r9_0_15 : R9 false 15 := r9_of (by kernel_rfl)
theorem r9_1_13 : R9 true 13 := r9_of (by kernel_rfl)
theorem r9_1_14 : R9 true 14 := r9_of (by kernel_rfl)
theorem r9_1_15 : R9 true 15 := r9_of (by kernel_rfl)
theorem r6_all (b : Bool) (k : Nat) (h : k < 16) : R6 b k :=
  match b, k, h with
  | false, 0, _ => r6_0_0
  | false, 1, _ => r6_0_1
  | false, 2, _ => r6_0_2
  | false, 3, _ => r6_0_3
  | false, 4, _ => r6_0_4
  | false, 5, _ => r6_0_5
  | false, 6, _ => r6_0_6
  | false, 7, _ => r6_0_7
  | false, 8, _ => r6_0_8
  | false, 9, _ => r6_0_9
  | false, 10, _ => r6_0_10
  | false, 11, _ => r6_0_11
  | false, 12, _ => r6_0_12
  | false, 13, _ => r6_0_13
  | false, 14, _ => r6_0_14
  | false, 15, _ => r6_0_15
  | true, 0, _ => r6_1_0
  | true, 1, _ => r6_1_1
  | true, 2, _ => r6_1_2
  | true, 3, _ => r6_1_3
  | true, 4, _ => r6_1_4
  | true, 5, _ => r6_1_5
  | true, 6, _ => r6_1_6
  | true, 7, _ => r6_1_7
  | true, 8, _ => r6_1_8
  | true, 9, _ => r6_1_9
  | true, 10, _ => r6_1_10
  | true, 11, _ => r6_1_11
  | true, 12, _ => r6_1_12
  | true, 13, _ => r6_1_13
  | true, 14, _ => r6_1_14
  | true, 15, _ => r6_1_15
  | _, n + 16, h => absurd h (by omega)
theorem r7_all (b : Bool) (k : Nat) (h : k < 16) : R7 b k :=
  match b, k, h with
  | false, 0, _ => r7_0_0
  | false, 1, _ => r7_0_1
  | false, 2, _ => r7_0_2
  | false, 3, _ => r7_0_3
  | false, 4, _ => r7_0_4
  | false, 5, _ => r7_0_5
  | false, 6, _ => r7_0_6
  | false, 7, _ => r7_0_7
  | false, 8, _ => r7_0_8
  | false, 9, _ => r7_0_9
  | false, 10, _ => r7_0_10
  | false, 11, _ => r7_0_11
  | false, 12, _ => r7_0_12
  | false, 13, _ => r7_0_13
  | false, 14, _ => r7_0_14
  | false, 15, _ => r7_0_15
  | true, 0, _ => r7_1_0
  | true, 1, _ => r7_1_1
  | true, 2, _ => r7_1_2
  | true, 3, _ => r7_1_3
  | true, 4, _ => r7_1_4
  | true, 5, _ => r7_1_5
  | true, 6, _ => r7_1_6
  | true, 7, _ => r7_1_7
  | true, 8, _ => r7_1_8
  | true, 9, _ => r7_1_9
  | true, 10, _ => r7_1_10
  | true, 11, _ => r7_1_11
  | true, 12, _ => r7_1_12
  | true, 13, _ => r7_1_13
  | true, 14, _ => r7_1_14
  | true, 15, _ => r7_1_15
  | _, n + 16, h => absurd h (by omega)
theorem r9_all (b : Bool) (k : Nat) (h : k < 16) : R9 b k :=
  match b, k, h with
  | false, 0, _ => r9_0_0
  | false, 1, _ => r9_0_1
  | false, 2, _ => r9_0_2
  | false, 3, _ => r9_0_3
  | false, 4, _ => r9_0_4
  | false, 5, _ => r9_0_5
  | false, 6, _ => r9_0_6
  | false, 7, _ => r9_0_7
  | false, 8, _ => r9_0_8
  | false, 9, _ => r9_0_9
  | false, 10, _ => r9_0_10
  | false, 11, _ => r9_0_11
  | false, 12, _ => r9_0_12
  | false, 13, _ => r9_0_13
  | false, 14, _ => r9_0_14
  | false, 15, _ => r9_0_15
  | true, 0, _ => r9_1_0
  | true, 1, _ => r9_1_1
  | true, 2, _ => r9_1_2
  | true, 3, _ => r9_1_3
  | true, 4, _ => r9_1_4
  | true, 5, _ => r9_1_5
  | true, 6, _ => r9_1_6
  | true, 7, _ => r9_1_7
  | true, 8, _ => r9_1_8
  | true, 9, _ => r9_1_9
  | true, 10, _ => r9_1_10
  | true, 11, _ => r9_1_11
  | true, 12, _ => r9_1_12
  | true, 13, _ => r9_1_13
  | true, 14, _ => r9_1_14
  | true, 15, _ => r9_1_15
  | _, n + 16, h => absurd h (by omega)
end Go.Abs.T
