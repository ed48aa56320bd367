/-
  A part of AnalyzeFew's proof.
-/
import Derived.Test.YthbfgdbbnapjeaaGreatWhS
import Derived.Test.YthbfgdbbnapjeaaGreatWhR0
import Derived.Test.YthbfgdbbnapjeaaGreatWhR1
import Derived.Test.YthbfgdbbnapjeaaGreatWhR2
import Derived.Test.YthbfgdbbnapjeaaGreatWhR3
import Derived.Test.YthbfgdbbnapjeaaGreatWhR4
import Derived.Test.YthbfgdbbnapjeaaGreatWhR5
import Derived.Test.YthbfgdbbnapjeaaGreatWhR6
import Derived.Test.YthbfgdbbnapjeaaGreatWhR7
set_option linter.unusedVariables false
set_option linter.unusedSimpArgs false
namespace Go.Abs.W
open Go Go.Abs
set_option maxRecDepth 8000
theorem rows_ok {p : Nat} (hp : p < 256) : ∃ σ, callN T 39999 5 [.int .u8 (p : Int)] [] = some (.sl (ePs ((bitsL p).map rowP)) none, σ) := by
 refine row_of ?_
 obtain ⟨k, j, rfl, hj, hk⟩ : ∃ k j, p = j + 32 * k ∧ j < 32 ∧ k < 8 := ⟨p / 32, p % 32, om, om, om⟩
 match k, hk with
 | 0, _ => exact List.all_eq_true.1 rows_0 j (List.mem_range.2 hj)
 | 1, _ => exact List.all_eq_true.1 rows_1 j (List.mem_range.2 hj)
 | 2, _ => exact List.all_eq_true.1 rows_2 j (List.mem_range.2 hj)
 | 3, _ => exact List.all_eq_true.1 rows_3 j (List.mem_range.2 hj)
 | 4, _ => exact List.all_eq_true.1 rows_4 j (List.mem_range.2 hj)
 | 5, _ => exact List.all_eq_true.1 rows_5 j (List.mem_range.2 hj)
 | 6, _ => exact List.all_eq_true.1 rows_6 j (List.mem_range.2 hj)
 | 7, _ => exact List.all_eq_true.1 rows_7 j (List.mem_range.2 hj)
def sameI (p q i : Nat) : Bool := (List.range i).all fun c => allowL (bitsL p) c == allowL (bitsL q) c
def clashI (p i : Nat) : Bool := (List.range i).any fun c => clashL (bitsL p) c
theorem sameI_succ (p q i : Nat) : sameI p q (i + 1) = (sameI p q i && (allowL (bitsL p) i == allowL (bitsL q) i)) := by simp [sameI, List.range_succ]
theorem clashI_succ (p i : Nat) : clashI p (i + 1) = (clashI p i || clashL (bitsL p) i) := by simp [clashI, List.range_succ]
def rawB (p i : Nat) : Bool := IntKind.wrap IntKind.u8 (↑(BitVec.toNat (BitVec.ofInt (IntKind.bits IntKind.u8) (Int.fdiv (↑p : Int) ((2 : Int) ^ min (Int.toNat (↑i : Int)) (IntKind.bits IntKind.u8))) &&& BitVec.ofInt (IntKind.bits IntKind.u8) (1 : Int))) : Int) == (1 : Int)
theorem raw_all : ((List.range 256).all fun p => (List.range 8).all fun i => rawB p i == bitN p i) = true := by
 show _ = _
 kernel_rfl
theorem raw_ok {p i : Nat} (hp : p < 256) (hi : i < 8) : rawB p i = bitN p i := by
 have := List.all_eq_true.1 (List.all_eq_true.1 raw_all p (List.mem_range.2 hp)) i (List.mem_range.2 hi)
 simpa using this
theorem clash_all : ((List.range 256).all fun p => (List.range 4).all fun i => (bitN p i && bitN p (4 + i)) == clashL (bitsL p) i) = true := by
 show _ = _
 kernel_rfl
theorem clash_bits {p i : Nat} (hp : p < 256) (hi : i < 4) : clashL (bitsL p) i = (bitN p i && bitN p (4 + i)) := by
 have := List.all_eq_true.1 (List.all_eq_true.1 clash_all p (List.mem_range.2 hp)) i (List.mem_range.2 hi)
 rw [beq_iff_eq] at this
 exact this.symm
def rawC (p i : Nat) : Bool := IntKind.wrap IntKind.u8 (↑(BitVec.toNat (BitVec.ofInt (IntKind.bits IntKind.u8) (Int.fdiv (↑p : Int) ((2 : Int) ^ min (Int.toNat ((4 : Int) + (↑i : Int))) (IntKind.bits IntKind.u8))) &&& BitVec.ofInt (IntKind.bits IntKind.u8) (1 : Int))) : Int) == (1 : Int)
theorem rawC_ok {p i : Nat} (hp : p < 256) (hi : i < 4) : rawC p i = bitN p (4 + i) := by
 rw [← raw_ok hp (show 4 + i < 8 by omega)]
 unfold rawC rawB
 rw [show ((4 + i : Nat) : Int) = (4 : Int) + (i : Int) by omega]
theorem sameI_step (p q i : Nat) : sameI p q (i + 1) = (sameI p q i && ((allowL (bitsL p) i == allowL (bitsL q) i) != false)) := by
 rw [sameI_succ]
 cases (allowL (bitsL p) i == allowL (bitsL q) i) <;> rfl
end Go.Abs.W
