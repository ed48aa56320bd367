/-
  A part of AnalyzeFew's proof.
-/
import Derived.Test.YthbfgdbbnapjeaaGreatWhG
set_option linter.unusedVariables false
set_option linter.unusedSimpArgs false
namespace Go.Abs.W
open Go Go.Abs
set_option maxRecDepth 100000
noncomputable def rowOK (p : Nat) : Bool := match callNK T 39999 5 [.int .u8 (Int.ofNat p)] [] with | some (d, _) => sameD d (.sl (ePs ((bitsL p).map rowP)) none) | none => false
theorem row_of {p : Nat} (h : rowOK p = true) : ∃ σ, callN T 39999 5 [.int .u8 (p : Int)] [] = some (.sl (ePs ((bitsL p).map rowP)) none, σ) := by
 unfold rowOK at h
 split at h
 ·rename_i d σ hr
  have := sameD_eq _ _ h
  subst this
  exact ⟨σ, callN_of_fast hr⟩
 ·cases h
noncomputable def alwOK (p i : Nat) : Bool := match callNK T 39999 6 [.int .u8 (Int.ofNat p), .int .i64 (Int.ofNat i)] [] with | some (.bool b, []) => b == allowL (bitsL p) i | _ => false
theorem alw_of {p i : Nat} (h : alwOK p i = true) : callN T 39999 6 [.int .u8 (p : Int), .int .i64 (i : Int)] [] = some (.bool (allowL (bitsL p) i), []) := by
 unfold alwOK at h
 split at h
 ·rename_i b hr
  rw [beq_iff_eq] at h
  subst h
  exact callN_of_fast hr
 ·cases h
end Go.Abs.W
