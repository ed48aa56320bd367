import Derived.Test.YtlmgngibnioljaaGreatCodeT
import Derived.Test.YtlmgngibnioljaaGreatFast
import Derived.KernelRfl
set_option linter.unusedVariables false
set_option linter.unusedSimpArgs false
/-
  Closed runs of the laws of the theory: a principal that must be one of its type.
-/
namespace Go.Abs.T
open Go Go.Abs
set_option maxRecDepth 100000
theorem run_of_map {n f : Nat} {args : List D} {d : D} (h : (callNK T n f args []).map (·.1) = some d) : ∃ σ, callN T n f args [] = some (d, σ) := by
  rw [← callNK_eq]
  cases hc : callNK T n f args [] with
  | none => rw [hc] at h; cases h
  | some p =>
    rw [hc] at h
    obtain ⟨d', σ⟩ := p
    simp only [Option.map_some, Option.some.injEq] at h
    subst h
    exact ⟨σ, rfl⟩
theorem awake_ok : ∃ σ, callN T 90 5 [] [] = some (.bool true, σ) := run_of_map (by kernel_rfl)
end Go.Abs.T
