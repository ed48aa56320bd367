import Derived.Test.YtlmgngibnioljaaGreatLwD
set_option linter.unusedVariables false
set_option linter.unusedSimpArgs false
/-
  TheoryLaws: closed runs, where the first two truths are true and true.
-/
namespace Go.Abs.T
open Go Go.Abs
set_option maxRecDepth 100000
theorem laws_tttttt : ∃ σ, callN T2 60 4 [.bool true, .bool true, .bool true, .bool true, .bool true, .bool true] [] = some (.bool true, σ) := run_of_map2 (by kernel_rfl)
theorem laws_tttttf : ∃ σ, callN T2 60 4 [.bool true, .bool true, .bool true, .bool true, .bool true, .bool false] [] = some (.bool true, σ) := run_of_map2 (by kernel_rfl)
theorem laws_ttttft : ∃ σ, callN T2 60 4 [.bool true, .bool true, .bool true, .bool true, .bool false, .bool true] [] = some (.bool true, σ) := run_of_map2 (by kernel_rfl)
theorem laws_ttttff : ∃ σ, callN T2 60 4 [.bool true, .bool true, .bool true, .bool true, .bool false, .bool false] [] = some (.bool true, σ) := run_of_map2 (by kernel_rfl)
theorem laws_tttftt : ∃ σ, callN T2 60 4 [.bool true, .bool true, .bool true, .bool false, .bool true, .bool true] [] = some (.bool true, σ) := run_of_map2 (by kernel_rfl)
theorem laws_tttftf : ∃ σ, callN T2 60 4 [.bool true, .bool true, .bool true, .bool false, .bool true, .bool false] [] = some (.bool true, σ) := run_of_map2 (by kernel_rfl)
theorem laws_tttfft : ∃ σ, callN T2 60 4 [.bool true, .bool true, .bool true, .bool false, .bool false, .bool true] [] = some (.bool true, σ) := run_of_map2 (by kernel_rfl)
theorem laws_tttfff : ∃ σ, callN T2 60 4 [.bool true, .bool true, .bool true, .bool false, .bool false, .bool false] [] = some (.bool true, σ) := run_of_map2 (by kernel_rfl)
theorem laws_ttfttt : ∃ σ, callN T2 60 4 [.bool true, .bool true, .bool false, .bool true, .bool true, .bool true] [] = some (.bool true, σ) := run_of_map2 (by kernel_rfl)
theorem laws_ttfttf : ∃ σ, callN T2 60 4 [.bool true, .bool true, .bool false, .bool true, .bool true, .bool false] [] = some (.bool true, σ) := run_of_map2 (by kernel_rfl)
theorem laws_ttftft : ∃ σ, callN T2 60 4 [.bool true, .bool true, .bool false, .bool true, .bool false, .bool true] [] = some (.bool true, σ) := run_of_map2 (by kernel_rfl)
theorem laws_ttftff : ∃ σ, callN T2 60 4 [.bool true, .bool true, .bool false, .bool true, .bool false, .bool false] [] = some (.bool true, σ) := run_of_map2 (by kernel_rfl)
theorem laws_ttfftt : ∃ σ, callN T2 60 4 [.bool true, .bool true, .bool false, .bool false, .bool true, .bool true] [] = some (.bool true, σ) := run_of_map2 (by kernel_rfl)
theorem laws_ttfftf : ∃ σ, callN T2 60 4 [.bool true, .bool true, .bool false, .bool false, .bool true, .bool false] [] = some (.bool true, σ) := run_of_map2 (by kernel_rfl)
theorem laws_ttffft : ∃ σ, callN T2 60 4 [.bool true, .bool true, .bool false, .bool false, .bool false, .bool true] [] = some (.bool true, σ) := run_of_map2 (by kernel_rfl)
theorem laws_ttffff : ∃ σ, callN T2 60 4 [.bool true, .bool true, .bool false, .bool false, .bool false, .bool false] [] = some (.bool true, σ) := run_of_map2 (by kernel_rfl)
theorem laws_0 (a b up down : Bool) : ∃ σ, callN T2 60 4 [.bool true, .bool true, .bool a, .bool b, .bool up, .bool down] [] = some (.bool true, σ) :=
  match a, b, up, down with
  | true, true, true, true => laws_tttttt
  | true, true, true, false => laws_tttttf
  | true, true, false, true => laws_ttttft
  | true, true, false, false => laws_ttttff
  | true, false, true, true => laws_tttftt
  | true, false, true, false => laws_tttftf
  | true, false, false, true => laws_tttfft
  | true, false, false, false => laws_tttfff
  | false, true, true, true => laws_ttfttt
  | false, true, true, false => laws_ttfttf
  | false, true, false, true => laws_ttftft
  | false, true, false, false => laws_ttftff
  | false, false, true, true => laws_ttfftt
  | false, false, true, false => laws_ttfftf
  | false, false, false, true => laws_ttffft
  | false, false, false, false => laws_ttffff
end Go.Abs.T
