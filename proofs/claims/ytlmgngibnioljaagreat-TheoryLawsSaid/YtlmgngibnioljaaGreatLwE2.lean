import Derived.Test.YtlmgngibnioljaaGreatLwD
set_option linter.unusedVariables false
set_option linter.unusedSimpArgs false
/-
  TheoryLaws: closed runs, where the first two truths are false and true.
-/
namespace Go.Abs.T
open Go Go.Abs
set_option maxRecDepth 100000
theorem laws_fttttt : ∃ σ, callN T2 60 4 [.bool false, .bool true, .bool true, .bool true, .bool true, .bool true] [] = some (.bool true, σ) := run_of_map2 (by kernel_rfl)
theorem laws_fttttf : ∃ σ, callN T2 60 4 [.bool false, .bool true, .bool true, .bool true, .bool true, .bool false] [] = some (.bool true, σ) := run_of_map2 (by kernel_rfl)
theorem laws_ftttft : ∃ σ, callN T2 60 4 [.bool false, .bool true, .bool true, .bool true, .bool false, .bool true] [] = some (.bool true, σ) := run_of_map2 (by kernel_rfl)
theorem laws_ftttff : ∃ σ, callN T2 60 4 [.bool false, .bool true, .bool true, .bool true, .bool false, .bool false] [] = some (.bool true, σ) := run_of_map2 (by kernel_rfl)
theorem laws_fttftt : ∃ σ, callN T2 60 4 [.bool false, .bool true, .bool true, .bool false, .bool true, .bool true] [] = some (.bool true, σ) := run_of_map2 (by kernel_rfl)
theorem laws_fttftf : ∃ σ, callN T2 60 4 [.bool false, .bool true, .bool true, .bool false, .bool true, .bool false] [] = some (.bool true, σ) := run_of_map2 (by kernel_rfl)
theorem laws_fttfft : ∃ σ, callN T2 60 4 [.bool false, .bool true, .bool true, .bool false, .bool false, .bool true] [] = some (.bool true, σ) := run_of_map2 (by kernel_rfl)
theorem laws_fttfff : ∃ σ, callN T2 60 4 [.bool false, .bool true, .bool true, .bool false, .bool false, .bool false] [] = some (.bool true, σ) := run_of_map2 (by kernel_rfl)
theorem laws_ftfttt : ∃ σ, callN T2 60 4 [.bool false, .bool true, .bool false, .bool true, .bool true, .bool true] [] = some (.bool true, σ) := run_of_map2 (by kernel_rfl)
theorem laws_ftfttf : ∃ σ, callN T2 60 4 [.bool false, .bool true, .bool false, .bool true, .bool true, .bool false] [] = some (.bool true, σ) := run_of_map2 (by kernel_rfl)
theorem laws_ftftft : ∃ σ, callN T2 60 4 [.bool false, .bool true, .bool false, .bool true, .bool false, .bool true] [] = some (.bool true, σ) := run_of_map2 (by kernel_rfl)
theorem laws_ftftff : ∃ σ, callN T2 60 4 [.bool false, .bool true, .bool false, .bool true, .bool false, .bool false] [] = some (.bool true, σ) := run_of_map2 (by kernel_rfl)
theorem laws_ftfftt : ∃ σ, callN T2 60 4 [.bool false, .bool true, .bool false, .bool false, .bool true, .bool true] [] = some (.bool true, σ) := run_of_map2 (by kernel_rfl)
theorem laws_ftfftf : ∃ σ, callN T2 60 4 [.bool false, .bool true, .bool false, .bool false, .bool true, .bool false] [] = some (.bool true, σ) := run_of_map2 (by kernel_rfl)
theorem laws_ftffft : ∃ σ, callN T2 60 4 [.bool false, .bool true, .bool false, .bool false, .bool false, .bool true] [] = some (.bool true, σ) := run_of_map2 (by kernel_rfl)
theorem laws_ftffff : ∃ σ, callN T2 60 4 [.bool false, .bool true, .bool false, .bool false, .bool false, .bool false] [] = some (.bool true, σ) := run_of_map2 (by kernel_rfl)
theorem laws_2 (a b up down : Bool) : ∃ σ, callN T2 60 4 [.bool false, .bool true, .bool a, .bool b, .bool up, .bool down] [] = some (.bool true, σ) :=
  match a, b, up, down with
  | true, true, true, true => laws_fttttt
  | true, true, true, false => laws_fttttf
  | true, true, false, true => laws_ftttft
  | true, true, false, false => laws_ftttff
  | true, false, true, true => laws_fttftt
  | true, false, true, false => laws_fttftf
  | true, false, false, true => laws_fttfft
  | true, false, false, false => laws_fttfff
  | false, true, true, true => laws_ftfttt
  | false, true, true, false => laws_ftfttf
  | false, true, false, true => laws_ftftft
  | false, true, false, false => laws_ftftff
  | false, false, true, true => laws_ftfftt
  | false, false, true, false => laws_ftfftf
  | false, false, false, true => laws_ftffft
  | false, false, false, false => laws_ftffff
end Go.Abs.T
