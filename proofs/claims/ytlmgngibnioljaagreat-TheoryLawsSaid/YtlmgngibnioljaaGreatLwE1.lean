import Derived.Test.YtlmgngibnioljaaGreatLwD
set_option linter.unusedVariables false
set_option linter.unusedSimpArgs false
/-
  TheoryLaws: closed runs, where the first two truths are true and false.
-/
namespace Go.Abs.T
open Go Go.Abs
set_option maxRecDepth 100000
theorem laws_tftttt : ∃ σ, callN T2 60 4 [.bool true, .bool false, .bool true, .bool true, .bool true, .bool true] [] = some (.bool true, σ) := run_of_map2 (by kernel_rfl)
theorem laws_tftttf : ∃ σ, callN T2 60 4 [.bool true, .bool false, .bool true, .bool true, .bool true, .bool false] [] = some (.bool true, σ) := run_of_map2 (by kernel_rfl)
theorem laws_tfttft : ∃ σ, callN T2 60 4 [.bool true, .bool false, .bool true, .bool true, .bool false, .bool true] [] = some (.bool true, σ) := run_of_map2 (by kernel_rfl)
theorem laws_tfttff : ∃ σ, callN T2 60 4 [.bool true, .bool false, .bool true, .bool true, .bool false, .bool false] [] = some (.bool true, σ) := run_of_map2 (by kernel_rfl)
theorem laws_tftftt : ∃ σ, callN T2 60 4 [.bool true, .bool false, .bool true, .bool false, .bool true, .bool true] [] = some (.bool true, σ) := run_of_map2 (by kernel_rfl)
theorem laws_tftftf : ∃ σ, callN T2 60 4 [.bool true, .bool false, .bool true, .bool false, .bool true, .bool false] [] = some (.bool true, σ) := run_of_map2 (by kernel_rfl)
theorem laws_tftfft : ∃ σ, callN T2 60 4 [.bool true, .bool false, .bool true, .bool false, .bool false, .bool true] [] = some (.bool true, σ) := run_of_map2 (by kernel_rfl)
theorem laws_tftfff : ∃ σ, callN T2 60 4 [.bool true, .bool false, .bool true, .bool false, .bool false, .bool false] [] = some (.bool true, σ) := run_of_map2 (by kernel_rfl)
theorem laws_tffttt : ∃ σ, callN T2 60 4 [.bool true, .bool false, .bool false, .bool true, .bool true, .bool true] [] = some (.bool true, σ) := run_of_map2 (by kernel_rfl)
theorem laws_tffttf : ∃ σ, callN T2 60 4 [.bool true, .bool false, .bool false, .bool true, .bool true, .bool false] [] = some (.bool true, σ) := run_of_map2 (by kernel_rfl)
theorem laws_tfftft : ∃ σ, callN T2 60 4 [.bool true, .bool false, .bool false, .bool true, .bool false, .bool true] [] = some (.bool true, σ) := run_of_map2 (by kernel_rfl)
theorem laws_tfftff : ∃ σ, callN T2 60 4 [.bool true, .bool false, .bool false, .bool true, .bool false, .bool false] [] = some (.bool true, σ) := run_of_map2 (by kernel_rfl)
theorem laws_tffftt : ∃ σ, callN T2 60 4 [.bool true, .bool false, .bool false, .bool false, .bool true, .bool true] [] = some (.bool true, σ) := run_of_map2 (by kernel_rfl)
theorem laws_tffftf : ∃ σ, callN T2 60 4 [.bool true, .bool false, .bool false, .bool false, .bool true, .bool false] [] = some (.bool true, σ) := run_of_map2 (by kernel_rfl)
theorem laws_tfffft : ∃ σ, callN T2 60 4 [.bool true, .bool false, .bool false, .bool false, .bool false, .bool true] [] = some (.bool true, σ) := run_of_map2 (by kernel_rfl)
theorem laws_tfffff : ∃ σ, callN T2 60 4 [.bool true, .bool false, .bool false, .bool false, .bool false, .bool false] [] = some (.bool true, σ) := run_of_map2 (by kernel_rfl)
theorem laws_1 (a b up down : Bool) : ∃ σ, callN T2 60 4 [.bool true, .bool false, .bool a, .bool b, .bool up, .bool down] [] = some (.bool true, σ) :=
  match a, b, up, down with
  | true, true, true, true => laws_tftttt
  | true, true, true, false => laws_tftttf
  | true, true, false, true => laws_tfttft
  | true, true, false, false => laws_tfttff
  | true, false, true, true => laws_tftftt
  | true, false, true, false => laws_tftftf
  | true, false, false, true => laws_tftfft
  | true, false, false, false => laws_tftfff
  | false, true, true, true => laws_tffttt
  | false, true, true, false => laws_tffttf
  | false, true, false, true => laws_tfftft
  | false, true, false, false => laws_tfftff
  | false, false, true, true => laws_tffftt
  | false, false, true, false => laws_tffftf
  | false, false, false, true => laws_tfffft
  | false, false, false, false => laws_tfffff
end Go.Abs.T
