import Derived.Test.YtlmgngibnioljaaGreatLwD
set_option linter.unusedVariables false
set_option linter.unusedSimpArgs false
/-
  TheoryLaws: closed runs, where the first two truths are false and false.
-/
namespace Go.Abs.T
open Go Go.Abs
set_option maxRecDepth 100000
theorem laws_fftttt : ∃ σ, callN T2 60 4 [.bool false, .bool false, .bool true, .bool true, .bool true, .bool true] [] = some (.bool true, σ) := run_of_map2 (by kernel_rfl)
theorem laws_fftttf : ∃ σ, callN T2 60 4 [.bool false, .bool false, .bool true, .bool true, .bool true, .bool false] [] = some (.bool true, σ) := run_of_map2 (by kernel_rfl)
theorem laws_ffttft : ∃ σ, callN T2 60 4 [.bool false, .bool false, .bool true, .bool true, .bool false, .bool true] [] = some (.bool true, σ) := run_of_map2 (by kernel_rfl)
theorem laws_ffttff : ∃ σ, callN T2 60 4 [.bool false, .bool false, .bool true, .bool true, .bool false, .bool false] [] = some (.bool true, σ) := run_of_map2 (by kernel_rfl)
theorem laws_fftftt : ∃ σ, callN T2 60 4 [.bool false, .bool false, .bool true, .bool false, .bool true, .bool true] [] = some (.bool true, σ) := run_of_map2 (by kernel_rfl)
theorem laws_fftftf : ∃ σ, callN T2 60 4 [.bool false, .bool false, .bool true, .bool false, .bool true, .bool false] [] = some (.bool true, σ) := run_of_map2 (by kernel_rfl)
theorem laws_fftfft : ∃ σ, callN T2 60 4 [.bool false, .bool false, .bool true, .bool false, .bool false, .bool true] [] = some (.bool true, σ) := run_of_map2 (by kernel_rfl)
theorem laws_fftfff : ∃ σ, callN T2 60 4 [.bool false, .bool false, .bool true, .bool false, .bool false, .bool false] [] = some (.bool true, σ) := run_of_map2 (by kernel_rfl)
theorem laws_fffttt : ∃ σ, callN T2 60 4 [.bool false, .bool false, .bool false, .bool true, .bool true, .bool true] [] = some (.bool true, σ) := run_of_map2 (by kernel_rfl)
theorem laws_fffttf : ∃ σ, callN T2 60 4 [.bool false, .bool false, .bool false, .bool true, .bool true, .bool false] [] = some (.bool true, σ) := run_of_map2 (by kernel_rfl)
theorem laws_ffftft : ∃ σ, callN T2 60 4 [.bool false, .bool false, .bool false, .bool true, .bool false, .bool true] [] = some (.bool true, σ) := run_of_map2 (by kernel_rfl)
theorem laws_ffftff : ∃ σ, callN T2 60 4 [.bool false, .bool false, .bool false, .bool true, .bool false, .bool false] [] = some (.bool true, σ) := run_of_map2 (by kernel_rfl)
theorem laws_fffftt : ∃ σ, callN T2 60 4 [.bool false, .bool false, .bool false, .bool false, .bool true, .bool true] [] = some (.bool true, σ) := run_of_map2 (by kernel_rfl)
theorem laws_fffftf : ∃ σ, callN T2 60 4 [.bool false, .bool false, .bool false, .bool false, .bool true, .bool false] [] = some (.bool true, σ) := run_of_map2 (by kernel_rfl)
theorem laws_ffffft : ∃ σ, callN T2 60 4 [.bool false, .bool false, .bool false, .bool false, .bool false, .bool true] [] = some (.bool true, σ) := run_of_map2 (by kernel_rfl)
theorem laws_ffffff : ∃ σ, callN T2 60 4 [.bool false, .bool false, .bool false, .bool false, .bool false, .bool false] [] = some (.bool true, σ) := run_of_map2 (by kernel_rfl)
theorem laws_3 (a b up down : Bool) : ∃ σ, callN T2 60 4 [.bool false, .bool false, .bool a, .bool b, .bool up, .bool down] [] = some (.bool true, σ) :=
  match a, b, up, down with
  | true, true, true, true => laws_fftttt
  | true, true, true, false => laws_fftttf
  | true, true, false, true => laws_ffttft
  | true, true, false, false => laws_ffttff
  | true, false, true, true => laws_fftftt
  | true, false, true, false => laws_fftftf
  | true, false, false, true => laws_fftfft
  | true, false, false, false => laws_fftfff
  | false, true, true, true => laws_fffttt
  | false, true, true, false => laws_fffttf
  | false, true, false, true => laws_ffftft
  | false, true, false, false => laws_ffftff
  | false, false, true, true => laws_fffftt
  | false, false, true, false => laws_fffftf
  | false, false, false, true => laws_ffffft
  | false, false, false, false => laws_ffffff
end Go.Abs.T
