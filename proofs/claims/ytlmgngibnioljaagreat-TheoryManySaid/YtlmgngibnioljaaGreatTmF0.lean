import Derived.Test.YtlmgngibnioljaaGreatTmI
import Derived.KernelRfl
set_option linter.unusedVariables false
set_option linter.unusedSimpArgs false
/-
  Policies and names of the law, told by closed runs.
-/
namespace Go.Abs.T
open Go Go.Abs Go.Proofs
set_option maxRecDepth 100000
theorem f13_0_0 : callN T 21 13 (nf0 false 0).1.1 (nf0 false 0).1.2 = some (nf0 false 0).2 := callN_of_fast (by kernel_rfl)
theorem f13_0_1 : callN T 21 13 (nf0 false 1).1.1 (nf0 false 1).1.2 = some (nf0 false 1).2 := callN_of_fast (by kernel_rfl)
theorem f13_0_2 : callN T 21 13 (nf0 false 2).1.1 (nf0 false 2).1.2 = some (nf0 false 2).2 := callN_of_fast (by kernel_rfl)
theorem f13_0_3 : callN T 21 13 (nf0 false 3).1.1 (nf0 false 3).1.2 = some (nf0 false 3).2 := callN_of_fast (by kernel_rfl)
theorem f13_0_4 : callN T 21 13 (nf0 false 4).1.1 (nf0 false 4).1.2 = some (nf0 false 4).2 := callN_of_fast (by kernel_rfl)
theorem f13_0_5 : callN T 21 13 (nf0 false 5).1.1 (nf0 false 5).1.2 = some (nf0 false 5).2 := callN_of_fast (by kernel_rfl)
theorem f13_0_6 : callN T 21 13 (nf0 false 6).1.1 (nf0 false 6).1.2 = some (nf0 false 6).2 := callN_of_fast (by kernel_rfl)
theorem f13_0_7 : callN T 21 13 (nf0 false 7).1.1 (nf0 false 7).1.2 = some (nf0 false 7).2 := callN_of_fast (by kernel_rfl)
theorem f13_0_8 : callN T 21 13 (nf0 false 8).1.1 (nf0 false 8).1.2 = some (nf0 false 8).2 := callN_of_fast (by kernel_rfl)
theorem f13_0_9 : callN T 21 13 (nf0 false 9).1.1 (nf0 false 9).1.2 = some (nf0 false 9).2 := callN_of_fast (by kernel_rfl)
theorem f13_0_10 : callN T 21 13 (nf0 false 10).1.1 (nf0 false 10).1.2 = some (nf0 false 10).2 := callN_of_fast (by kernel_rfl)
theorem f13_0_11 : callN T 21 13 (nf0 false 11).1.1 (nf0 false 11).1.2 = some (nf0 false 11).2 := callN_of_fast (by kernel_rfl)
theorem f13_0_12 : callN T 21 13 (nf0 false 12).1.1 (nf0 false 12).1.2 = some (nf0 false 12).2 := callN_of_fast (by kernel_rfl)
theorem f13_0_13 : callN T 21 13 (nf0 false 13).1.1 (nf0 false 13).1.2 = some (nf0 false 13).2 := callN_of_fast (by kernel_rfl)
theorem f13_0_14 : callN T 21 13 (nf0 false 14).1.1 (nf0 false 14).1.2 = some (nf0 false 14).2 := callN_of_fast (by kernel_rfl)
theorem f13_0 : ∀ e ∈ facts13 false, FOK0 e := by
  intro e he
  obtain ⟨i, hi, rfl⟩ := List.mem_map.1 he
  have hi := List.mem_range.1 hi
  match i, hi with
  | 0, _ => exact ⟨by kernel_rfl, f13_0_0, by kernel_rfl, by kernel_rfl⟩
  | 1, _ => exact ⟨by kernel_rfl, f13_0_1, by kernel_rfl, by kernel_rfl⟩
  | 2, _ => exact ⟨by kernel_rfl, f13_0_2, by kernel_rfl, by kernel_rfl⟩
  | 3, _ => exact ⟨by kernel_rfl, f13_0_3, by kernel_rfl, by kernel_rfl⟩
  | 4, _ => exact ⟨by kernel_rfl, f13_0_4, by kernel_rfl, by kernel_rfl⟩
  | 5, _ => exact ⟨by kernel_rfl, f13_0_5, by kernel_rfl, by kernel_rfl⟩
  | 6, _ => exact ⟨by kernel_rfl, f13_0_6, by kernel_rfl, by kernel_rfl⟩
  | 7, _ => exact ⟨by kernel_rfl, f13_0_7, by kernel_rfl, by kernel_rfl⟩
  | 8, _ => exact ⟨by kernel_rfl, f13_0_8, by kernel_rfl, by kernel_rfl⟩
  | 9, _ => exact ⟨by kernel_rfl, f13_0_9, by kernel_rfl, by kernel_rfl⟩
  | 10, _ => exact ⟨by kernel_rfl, f13_0_10, by kernel_rfl, by kernel_rfl⟩
  | 11, _ => exact ⟨by kernel_rfl, f13_0_11, by kernel_rfl, by kernel_rfl⟩
  | 12, _ => exact ⟨by kernel_rfl, f13_0_12, by kernel_rfl, by kernel_rfl⟩
  | 13, _ => exact ⟨by kernel_rfl, f13_0_13, by kernel_rfl, by kernel_rfl⟩
  | 14, _ => exact ⟨by kernel_rfl, f13_0_14, by kernel_rfl, by kernel_rfl⟩
theorem f28_0_0 : ∃ σ, callN TA 60 28 (pf28 false 0).1 [] = some ((pf28 false 0).2, σ) := run_ofT (by kernel_rfl)
theorem f28_0_1 : ∃ σ, callN TA 60 28 (pf28 false 1).1 [] = some ((pf28 false 1).2, σ) := run_ofT (by kernel_rfl)
theorem f28_0_2 : ∃ σ, callN TA 60 28 (pf28 false 2).1 [] = some ((pf28 false 2).2, σ) := run_ofT (by kernel_rfl)
theorem f28_0_3 : ∃ σ, callN TA 60 28 (pf28 false 3).1 [] = some ((pf28 false 3).2, σ) := run_ofT (by kernel_rfl)
theorem f28_0_4 : ∃ σ, callN TA 60 28 (pf28 false 4).1 [] = some ((pf28 false 4).2, σ) := run_ofT (by kernel_rfl)
theorem f28_0_5 : ∃ σ, callN TA 60 28 (pf28 false 5).1 [] = some ((pf28 false 5).2, σ) := run_ofT (by kernel_rfl)
theorem f28_0_6 : ∃ σ, callN TA 60 28 (pf28 false 6).1 [] = some ((pf28 false 6).2, σ) := run_ofT (by kernel_rfl)
theorem f28_0_7 : ∃ σ, callN TA 60 28 (pf28 false 7).1 [] = some ((pf28 false 7).2, σ) := run_ofT (by kernel_rfl)
theorem f28_0_8 : ∃ σ, callN TA 60 28 (pf28 false 8).1 [] = some ((pf28 false 8).2, σ) := run_ofT (by kernel_rfl)
theorem f28_0_9 : ∃ σ, callN TA 60 28 (pf28 false 9).1 [] = some ((pf28 false 9).2, σ) := run_ofT (by kernel_rfl)
theorem f28_0_10 : ∃ σ, callN TA 60 28 (pf28 false 10).1 [] = some ((pf28 false 10).2, σ) := run_ofT (by kernel_rfl)
theorem f28_0_11 : ∃ σ, callN TA 60 28 (pf28 false 11).1 [] = some ((pf28 false 11).2, σ) := run_ofT (by kernel_rfl)
theorem f28_0_12 : ∃ σ, callN TA 60 28 (pf28 false 12).1 [] = some ((pf28 false 12).2, σ) := run_ofT (by kernel_rfl)
theorem f28_0_13 : ∃ σ, callN TA 60 28 (pf28 false 13).1 [] = some ((pf28 false 13).2, σ) := run_ofT (by kernel_rfl)
theorem f28_0_14 : ∃ σ, callN TA 60 28 (pf28 false 14).1 [] = some ((pf28 false 14).2, σ) := run_ofT (by kernel_rfl)
theorem f28_0 : ∀ e ∈ factsB false pf28, FOKP TA 60 28 e := by
  intro e he
  obtain ⟨i, hi, rfl⟩ := List.mem_map.1 he
  have hi := List.mem_range.1 hi
  match i, hi with
  | 0, _ => exact ⟨f28_0_0, by kernel_rfl, fun σ => by kernel_rfl, fun σ => by kernel_rfl, by kernel_rfl, by kernel_rfl⟩
  | 1, _ => exact ⟨f28_0_1, by kernel_rfl, fun σ => by kernel_rfl, fun σ => by kernel_rfl, by kernel_rfl, by kernel_rfl⟩
  | 2, _ => exact ⟨f28_0_2, by kernel_rfl, fun σ => by kernel_rfl, fun σ => by kernel_rfl, by kernel_rfl, by kernel_rfl⟩
  | 3, _ => exact ⟨f28_0_3, by kernel_rfl, fun σ => by kernel_rfl, fun σ => by kernel_rfl, by kernel_rfl, by kernel_rfl⟩
  | 4, _ => exact ⟨f28_0_4, by kernel_rfl, fun σ => by kernel_rfl, fun σ => by kernel_rfl, by kernel_rfl, by kernel_rfl⟩
  | 5, _ => exact ⟨f28_0_5, by kernel_rfl, fun σ => by kernel_rfl, fun σ => by kernel_rfl, by kernel_rfl, by kernel_rfl⟩
  | 6, _ => exact ⟨f28_0_6, by kernel_rfl, fun σ => by kernel_rfl, fun σ => by kernel_rfl, by kernel_rfl, by kernel_rfl⟩
  | 7, _ => exact ⟨f28_0_7, by kernel_rfl, fun σ => by kernel_rfl, fun σ => by kernel_rfl, by kernel_rfl, by kernel_rfl⟩
  | 8, _ => exact ⟨f28_0_8, by kernel_rfl, fun σ => by kernel_rfl, fun σ => by kernel_rfl, by kernel_rfl, by kernel_rfl⟩
  | 9, _ => exact ⟨f28_0_9, by kernel_rfl, fun σ => by kernel_rfl, fun σ => by kernel_rfl, by kernel_rfl, by kernel_rfl⟩
  | 10, _ => exact ⟨f28_0_10, by kernel_rfl, fun σ => by kernel_rfl, fun σ => by kernel_rfl, by kernel_rfl, by kernel_rfl⟩
  | 11, _ => exact ⟨f28_0_11, by kernel_rfl, fun σ => by kernel_rfl, fun σ => by kernel_rfl, by kernel_rfl, by kernel_rfl⟩
  | 12, _ => exact ⟨f28_0_12, by kernel_rfl, fun σ => by kernel_rfl, fun σ => by kernel_rfl, by kernel_rfl, by kernel_rfl⟩
  | 13, _ => exact ⟨f28_0_13, by kernel_rfl, fun σ => by kernel_rfl, fun σ => by kernel_rfl, by kernel_rfl, by kernel_rfl⟩
  | 14, _ => exact ⟨f28_0_14, by kernel_rfl, fun σ => by kernel_rfl, fun σ => by kernel_rfl, by kernel_rfl, by kernel_rfl⟩
theorem f67_0_0 : ∃ σ, callN TA 60 67 (pf67 false 0).1 [] = some ((pf67 false 0).2, σ) := run_ofT (by kernel_rfl)
theorem f67_0_1 : ∃ σ, callN TA 60 67 (pf67 false 1).1 [] = some ((pf67 false 1).2, σ) := run_ofT (by kernel_rfl)
theorem f67_0_2 : ∃ σ, callN TA 60 67 (pf67 false 2).1 [] = some ((pf67 false 2).2, σ) := run_ofT (by kernel_rfl)
theorem f67_0_3 : ∃ σ, callN TA 60 67 (pf67 false 3).1 [] = some ((pf67 false 3).2, σ) := run_ofT (by kernel_rfl)
theorem f67_0_4 : ∃ σ, callN TA 60 67 (pf67 false 4).1 [] = some ((pf67 false 4).2, σ) := run_ofT (by kernel_rfl)
theorem f67_0_5 : ∃ σ, callN TA 60 67 (pf67 false 5).1 [] = some ((pf67 false 5).2, σ) := run_ofT (by kernel_rfl)
theorem f67_0_6 : ∃ σ, callN TA 60 67 (pf67 false 6).1 [] = some ((pf67 false 6).2, σ) := run_ofT (by kernel_rfl)
theorem f67_0_7 : ∃ σ, callN TA 60 67 (pf67 false 7).1 [] = some ((pf67 false 7).2, σ) := run_ofT (by kernel_rfl)
theorem f67_0_8 : ∃ σ, callN TA 60 67 (pf67 false 8).1 [] = some ((pf67 false 8).2, σ) := run_ofT (by kernel_rfl)
theorem f67_0_9 : ∃ σ, callN TA 60 67 (pf67 false 9).1 [] = some ((pf67 false 9).2, σ) := run_ofT (by kernel_rfl)
theorem f67_0_10 : ∃ σ, callN TA 60 67 (pf67 false 10).1 [] = some ((pf67 false 10).2, σ) := run_ofT (by kernel_rfl)
theorem f67_0_11 : ∃ σ, callN TA 60 67 (pf67 false 11).1 [] = some ((pf67 false 11).2, σ) := run_ofT (by kernel_rfl)
theorem f67_0_12 : ∃ σ, callN TA 60 67 (pf67 false 12).1 [] = some ((pf67 false 12).2, σ) := run_ofT (by kernel_rfl)
theorem f67_0_13 : ∃ σ, callN TA 60 67 (pf67 false 13).1 [] = some ((pf67 false 13).2, σ) := run_ofT (by kernel_rfl)
theorem f67_0_14 : ∃ σ, callN TA 60 67 (pf67 false 14).1 [] = some ((pf67 false 14).2, σ) := run_ofT (by kernel_rfl)
theorem f67_0 : ∀ e ∈ factsB false pf67, FOKP TA 60 67 e := by
  intro e he
  obtain ⟨i, hi, rfl⟩ := List.mem_map.1 he
  have hi := List.mem_range.1 hi
  match i, hi with
  | 0, _ => exact ⟨f67_0_0, by kernel_rfl, fun σ => by kernel_rfl, fun σ => by kernel_rfl, by kernel_rfl, by kernel_rfl⟩
  | 1, _ => exact ⟨f67_0_1, by kernel_rfl, fun σ => by kernel_rfl, fun σ => by kernel_rfl, by kernel_rfl, by kernel_rfl⟩
  | 2, _ => exact ⟨f67_0_2, by kernel_rfl, fun σ => by kernel_rfl, fun σ => by kernel_rfl, by kernel_rfl, by kernel_rfl⟩
  | 3, _ => exact ⟨f67_0_3, by kernel_rfl, fun σ => by kernel_rfl, fun σ => by kernel_rfl, by kernel_rfl, by kernel_rfl⟩
  | 4, _ => exact ⟨f67_0_4, by kernel_rfl, fun σ => by kernel_rfl, fun σ => by kernel_rfl, by kernel_rfl, by kernel_rfl⟩
  | 5, _ => exact ⟨f67_0_5, by kernel_rfl, fun σ => by kernel_rfl, fun σ => by kernel_rfl, by kernel_rfl, by kernel_rfl⟩
  | 6, _ => exact ⟨f67_0_6, by kernel_rfl, fun σ => by kernel_rfl, fun σ => by kernel_rfl, by kernel_rfl, by kernel_rfl⟩
  | 7, _ => exact ⟨f67_0_7, by kernel_rfl, fun σ => by kernel_rfl, fun σ => by kernel_rfl, by kernel_rfl, by kernel_rfl⟩
  | 8, _ => exact ⟨f67_0_8, by kernel_rfl, fun σ => by kernel_rfl, fun σ => by kernel_rfl, by kernel_rfl, by kernel_rfl⟩
  | 9, _ => exact ⟨f67_0_9, by kernel_rfl, fun σ => by kernel_rfl, fun σ => by kernel_rfl, by kernel_rfl, by kernel_rfl⟩
  | 10, _ => exact ⟨f67_0_10, by kernel_rfl, fun σ => by kernel_rfl, fun σ => by kernel_rfl, by kernel_rfl, by kernel_rfl⟩
  | 11, _ => exact ⟨f67_0_11, by kernel_rfl, fun σ => by kernel_rfl, fun σ => by kernel_rfl, by kernel_rfl, by kernel_rfl⟩
  | 12, _ => exact ⟨f67_0_12, by kernel_rfl, fun σ => by kernel_rfl, fun σ => by kernel_rfl, by kernel_rfl, by kernel_rfl⟩
  | 13, _ => exact ⟨f67_0_13, by kernel_rfl, fun σ => by kernel_rfl, fun σ => by kernel_rfl, by kernel_rfl, by kernel_rfl⟩
  | 14, _ => exact ⟨f67_0_14, by kernel_rfl, fun σ => by kernel_rfl, fun σ => by kernel_rfl, by kernel_rfl, by kernel_rfl⟩
end Go.Abs.T

/-
  Policies and names of the law, told by closed runs.
-/
namespace Go.Abs.T
open Go Go.Abs Go.Proofs
set_option maxRecDepth 100000
theorem f13_1_0 : callN T 21 13 (nf0 true 0).1.1 (nf0 true 0).1.2 = some (nf0 true 0).2 := callN_of_fast (by kernel_rfl)
theorem f13_1_1 : callN T 21 13 (nf0 true 1).1.1 (nf0 true 1).1.2 = some (nf0 true 1).2 := callN_of_fast (by kernel_rfl)
theorem f13_1_2 : callN T 21 13 (nf0 true 2).1.1 (nf0 true 2).1.2 = some (nf0 true 2).2 := callN_of_fast (by kernel_rfl)
theorem f13_1_3 : callN T 21 13 (nf0 true 3).1.1 (nf0 true 3).1.2 = some (nf0 true 3).2 := callN_of_fast (by kernel_rfl)
theorem f13_1_4 : callN T 21 13 (nf0 true 4).1.1 (nf0 true 4).1.2 = some (nf0 true 4).2 := callN_of_fast (by kernel_rfl)
theorem f13_1_5 : callN T 21 13 (nf0 true 5).1.1 (nf0 true 5).1.2 = some (nf0 true 5).2 := callN_of_fast (by kernel_rfl)
theorem f13_1_6 : callN T 21 13 (nf0 true 6).1.1 (nf0 true 6).1.2 = some (nf0 true 6).2 := callN_of_fast (by kernel_rfl)
theorem f13_1_7 : callN T 21 13 (nf0 true 7).1.1 (nf0 true 7).1.2 = some (nf0 true 7).2 := callN_of_fast (by kernel_rfl)
theorem f13_1_8 : callN T 21 13 (nf0 true 8).1.1 (nf0 true 8).1.2 = some (nf0 true 8).2 := callN_of_fast (by kernel_rfl)
theorem f13_1_9 : callN T 21 13 (nf0 true 9).1.1 (nf0 true 9).1.2 = some (nf0 true 9).2 := callN_of_fast (by kernel_rfl)
theorem f13_1_10 : callN T 21 13 (nf0 true 10).1.1 (nf0 true 10).1.2 = some (nf0 true 10).2 := callN_of_fast (by kernel_rfl)
theorem f13_1_11 : callN T 21 13 (nf0 true 11).1.1 (nf0 true 11).1.2 = some (nf0 true 11).2 := callN_of_fast (by kernel_rfl)
theorem f13_1_12 : callN T 21 13 (nf0 true 12).1.1 (nf0 true 12).1.2 = some (nf0 true 12).2 := callN_of_fast (by kernel_rfl)
theorem f13_1_13 : callN T 21 13 (nf0 true 13).1.1 (nf0 true 13).1.2 = some (nf0 true 13).2 := callN_of_fast (by kernel_rfl)
theorem f13_1_14 : callN T 21 13 (nf0 true 14).1.1 (nf0 true 14).1.2 = some (nf0 true 14).2 := callN_of_fast (by kernel_rfl)
theorem f13_1 : ∀ e ∈ facts13 true, FOK0 e := by
  intro e he
  obtain ⟨i, hi, rfl⟩ := List.mem_map.1 he
  have hi := List.mem_range.1 hi
  match i, hi with
  | 0, _ => exact ⟨by kernel_rfl, f13_1_0, by kernel_rfl, by kernel_rfl⟩
  | 1, _ => exact ⟨by kernel_rfl, f13_1_1, by kernel_rfl, by kernel_rfl⟩
  | 2, _ => exact ⟨by kernel_rfl, f13_1_2, by kernel_rfl, by kernel_rfl⟩
  | 3, _ => exact ⟨by kernel_rfl, f13_1_3, by kernel_rfl, by kernel_rfl⟩
  | 4, _ => exact ⟨by kernel_rfl, f13_1_4, by kernel_rfl, by kernel_rfl⟩
  | 5, _ => exact ⟨by kernel_rfl, f13_1_5, by kernel_rfl, by kernel_rfl⟩
  | 6, _ => exact ⟨by kernel_rfl, f13_1_6, by kernel_rfl, by kernel_rfl⟩
  | 7, _ => exact ⟨by kernel_rfl, f13_1_7, by kernel_rfl, by kernel_rfl⟩
  | 8, _ => exact ⟨by kernel_rfl, f13_1_8, by kernel_rfl, by kernel_rfl⟩
  | 9, _ => exact ⟨by kernel_rfl, f13_1_9, by kernel_rfl, by kernel_rfl⟩
  | 10, _ => exact ⟨by kernel_rfl, f13_1_10, by kernel_rfl, by kernel_rfl⟩
  | 11, _ => exact ⟨by kernel_rfl, f13_1_11, by kernel_rfl, by kernel_rfl⟩
  | 12, _ => exact ⟨by kernel_rfl, f13_1_12, by kernel_rfl, by kernel_rfl⟩
  | 13, _ => exact ⟨by kernel_rfl, f13_1_13, by kernel_rfl, by kernel_rfl⟩
  | 14, _ => exact ⟨by kernel_rfl, f13_1_14, by kernel_rfl, by kernel_rfl⟩
theorem f28_1_0 : ∃ σ, callN TA 60 28 (pf28 true 0).1 [] = some ((pf28 true 0).2, σ) := run_ofT (by kernel_rfl)
theorem f28_1_1 : ∃ σ, callN TA 60 28 (pf28 true 1).1 [] = some ((pf28 true 1).2, σ) := run_ofT (by kernel_rfl)
theorem f28_1_2 : ∃ σ, callN TA 60 28 (pf28 true 2).1 [] = some ((pf28 true 2).2, σ) := run_ofT (by kernel_rfl)
theorem f28_1_3 : ∃ σ, callN TA 60 28 (pf28 true 3).1 [] = some ((pf28 true 3).2, σ) := run_ofT (by kernel_rfl)
theorem f28_1_4 : ∃ σ, callN TA 60 28 (pf28 true 4).1 [] = some ((pf28 true 4).2, σ) := run_ofT (by kernel_rfl)
theorem f28_1_5 : ∃ σ, callN TA 60 28 (pf28 true 5).1 [] = some ((pf28 true 5).2, σ) := run_ofT (by kernel_rfl)
theorem f28_1_6 : ∃ σ, callN TA 60 28 (pf28 true 6).1 [] = some ((pf28 true 6).2, σ) := run_ofT (by kernel_rfl)
theorem f28_1_7 : ∃ σ, callN TA 60 28 (pf28 true 7).1 [] = some ((pf28 true 7).2, σ) := run_ofT (by kernel_rfl)
theorem f28_1_8 : ∃ σ, callN TA 60 28 (pf28 true 8).1 [] = some ((pf28 true 8).2, σ) := run_ofT (by kernel_rfl)
theorem f28_1_9 : ∃ σ, callN TA 60 28 (pf28 true 9).1 [] = some ((pf28 true 9).2, σ) := run_ofT (by kernel_rfl)
theorem f28_1_10 : ∃ σ, callN TA 60 28 (pf28 true 10).1 [] = some ((pf28 true 10).2, σ) := run_ofT (by kernel_rfl)
theorem f28_1_11 : ∃ σ, callN TA 60 28 (pf28 true 11).1 [] = some ((pf28 true 11).2, σ) := run_ofT (by kernel_rfl)
theorem f28_1_12 : ∃ σ, callN TA 60 28 (pf28 true 12).1 [] = some ((pf28 true 12).2, σ) := run_ofT (by kernel_rfl)
theorem f28_1_13 : ∃ σ, callN TA 60 28 (pf28 true 13).1 [] = some ((pf28 true 13).2, σ) := run_ofT (by kernel_rfl)
theorem f28_1_14 : ∃ σ, callN TA 60 28 (pf28 true 14).1 [] = some ((pf28 true 14).2, σ) := run_ofT (by kernel_rfl)
theorem f28_1 : ∀ e ∈ factsB true pf28, FOKP TA 60 28 e := by
  intro e he
  obtain ⟨i, hi, rfl⟩ := List.mem_map.1 he
  have hi := List.mem_range.1 hi
  match i, hi with
  | 0, _ => exact ⟨f28_1_0, by kernel_rfl, fun σ => by kernel_rfl, fun σ => by kernel_rfl, by kernel_rfl, by kernel_rfl⟩
  | 1, _ => exact ⟨f28_1_1, by kernel_rfl, fun σ => by kernel_rfl, fun σ => by kernel_rfl, by kernel_rfl, by kernel_rfl⟩
  | 2, _ => exact ⟨f28_1_2, by kernel_rfl, fun σ => by kernel_rfl, fun σ => by kernel_rfl, by kernel_rfl, by kernel_rfl⟩
  | 3, _ => exact ⟨f28_1_3, by kernel_rfl, fun σ => by kernel_rfl, fun σ => by kernel_rfl, by kernel_rfl, by kernel_rfl⟩
  | 4, _ => exact ⟨f28_1_4, by kernel_rfl, fun σ => by kernel_rfl, fun σ => by kernel_rfl, by kernel_rfl, by kernel_rfl⟩
  | 5, _ => exact ⟨f28_1_5, by kernel_rfl, fun σ => by kernel_rfl, fun σ => by kernel_rfl, by kernel_rfl, by kernel_rfl⟩
  | 6, _ => exact ⟨f28_1_6, by kernel_rfl, fun σ => by kernel_rfl, fun σ => by kernel_rfl, by kernel_rfl, by kernel_rfl⟩
  | 7, _ => exact ⟨f28_1_7, by kernel_rfl, fun σ => by kernel_rfl, fun σ => by kernel_rfl, by kernel_rfl, by kernel_rfl⟩
  | 8, _ => exact ⟨f28_1_8, by kernel_rfl, fun σ => by kernel_rfl, fun σ => by kernel_rfl, by kernel_rfl, by kernel_rfl⟩
  | 9, _ => exact ⟨f28_1_9, by kernel_rfl, fun σ => by kernel_rfl, fun σ => by kernel_rfl, by kernel_rfl, by kernel_rfl⟩
  | 10, _ => exact ⟨f28_1_10, by kernel_rfl, fun σ => by kernel_rfl, fun σ => by kernel_rfl, by kernel_rfl, by kernel_rfl⟩
  | 11, _ => exact ⟨f28_1_11, by kernel_rfl, fun σ => by kernel_rfl, fun σ => by kernel_rfl, by kernel_rfl, by kernel_rfl⟩
  | 12, _ => exact ⟨f28_1_12, by kernel_rfl, fun σ => by kernel_rfl, fun σ => by kernel_rfl, by kernel_rfl, by kernel_rfl⟩
  | 13, _ => exact ⟨f28_1_13, by kernel_rfl, fun σ => by kernel_rfl, fun σ => by kernel_rfl, by kernel_rfl, by kernel_rfl⟩
  | 14, _ => exact ⟨f28_1_14, by kernel_rfl, fun σ => by kernel_rfl, fun σ => by kernel_rfl, by kernel_rfl, by kernel_rfl⟩
theorem f67_1_0 : ∃ σ, callN TA 60 67 (pf67 true 0).1 [] = some ((pf67 true 0).2, σ) := run_ofT (by kernel_rfl)
theorem f67_1_1 : ∃ σ, callN TA 60 67 (pf67 true 1).1 [] = some ((pf67 true 1).2, σ) := run_ofT (by kernel_rfl)
theorem f67_1_2 : ∃ σ, callN TA 60 67 (pf67 true 2).1 [] = some ((pf67 true 2).2, σ) := run_ofT (by kernel_rfl)
theorem f67_1_3 : ∃ σ, callN TA 60 67 (pf67 true 3).1 [] = some ((pf67 true 3).2, σ) := run_ofT (by kernel_rfl)
theorem f67_1_4 : ∃ σ, callN TA 60 67 (pf67 true 4).1 [] = some ((pf67 true 4).2, σ) := run_ofT (by kernel_rfl)
theorem f67_1_5 : ∃ σ, callN TA 60 67 (pf67 true 5).1 [] = some ((pf67 true 5).2, σ) := run_ofT (by kernel_rfl)
theorem f67_1_6 : ∃ σ, callN TA 60 67 (pf67 true 6).1 [] = some ((pf67 true 6).2, σ) := run_ofT (by kernel_rfl)
theorem f67_1_7 : ∃ σ, callN TA 60 67 (pf67 true 7).1 [] = some ((pf67 true 7).2, σ) := run_ofT (by kernel_rfl)
theorem f67_1_8 : ∃ σ, callN TA 60 67 (pf67 true 8).1 [] = some ((pf67 true 8).2, σ) := run_ofT (by kernel_rfl)
theorem f67_1_9 : ∃ σ, callN TA 60 67 (pf67 true 9).1 [] = some ((pf67 true 9).2, σ) := run_ofT (by kernel_rfl)
theorem f67_1_10 : ∃ σ, callN TA 60 67 (pf67 true 10).1 [] = some ((pf67 true 10).2, σ) := run_ofT (by kernel_rfl)
theorem f67_1_11 : ∃ σ, callN TA 60 67 (pf67 true 11).1 [] = some ((pf67 true 11).2, σ) := run_ofT (by kernel_rfl)
theorem f67_1_12 : ∃ σ, callN TA 60 67 (pf67 true 12).1 [] = some ((pf67 true 12).2, σ) := run_ofT (by kernel_rfl)
theorem f67_1_13 : ∃ σ, callN TA 60 67 (pf67 true 13).1 [] = some ((pf67 true 13).2, σ) := run_ofT (by kernel_rfl)
theorem f67_1_14 : ∃ σ, callN TA 60 67 (pf67 true 14).1 [] = some ((pf67 true 14).2, σ) := run_ofT (by kernel_rfl)
theorem f67_1 : ∀ e ∈ factsB true pf67, FOKP TA 60 67 e := by
  intro e he
  obtain ⟨i, hi, rfl⟩ := List.mem_map.1 he
  have hi := List.mem_range.1 hi
  match i, hi with
  | 0, _ => exact ⟨f67_1_0, by kernel_rfl, fun σ => by kernel_rfl, fun σ => by kernel_rfl, by kernel_rfl, by kernel_rfl⟩
  | 1, _ => exact ⟨f67_1_1, by kernel_rfl, fun σ => by kernel_rfl, fun σ => by kernel_rfl, by kernel_rfl, by kernel_rfl⟩
  | 2, _ => exact ⟨f67_1_2, by kernel_rfl, fun σ => by kernel_rfl, fun σ => by kernel_rfl, by kernel_rfl, by kernel_rfl⟩
  | 3, _ => exact ⟨f67_1_3, by kernel_rfl, fun σ => by kernel_rfl, fun σ => by kernel_rfl, by kernel_rfl, by kernel_rfl⟩
  | 4, _ => exact ⟨f67_1_4, by kernel_rfl, fun σ => by kernel_rfl, fun σ => by kernel_rfl, by kernel_rfl, by kernel_rfl⟩
  | 5, _ => exact ⟨f67_1_5, by kernel_rfl, fun σ => by kernel_rfl, fun σ => by kernel_rfl, by kernel_rfl, by kernel_rfl⟩
  | 6, _ => exact ⟨f67_1_6, by kernel_rfl, fun σ => by kernel_rfl, fun σ => by kernel_rfl, by kernel_rfl, by kernel_rfl⟩
  | 7, _ => exact ⟨f67_1_7, by kernel_rfl, fun σ => by kernel_rfl, fun σ => by kernel_rfl, by kernel_rfl, by kernel_rfl⟩
  | 8, _ => exact ⟨f67_1_8, by kernel_rfl, fun σ => by kernel_rfl, fun σ => by kernel_rfl, by kernel_rfl, by kernel_rfl⟩
  | 9, _ => exact ⟨f67_1_9, by kernel_rfl, fun σ => by kernel_rfl, fun σ => by kernel_rfl, by kernel_rfl, by kernel_rfl⟩
  | 10, _ => exact ⟨f67_1_10, by kernel_rfl, fun σ => by kernel_rfl, fun σ => by kernel_rfl, by kernel_rfl, by kernel_rfl⟩
  | 11, _ => exact ⟨f67_1_11, by kernel_rfl, fun σ => by kernel_rfl, fun σ => by kernel_rfl, by kernel_rfl, by kernel_rfl⟩
  | 12, _ => exact ⟨f67_1_12, by kernel_rfl, fun σ => by kernel_rfl, fun σ => by kernel_rfl, by kernel_rfl, by kernel_rfl⟩
  | 13, _ => exact ⟨f67_1_13, by kernel_rfl, fun σ => by kernel_rfl, fun σ => by kernel_rfl, by kernel_rfl, by kernel_rfl⟩
  | 14, _ => exact ⟨f67_1_14, by kernel_rfl, fun σ => by kernel_rfl, fun σ => by kernel_rfl, by kernel_rfl, by kernel_rfl⟩
end Go.Abs.T
