import Derived.Test.YtlmgngibnioljaaGreatTmR2
import Derived.KernelRfl
set_option linter.unusedVariables false
set_option linter.unusedSimpArgs false
/-
  Names, and what is so of a side, told by closed runs.
-/
namespace Go.Abs.T
open Go Go.Abs Go.Proofs
set_option maxRecDepth 100000
theorem n14_1_1 : ∀ e ∈ facts14 true 1, FOK e := by
  intro e he
  replace he : e ∈ [nf1 true 1, nf2 true 1, nf3 true 1, nf4 true 1, nf5 true 1] := he
  simp only [List.mem_cons, List.not_mem_nil, or_false] at he
  rcases he with rfl | rfl | rfl | rfl | rfl
  · exact fok_of (by kernel_rfl) (by kernel_rfl) (by kernel_rfl) (by kernel_rfl)
  · exact fok_of (by kernel_rfl) (by kernel_rfl) (by kernel_rfl) (by kernel_rfl)
  · exact fok_of (by kernel_rfl) (by kernel_rfl) (by kernel_rfl) (by kernel_rfl)
  · exact fok_of (by kernel_rfl) (by kernel_rfl) (by kernel_rfl) (by kernel_rfl)
  · exact fok_of (by kernel_rfl) (by kernel_rfl) (by kernel_rfl) (by kernel_rfl)
theorem n22_1_1 : ∀ e ∈ facts22 true 1, FOK2 e := by
  intro e he
  replace he : e ∈ [nf6 true 1, nf7 true 1] := he
  simp only [List.mem_cons, List.not_mem_nil, or_false] at he
  rcases he with rfl | rfl
  · exact fok2_of (by kernel_rfl) (by kernel_rfl) (by kernel_rfl) (by kernel_rfl)
  · exact fok2_of (by kernel_rfl) (by kernel_rfl) (by kernel_rfl) (by kernel_rfl)
theorem n14_1_2 : ∀ e ∈ facts14 true 2, FOK e := by
  intro e he
  replace he : e ∈ [nf1 true 2, nf2 true 2, nf3 true 2, nf4 true 2, nf5 true 2] := he
  simp only [List.mem_cons, List.not_mem_nil, or_false] at he
  rcases he with rfl | rfl | rfl | rfl | rfl
  · exact fok_of (by kernel_rfl) (by kernel_rfl) (by kernel_rfl) (by kernel_rfl)
  · exact fok_of (by kernel_rfl) (by kernel_rfl) (by kernel_rfl) (by kernel_rfl)
  · exact fok_of (by kernel_rfl) (by kernel_rfl) (by kernel_rfl) (by kernel_rfl)
  · exact fok_of (by kernel_rfl) (by kernel_rfl) (by kernel_rfl) (by kernel_rfl)
  · exact fok_of (by kernel_rfl) (by kernel_rfl) (by kernel_rfl) (by kernel_rfl)
theorem n22_1_2 : ∀ e ∈ facts22 true 2, FOK2 e := by
  intro e he
  replace he : e ∈ [nf6 true 2, nf7 true 2] := he
  simp only [List.mem_cons, List.not_mem_nil, or_false] at he
  rcases he with rfl | rfl
  · exact fok2_of (by kernel_rfl) (by kernel_rfl) (by kernel_rfl) (by kernel_rfl)
  · exact fok2_of (by kernel_rfl) (by kernel_rfl) (by kernel_rfl) (by kernel_rfl)
theorem n14_1_3 : ∀ e ∈ facts14 true 3, FOK e := by
  intro e he
  replace he : e ∈ [nf1 true 3, nf2 true 3, nf3 true 3, nf4 true 3, nf5 true 3] := he
  simp only [List.mem_cons, List.not_mem_nil, or_false] at he
  rcases he with rfl | rfl | rfl | rfl | rfl
  · exact fok_of (by kernel_rfl) (by kernel_rfl) (by kernel_rfl) (by kernel_rfl)
  · exact fok_of (by kernel_rfl) (by kernel_rfl) (by kernel_rfl) (by kernel_rfl)
  · exact fok_of (by kernel_rfl) (by kernel_rfl) (by kernel_rfl) (by kernel_rfl)
  · exact fok_of (by kernel_rfl) (by kernel_rfl) (by kernel_rfl) (by kernel_rfl)
  · exact fok_of (by kernel_rfl) (by kernel_rfl) (by kernel_rfl) (by kernel_rfl)
theorem n22_1_3 : ∀ e ∈ facts22 true 3, FOK2 e := by
  intro e he
  replace he : e ∈ [nf6 true 3, nf7 true 3] := he
  simp only [List.mem_cons, List.not_mem_nil, or_false] at he
  rcases he with rfl | rfl
  · exact fok2_of (by kernel_rfl) (by kernel_rfl) (by kernel_rfl) (by kernel_rfl)
  · exact fok2_of (by kernel_rfl) (by kernel_rfl) (by kernel_rfl) (by kernel_rfl)
theorem n14_1_4 : ∀ e ∈ facts14 true 4, FOK e := by
  intro e he
  replace he : e ∈ [nf1 true 4, nf2 true 4, nf3 true 4, nf4 true 4, nf5 true 4] := he
  simp only [List.mem_cons, List.not_mem_nil, or_false] at he
  rcases he with rfl | rfl | rfl | rfl | rfl
  · exact fok_of (by kernel_rfl) (by kernel_rfl) (by kernel_rfl) (by kernel_rfl)
  · exact fok_of (by kernel_rfl) (by kernel_rfl) (by kernel_rfl) (by kernel_rfl)
  · exact fok_of (by kernel_rfl) (by kernel_rfl) (by kernel_rfl) (by kernel_rfl)
  · exact fok_of (by kernel_rfl) (by kernel_rfl) (by kernel_rfl) (by kernel_rfl)
  · exact fok_of (by kernel_rfl) (by kernel_rfl) (by kernel_rfl) (by kernel_rfl)
theorem n22_1_4 : ∀ e ∈ facts22 true 4, FOK2 e := by
  intro e he
  replace he : e ∈ [nf6 true 4, nf7 true 4] := he
  simp only [List.mem_cons, List.not_mem_nil, or_false] at he
  rcases he with rfl | rfl
  · exact fok2_of (by kernel_rfl) (by kernel_rfl) (by kernel_rfl) (by kernel_rfl)
  · exact fok2_of (by kernel_rfl) (by kernel_rfl) (by kernel_rfl) (by kernel_rfl)
theorem n14_1_5 : ∀ e ∈ facts14 true 5, FOK e := by
  intro e he
  replace he : e ∈ [nf1 true 5, nf2 true 5, nf3 true 5, nf4 true 5, nf5 true 5] := he
  simp only [List.mem_cons, List.not_mem_nil, or_false] at he
  rcases he with rfl | rfl | rfl | rfl | rfl
  · exact fok_of (by kernel_rfl) (by kernel_rfl) (by kernel_rfl) (by kernel_rfl)
  · exact fok_of (by kernel_rfl) (by kernel_rfl) (by kernel_rfl) (by kernel_rfl)
  · exact fok_of (by kernel_rfl) (by kernel_rfl) (by kernel_rfl) (by kernel_rfl)
  · exact fok_of (by kernel_rfl) (by kernel_rfl) (by kernel_rfl) (by kernel_rfl)
  · exact fok_of (by kernel_rfl) (by kernel_rfl) (by kernel_rfl) (by kernel_rfl)
theorem n22_1_5 : ∀ e ∈ facts22 true 5, FOK2 e := by
  intro e he
  replace he : e ∈ [nf6 true 5, nf7 true 5] := he
  simp only [List.mem_cons, List.not_mem_nil, or_false] at he
  rcases he with rfl | rfl
  · exact fok2_of (by kernel_rfl) (by kernel_rfl) (by kernel_rfl) (by kernel_rfl)
  · exact fok2_of (by kernel_rfl) (by kernel_rfl) (by kernel_rfl) (by kernel_rfl)
theorem n14_1_6 : ∀ e ∈ facts14 true 6, FOK e := by
  intro e he
  replace he : e ∈ [nf1 true 6, nf2 true 6, nf3 true 6, nf4 true 6, nf5 true 6] := he
  simp only [List.mem_cons, List.not_mem_nil, or_false] at he
  rcases he with rfl | rfl | rfl | rfl | rfl
  · exact fok_of (by kernel_rfl) (by kernel_rfl) (by kernel_rfl) (by kernel_rfl)
  · exact fok_of (by kernel_rfl) (by kernel_rfl) (by kernel_rfl) (by kernel_rfl)
  · exact fok_of (by kernel_rfl) (by kernel_rfl) (by kernel_rfl) (by kernel_rfl)
  · exact fok_of (by kernel_rfl) (by kernel_rfl) (by kernel_rfl) (by kernel_rfl)
  · exact fok_of (by kernel_rfl) (by kernel_rfl) (by kernel_rfl) (by kernel_rfl)
theorem n22_1_6 : ∀ e ∈ facts22 true 6, FOK2 e := by
  intro e he
  replace he : e ∈ [nf6 true 6, nf7 true 6] := he
  simp only [List.mem_cons, List.not_mem_nil, or_false] at he
  rcases he with rfl | rfl
  · exact fok2_of (by kernel_rfl) (by kernel_rfl) (by kernel_rfl) (by kernel_rfl)
  · exact fok2_of (by kernel_rfl) (by kernel_rfl) (by kernel_rfl) (by kernel_rfl)
end Go.Abs.T

/-
  Names, and what is so of a side, told by closed runs.
-/
namespace Go.Abs.T
open Go Go.Abs Go.Proofs
set_option maxRecDepth 100000
theorem n14_1_7 : ∀ e ∈ facts14 true 7, FOK e := by
  intro e he
  replace he : e ∈ [nf1 true 7, nf2 true 7, nf3 true 7, nf4 true 7, nf5 true 7] := he
  simp only [List.mem_cons, List.not_mem_nil, or_false] at he
  rcases he with rfl | rfl | rfl | rfl | rfl
  · exact fok_of (by kernel_rfl) (by kernel_rfl) (by kernel_rfl) (by kernel_rfl)
  · exact fok_of (by kernel_rfl) (by kernel_rfl) (by kernel_rfl) (by kernel_rfl)
  · exact fok_of (by kernel_rfl) (by kernel_rfl) (by kernel_rfl) (by kernel_rfl)
  · exact fok_of (by kernel_rfl) (by kernel_rfl) (by kernel_rfl) (by kernel_rfl)
  · exact fok_of (by kernel_rfl) (by kernel_rfl) (by kernel_rfl) (by kernel_rfl)
theorem n22_1_7 : ∀ e ∈ facts22 true 7, FOK2 e := by
  intro e he
  replace he : e ∈ [nf6 true 7, nf7 true 7] := he
  simp only [List.mem_cons, List.not_mem_nil, or_false] at he
  rcases he with rfl | rfl
  · exact fok2_of (by kernel_rfl) (by kernel_rfl) (by kernel_rfl) (by kernel_rfl)
  · exact fok2_of (by kernel_rfl) (by kernel_rfl) (by kernel_rfl) (by kernel_rfl)
theorem n14_1_8 : ∀ e ∈ facts14 true 8, FOK e := by
  intro e he
  replace he : e ∈ [nf1 true 8, nf2 true 8, nf3 true 8, nf4 true 8, nf5 true 8] := he
  simp only [List.mem_cons, List.not_mem_nil, or_false] at he
  rcases he with rfl | rfl | rfl | rfl | rfl
  · exact fok_of (by kernel_rfl) (by kernel_rfl) (by kernel_rfl) (by kernel_rfl)
  · exact fok_of (by kernel_rfl) (by kernel_rfl) (by kernel_rfl) (by kernel_rfl)
  · exact fok_of (by kernel_rfl) (by kernel_rfl) (by kernel_rfl) (by kernel_rfl)
  · exact fok_of (by kernel_rfl) (by kernel_rfl) (by kernel_rfl) (by kernel_rfl)
  · exact fok_of (by kernel_rfl) (by kernel_rfl) (by kernel_rfl) (by kernel_rfl)
theorem n22_1_8 : ∀ e ∈ facts22 true 8, FOK2 e := by
  intro e he
  replace he : e ∈ [nf6 true 8, nf7 true 8] := he
  simp only [List.mem_cons, List.not_mem_nil, or_false] at he
  rcases he with rfl | rfl
  · exact fok2_of (by kernel_rfl) (by kernel_rfl) (by kernel_rfl) (by kernel_rfl)
  · exact fok2_of (by kernel_rfl) (by kernel_rfl) (by kernel_rfl) (by kernel_rfl)
theorem n14_1_9 : ∀ e ∈ facts14 true 9, FOK e := by
  intro e he
  replace he : e ∈ [nf1 true 9, nf2 true 9, nf3 true 9, nf4 true 9, nf5 true 9] := he
  simp only [List.mem_cons, List.not_mem_nil, or_false] at he
  rcases he with rfl | rfl | rfl | rfl | rfl
  · exact fok_of (by kernel_rfl) (by kernel_rfl) (by kernel_rfl) (by kernel_rfl)
  · exact fok_of (by kernel_rfl) (by kernel_rfl) (by kernel_rfl) (by kernel_rfl)
  · exact fok_of (by kernel_rfl) (by kernel_rfl) (by kernel_rfl) (by kernel_rfl)
  · exact fok_of (by kernel_rfl) (by kernel_rfl) (by kernel_rfl) (by kernel_rfl)
  · exact fok_of (by kernel_rfl) (by kernel_rfl) (by kernel_rfl) (by kernel_rfl)
theorem n22_1_9 : ∀ e ∈ facts22 true 9, FOK2 e := by
  intro e he
  replace he : e ∈ [nf6 true 9, nf7 true 9] := he
  simp only [List.mem_cons, List.not_mem_nil, or_false] at he
  rcases he with rfl | rfl
  · exact fok2_of (by kernel_rfl) (by kernel_rfl) (by kernel_rfl) (by kernel_rfl)
  · exact fok2_of (by kernel_rfl) (by kernel_rfl) (by kernel_rfl) (by kernel_rfl)
end Go.Abs.T

/-
  Names, and what is so of a side, told by closed runs.
-/
namespace Go.Abs.T
open Go Go.Abs Go.Proofs
set_option maxRecDepth 100000
theorem n14_1_10 : ∀ e ∈ facts14 true 10, FOK e := by
  intro e he
  replace he : e ∈ [nf1 true 10, nf2 true 10, nf3 true 10, nf4 true 10, nf5 true 10] := he
  simp only [List.mem_cons, List.not_mem_nil, or_false] at he
  rcases he with rfl | rfl | rfl | rfl | rfl
  · exact fok_of (by kernel_rfl) (by kernel_rfl) (by kernel_rfl) (by kernel_rfl)
  · exact fok_of (by kernel_rfl) (by kernel_rfl) (by kernel_rfl) (by kernel_rfl)
  · exact fok_of (by kernel_rfl) (by kernel_rfl) (by kernel_rfl) (by kernel_rfl)
  · exact fok_of (by kernel_rfl) (by kernel_rfl) (by kernel_rfl) (by kernel_rfl)
  · exact fok_of (by kernel_rfl) (by kernel_rfl) (by kernel_rfl) (by kernel_rfl)
theorem n22_1_10 : ∀ e ∈ facts22 true 10, FOK2 e := by
  intro e he
  replace he : e ∈ [nf6 true 10, nf7 true 10] := he
  simp only [List.mem_cons, List.not_mem_nil, or_false] at he
  rcases he with rfl | rfl
  · exact fok2_of (by kernel_rfl) (by kernel_rfl) (by kernel_rfl) (by kernel_rfl)
  · exact fok2_of (by kernel_rfl) (by kernel_rfl) (by kernel_rfl) (by kernel_rfl)
theorem n14_1_11 : ∀ e ∈ facts14 true 11, FOK e := by
  intro e he
  replace he : e ∈ [nf1 true 11, nf2 true 11, nf3 true 11, nf4 true 11, nf5 true 11] := he
  simp only [List.mem_cons, List.not_mem_nil, or_false] at he
  rcases he with rfl | rfl | rfl | rfl | rfl
  · exact fok_of (by kernel_rfl) (by kernel_rfl) (by kernel_rfl) (by kernel_rfl)
  · exact fok_of (by kernel_rfl) (by kernel_rfl) (by kernel_rfl) (by kernel_rfl)
  · exact fok_of (by kernel_rfl) (by kernel_rfl) (by kernel_rfl) (by kernel_rfl)
  · exact fok_of (by kernel_rfl) (by kernel_rfl) (by kernel_rfl) (by kernel_rfl)
  · exact fok_of (by kernel_rfl) (by kernel_rfl) (by kernel_rfl) (by kernel_rfl)
theorem n22_1_11 : ∀ e ∈ facts22 true 11, FOK2 e := by
  intro e he
  replace he : e ∈ [nf6 true 11, nf7 true 11] := he
  simp only [List.mem_cons, List.not_mem_nil, or_false] at he
  rcases he with rfl | rfl
  · exact fok2_of (by kernel_rfl) (by kernel_rfl) (by kernel_rfl) (by kernel_rfl)
  · exact fok2_of (by kernel_rfl) (by kernel_rfl) (by kernel_rfl) (by kernel_rfl)
end Go.Abs.T

/-
  Names, and what is so of a side, told by closed runs.
-/
namespace Go.Abs.T
open Go Go.Abs Go.Proofs
set_option maxRecDepth 100000
theorem n14_1_12 : ∀ e ∈ facts14 true 12, FOK e := by
  intro e he
  replace he : e ∈ [nf1 true 12, nf2 true 12, nf3 true 12, nf4 true 12, nf5 true 12] := he
  simp only [List.mem_cons, List.not_mem_nil, or_false] at he
  rcases he with rfl | rfl | rfl | rfl | rfl
  · exact fok_of (by kernel_rfl) (by kernel_rfl) (by kernel_rfl) (by kernel_rfl)
  · exact fok_of (by kernel_rfl) (by kernel_rfl) (by kernel_rfl) (by kernel_rfl)
  · exact fok_of (by kernel_rfl) (by kernel_rfl) (by kernel_rfl) (by kernel_rfl)
  · exact fok_of (by kernel_rfl) (by kernel_rfl) (by kernel_rfl) (by kernel_rfl)
  · exact fok_of (by kernel_rfl) (by kernel_rfl) (by kernel_rfl) (by kernel_rfl)
theorem n22_1_12 : ∀ e ∈ facts22 true 12, FOK2 e := by
  intro e he
  replace he : e ∈ [nf6 true 12, nf7 true 12] := he
  simp only [List.mem_cons, List.not_mem_nil, or_false] at he
  rcases he with rfl | rfl
  · exact fok2_of (by kernel_rfl) (by kernel_rfl) (by kernel_rfl) (by kernel_rfl)
  · exact fok2_of (by kernel_rfl) (by kernel_rfl) (by kernel_rfl) (by kernel_rfl)
theorem n14_1_13 : ∀ e ∈ facts14 true 13, FOK e := by
  intro e he
  replace he : e ∈ [nf1 true 13] := he
  simp only [List.mem_cons, List.not_mem_nil, or_false] at he
  subst he
  exact fok_of (by kernel_rfl) (by kernel_rfl) (by kernel_rfl) (by kernel_rfl)
theorem n22_1_13 : ∀ e ∈ facts22 true 13, FOK2 e := by
  intro e he
  replace he : e ∈ [] := he
  cases he
theorem n14_1_14 : ∀ e ∈ facts14 true 14, FOK e := by
  intro e he
  replace he : e ∈ [nf1 true 14] := he
  simp only [List.mem_cons, List.not_mem_nil, or_false] at he
  subst he
  exact fok_of (by kernel_rfl) (by kernel_rfl) (by kernel_rfl) (by kernel_rfl)
theorem n22_1_14 : ∀ e ∈ facts22 true 14, FOK2 e := by
  intro e he
  replace he : e ∈ [] := he
  cases he
theorem n14_1_15 : ∀ e ∈ facts14 true 15, FOK e := by
  intro e he
  replace he : e ∈ [nf1 true 15] := he
  simp only [List.mem_cons, List.not_mem_nil, or_false] at he
  subst he
  exact fok_of (by kernel_rfl) (by kernel_rfl) (by kernel_rfl) (by kernel_rfl)
theorem n22_1_15 : ∀ e ∈ facts22 true 15, FOK2 e := by
  intro e he
  replace he : e ∈ [] := he
  cases he
end Go.Abs.T
