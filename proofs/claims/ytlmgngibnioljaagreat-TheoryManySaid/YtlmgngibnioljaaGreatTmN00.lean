import Derived.Test.YtlmgngibnioljaaGreatTmR2
import Derived.KernelRfl
set_option linter.unusedVariables false
set_option linter.unusedSimpArgs false
/-
  Names, and what is so of a side, told by closed runs.
-/
namespace Go.Abs.T
open Go Go.Abs Go.Proofs
set_option maxRecDepth 100000
theorem n14_0_1 : ∀ e ∈ facts14 false 1, FOK e := by
  intro e he
  replace he : e ∈ [nf1 false 1, nf2 false 1, nf3 false 1, nf4 false 1, nf5 false 1] := he
  simp only [List.mem_cons, List.not_mem_nil, or_false] at he
  rcases he with rfl | rfl | rfl | rfl | rfl
  · exact fok_of (by kernel_rfl) (by kernel_rfl) (by kernel_rfl) (by kernel_rfl)
  · exact fok_of (by kernel_rfl) (by kernel_rfl) (by kernel_rfl) (by kernel_rfl)
  · exact fok_of (by kernel_rfl) (by kernel_rfl) (by kernel_rfl) (by kernel_rfl)
  · exact fok_of (by kernel_rfl) (by kernel_rfl) (by kernel_rfl) (by kernel_rfl)
  · exact fok_of (by kernel_rfl) (by kernel_rfl) (by kernel_rfl) (by kernel_rfl)
theorem n22_0_1 : ∀ e ∈ facts22 false 1, FOK2 e := by
  intro e he
  replace he : e ∈ [nf6 false 1, nf7 false 1] := he
  simp only [List.mem_cons, List.not_mem_nil, or_false] at he
  rcases he with rfl | rfl
  · exact fok2_of (by kernel_rfl) (by kernel_rfl) (by kernel_rfl) (by kernel_rfl)
  · exact fok2_of (by kernel_rfl) (by kernel_rfl) (by kernel_rfl) (by kernel_rfl)
theorem n14_0_2 : ∀ e ∈ facts14 false 2, FOK e := by
  intro e he
  replace he : e ∈ [nf1 false 2, nf2 false 2, nf3 false 2, nf4 false 2, nf5 false 2] := he
  simp only [List.mem_cons, List.not_mem_nil, or_false] at he
  rcases he with rfl | rfl | rfl | rfl | rfl
  · exact fok_of (by kernel_rfl) (by kernel_rfl) (by kernel_rfl) (by kernel_rfl)
  · exact fok_of (by kernel_rfl) (by kernel_rfl) (by kernel_rfl) (by kernel_rfl)
  · exact fok_of (by kernel_rfl) (by kernel_rfl) (by kernel_rfl) (by kernel_rfl)
  · exact fok_of (by kernel_rfl) (by kernel_rfl) (by kernel_rfl) (by kernel_rfl)
  · exact fok_of (by kernel_rfl) (by kernel_rfl) (by kernel_rfl) (by kernel_rfl)
theorem n22_0_2 : ∀ e ∈ facts22 false 2, FOK2 e := by
  intro e he
  replace he : e ∈ [nf6 false 2, nf7 false 2] := he
  simp only [List.mem_cons, List.not_mem_nil, or_false] at he
  rcases he with rfl | rfl
  · exact fok2_of (by kernel_rfl) (by kernel_rfl) (by kernel_rfl) (by kernel_rfl)
  · exact fok2_of (by kernel_rfl) (by kernel_rfl) (by kernel_rfl) (by kernel_rfl)
theorem n14_0_3 : ∀ e ∈ facts14 false 3, FOK e := by
  intro e he
  replace he : e ∈ [nf1 false 3, nf2 false 3, nf3 false 3, nf4 false 3, nf5 false 3] := he
  simp only [List.mem_cons, List.not_mem_nil, or_false] at he
  rcases he with rfl | rfl | rfl | rfl | rfl
  · exact fok_of (by kernel_rfl) (by kernel_rfl) (by kernel_rfl) (by kernel_rfl)
  · exact fok_of (by kernel_rfl) (by kernel_rfl) (by kernel_rfl) (by kernel_rfl)
  · exact fok_of (by kernel_rfl) (by kernel_rfl) (by kernel_rfl) (by kernel_rfl)
  · exact fok_of (by kernel_rfl) (by kernel_rfl) (by kernel_rfl) (by kernel_rfl)
  · exact fok_of (by kernel_rfl) (by kernel_rfl) (by kernel_rfl) (by kernel_rfl)
theorem n22_0_3 : ∀ e ∈ facts22 false 3, FOK2 e := by
  intro e he
  replace he : e ∈ [nf6 false 3, nf7 false 3] := he
  simp only [List.mem_cons, List.not_mem_nil, or_false] at he
  rcases he with rfl | rfl
  · exact fok2_of (by kernel_rfl) (by kernel_rfl) (by kernel_rfl) (by kernel_rfl)
  · exact fok2_of (by kernel_rfl) (by kernel_rfl) (by kernel_rfl) (by kernel_rfl)
theorem n14_0_4 : ∀ e ∈ facts14 false 4, FOK e := by
  intro e he
  replace he : e ∈ [nf1 false 4, nf2 false 4, nf3 false 4, nf4 false 4, nf5 false 4] := he
  simp only [List.mem_cons, List.not_mem_nil, or_false] at he
  rcases he with rfl | rfl | rfl | rfl | rfl
  · exact fok_of (by kernel_rfl) (by kernel_rfl) (by kernel_rfl) (by kernel_rfl)
  · exact fok_of (by kernel_rfl) (by kernel_rfl) (by kernel_rfl) (by kernel_rfl)
  · exact fok_of (by kernel_rfl) (by kernel_rfl) (by kernel_rfl) (by kernel_rfl)
  · exact fok_of (by kernel_rfl) (by kernel_rfl) (by kernel_rfl) (by kernel_rfl)
  · exact fok_of (by kernel_rfl) (by kernel_rfl) (by kernel_rfl) (by kernel_rfl)
theorem n22_0_4 : ∀ e ∈ facts22 false 4, FOK2 e := by
  intro e he
  replace he : e ∈ [nf6 false 4, nf7 false 4] := he
  simp only [List.mem_cons, List.not_mem_nil, or_false] at he
  rcases he with rfl | rfl
  · exact fok2_of (by kernel_rfl) (by kernel_rfl) (by kernel_rfl) (by kernel_rfl)
  · exact fok2_of (by kernel_rfl) (by kernel_rfl) (by kernel_rfl) (by kernel_rfl)
theorem n14_0_5 : ∀ e ∈ facts14 false 5, FOK e := by
  intro e he
  replace he : e ∈ [nf1 false 5, nf2 false 5, nf3 false 5, nf4 false 5, nf5 false 5] := he
  simp only [List.mem_cons, List.not_mem_nil, or_false] at he
  rcases he with rfl | rfl | rfl | rfl | rfl
  · exact fok_of (by kernel_rfl) (by kernel_rfl) (by kernel_rfl) (by kernel_rfl)
  · exact fok_of (by kernel_rfl) (by kernel_rfl) (by kernel_rfl) (by kernel_rfl)
  · exact fok_of (by kernel_rfl) (by kernel_rfl) (by kernel_rfl) (by kernel_rfl)
  · exact fok_of (by kernel_rfl) (by kernel_rfl) (by kernel_rfl) (by kernel_rfl)
  · exact fok_of (by kernel_rfl) (by kernel_rfl) (by kernel_rfl) (by kernel_rfl)
theorem n22_0_5 : ∀ e ∈ facts22 false 5, FOK2 e := by
  intro e he
  replace he : e ∈ [nf6 false 5, nf7 false 5] := he
  simp only [List.mem_cons, List.not_mem_nil, or_false] at he
  rcases he with rfl | rfl
  · exact fok2_of (by kernel_rfl) (by kernel_rfl) (by kernel_rfl) (by kernel_rfl)
  · exact fok2_of (by kernel_rfl) (by kernel_rfl) (by kernel_rfl) (by kernel_rfl)
theorem n14_0_6 : ∀ e ∈ facts14 false 6, FOK e := by
  intro e he
  replace he : e ∈ [nf1 false 6, nf2 false 6, nf3 false 6, nf4 false 6, nf5 false 6] := he
  simp only [List.mem_cons, List.not_mem_nil, or_false] at he
  rcases he with rfl | rfl | rfl | rfl | rfl
  · exact fok_of (by kernel_rfl) (by kernel_rfl) (by kernel_rfl) (by kernel_rfl)
  · exact fok_of (by kernel_rfl) (by kernel_rfl) (by kernel_rfl) (by kernel_rfl)
  · exact fok_of (by kernel_rfl) (by kernel_rfl) (by kernel_rfl) (by kernel_rfl)
  · exact fok_of (by kernel_rfl) (by kernel_rfl) (by kernel_rfl) (by kernel_rfl)
  · exact fok_of (by kernel_rfl) (by kernel_rfl) (by kernel_rfl) (by kernel_rfl)
theorem n22_0_6 : ∀ e ∈ facts22 false 6, FOK2 e := by
  intro e he
  replace he : e ∈ [nf6 false 6, nf7 false 6] := he
  simp only [List.mem_cons, List.not_mem_nil, or_false] at he
  rcases he with rfl | rfl
  · exact fok2_of (by kernel_rfl) (by kernel_rfl) (by kernel_rfl) (by kernel_rfl)
  · exact fok2_of (by kernel_rfl) (by kernel_rfl) (by kernel_rfl) (by kernel_rfl)
end Go.Abs.T

/-
  Names, and what is so of a side, told by closed runs.
-/
namespace Go.Abs.T
open Go Go.Abs Go.Proofs
set_option maxRecDepth 100000
theorem n14_0_7 : ∀ e ∈ facts14 false 7, FOK e := by
  intro e he
  replace he : e ∈ [nf1 false 7, nf2 false 7, nf3 false 7, nf4 false 7, nf5 false 7] := he
  simp only [List.mem_cons, List.not_mem_nil, or_false] at he
  rcases he with rfl | rfl | rfl | rfl | rfl
  · exact fok_of (by kernel_rfl) (by kernel_rfl) (by kernel_rfl) (by kernel_rfl)
  · exact fok_of (by kernel_rfl) (by kernel_rfl) (by kernel_rfl) (by kernel_rfl)
  · exact fok_of (by kernel_rfl) (by kernel_rfl) (by kernel_rfl) (by kernel_rfl)
  · exact fok_of (by kernel_rfl) (by kernel_rfl) (by kernel_rfl) (by kernel_rfl)
  · exact fok_of (by kernel_rfl) (by kernel_rfl) (by kernel_rfl) (by kernel_rfl)
theorem n22_0_7 : ∀ e ∈ facts22 false 7, FOK2 e := by
  intro e he
  replace he : e ∈ [nf6 false 7, nf7 false 7] := he
  simp only [List.mem_cons, List.not_mem_nil, or_false] at he
  rcases he with rfl | rfl
  · exact fok2_of (by kernel_rfl) (by kernel_rfl) (by kernel_rfl) (by kernel_rfl)
  · exact fok2_of (by kernel_rfl) (by kernel_rfl) (by kernel_rfl) (by kernel_rfl)
theorem n14_0_8 : ∀ e ∈ facts14 false 8, FOK e := by
  intro e he
  replace he : e ∈ [nf1 false 8, nf2 false 8, nf3 false 8, nf4 false 8, nf5 false 8] := he
  simp only [List.mem_cons, List.not_mem_nil, or_false] at he
  rcases he with rfl | rfl | rfl | rfl | rfl
  · exact fok_of (by kernel_rfl) (by kernel_rfl) (by kernel_rfl) (by kernel_rfl)
  · exact fok_of (by kernel_rfl) (by kernel_rfl) (by kernel_rfl) (by kernel_rfl)
  · exact fok_of (by kernel_rfl) (by kernel_rfl) (by kernel_rfl) (by kernel_rfl)
  · exact fok_of (by kernel_rfl) (by kernel_rfl) (by kernel_rfl) (by kernel_rfl)
  · exact fok_of (by kernel_rfl) (by kernel_rfl) (by kernel_rfl) (by kernel_rfl)
theorem n22_0_8 : ∀ e ∈ facts22 false 8, FOK2 e := by
  intro e he
  replace he : e ∈ [nf6 false 8, nf7 false 8] := he
  simp only [List.mem_cons, List.not_mem_nil, or_false] at he
  rcases he with rfl | rfl
  · exact fok2_of (by kernel_rfl) (by kernel_rfl) (by kernel_rfl) (by kernel_rfl)
  · exact fok2_of (by kernel_rfl) (by kernel_rfl) (by kernel_rfl) (by kernel_rfl)
theorem n14_0_9 : ∀ e ∈ facts14 false 9, FOK e := by
  intro e he
  replace he : e ∈ [nf1 false 9, nf2 false 9, nf3 false 9, nf4 false 9, nf5 false 9] := he
  simp only [List.mem_cons, List.not_mem_nil, or_false] at he
  rcases he with rfl | rfl | rfl | rfl | rfl
  · exact fok_of (by kernel_rfl) (by kernel_rfl) (by kernel_rfl) (by kernel_rfl)
  · exact fok_of (by kernel_rfl) (by kernel_rfl) (by kernel_rfl) (by kernel_rfl)
  · exact fok_of (by kernel_rfl) (by kernel_rfl) (by kernel_rfl) (by kernel_rfl)
  · exact fok_of (by kernel_rfl) (by kernel_rfl) (by kernel_rfl) (by kernel_rfl)
  · exact fok_of (by kernel_rfl) (by kernel_rfl) (by kernel_rfl) (by kernel_rfl)
theorem n22_0_9 : ∀ e ∈ facts22 false 9, FOK2 e := by
  intro e he
  replace he : e ∈ [nf6 false 9, nf7 false 9] := he
  simp only [List.mem_cons, List.not_mem_nil, or_false] at he
  rcases he with rfl | rfl
  · exact fok2_of (by kernel_rfl) (by kernel_rfl) (by kernel_rfl) (by kernel_rfl)
  · exact fok2_of (by kernel_rfl) (by kernel_rfl) (by kernel_rfl) (by kernel_rfl)
end Go.Abs.T

/-
  Names, and what is so of a side, told by closed runs.
-/
namespace Go.Abs.T
open Go Go.Abs Go.Proofs
set_option maxRecDepth 100000
theorem n14_0_10 : ∀ e ∈ facts14 false 10, FOK e := by
  intro e he
  replace he : e ∈ [nf1 false 10, nf2 false 10, nf3 false 10, nf4 false 10, nf5 false 10] := he
  simp only [List.mem_cons, List.not_mem_nil, or_false] at he
  rcases he with rfl | rfl | rfl | rfl | rfl
  · exact fok_of (by kernel_rfl) (by kernel_rfl) (by kernel_rfl) (by kernel_rfl)
  · exact fok_of (by kernel_rfl) (by kernel_rfl) (by kernel_rfl) (by kernel_rfl)
  · exact fok_of (by kernel_rfl) (by kernel_rfl) (by kernel_rfl) (by kernel_rfl)
  · exact fok_of (by kernel_rfl) (by kernel_rfl) (by kernel_rfl) (by kernel_rfl)
  · exact fok_of (by kernel_rfl) (by kernel_rfl) (by kernel_rfl) (by kernel_rfl)
theorem n22_0_10 : ∀ e ∈ facts22 false 10, FOK2 e := by
  intro e he
  replace he : e ∈ [nf6 false 10, nf7 false 10] := he
  simp only [List.mem_cons, List.not_mem_nil, or_false] at he
  rcases he with rfl | rfl
  · exact fok2_of (by kernel_rfl) (by kernel_rfl) (by kernel_rfl) (by kernel_rfl)
  · exact fok2_of (by kernel_rfl) (by kernel_rfl) (by kernel_rfl) (by kernel_rfl)
theorem n14_0_11 : ∀ e ∈ facts14 false 11, FOK e := by
  intro e he
  replace he : e ∈ [nf1 false 11, nf2 false 11, nf3 false 11, nf4 false 11, nf5 false 11] := he
  simp only [List.mem_cons, List.not_mem_nil, or_false] at he
  rcases he with rfl | rfl | rfl | rfl | rfl
  · exact fok_of (by kernel_rfl) (by kernel_rfl) (by kernel_rfl) (by kernel_rfl)
  · exact fok_of (by kernel_rfl) (by kernel_rfl) (by kernel_rfl) (by kernel_rfl)
  · exact fok_of (by kernel_rfl) (by kernel_rfl) (by kernel_rfl) (by kernel_rfl)
  · exact fok_of (by kernel_rfl) (by kernel_rfl) (by kernel_rfl) (by kernel_rfl)
  · exact fok_of (by kernel_rfl) (by kernel_rfl) (by kernel_rfl) (by kernel_rfl)
theorem n22_0_11 : ∀ e ∈ facts22 false 11, FOK2 e := by
  intro e he
  replace he : e ∈ [nf6 false 11, nf7 false 11] := he
  simp only [List.mem_cons, List.not_mem_nil, or_false] at he
  rcases he with rfl | rfl
  · exact fok2_of (by kernel_rfl) (by kernel_rfl) (by kernel_rfl) (by kernel_rfl)
  · exact fok2_of (by kernel_rfl) (by kernel_rfl) (by kernel_rfl) (by kernel_rfl)
end Go.Abs.T

/-
  Names, and what is so of a side, told by closed runs.
-/
namespace Go.Abs.T
open Go Go.Abs Go.Proofs
set_option maxRecDepth 100000
theorem n14_0_12 : ∀ e ∈ facts14 false 12, FOK e := by
  intro e he
  replace he : e ∈ [nf1 false 12, nf2 false 12, nf3 false 12, nf4 false 12, nf5 false 12] := he
  simp only [List.mem_cons, List.not_mem_nil, or_false] at he
  rcases he with rfl | rfl | rfl | rfl | rfl
  · exact fok_of (by kernel_rfl) (by kernel_rfl) (by kernel_rfl) (by kernel_rfl)
  · exact fok_of (by kernel_rfl) (by kernel_rfl) (by kernel_rfl) (by kernel_rfl)
  · exact fok_of (by kernel_rfl) (by kernel_rfl) (by kernel_rfl) (by kernel_rfl)
  · exact fok_of (by kernel_rfl) (by kernel_rfl) (by kernel_rfl) (by kernel_rfl)
  · exact fok_of (by kernel_rfl) (by kernel_rfl) (by kernel_rfl) (by kernel_rfl)
theorem n22_0_12 : ∀ e ∈ facts22 false 12, FOK2 e := by
  intro e he
  replace he : e ∈ [nf6 false 12, nf7 false 12] := he
  simp only [List.mem_cons, List.not_mem_nil, or_false] at he
  rcases he with rfl | rfl
  · exact fok2_of (by kernel_rfl) (by kernel_rfl) (by kernel_rfl) (by kernel_rfl)
  · exact fok2_of (by kernel_rfl) (by kernel_rfl) (by kernel_rfl) (by kernel_rfl)
theorem n14_0_13 : ∀ e ∈ facts14 false 13, FOK e := by
  intro e he
  replace he : e ∈ [nf1 false 13] := he
  simp only [List.mem_cons, List.not_mem_nil, or_false] at he
  subst he
  exact fok_of (by kernel_rfl) (by kernel_rfl) (by kernel_rfl) (by kernel_rfl)
theorem n22_0_13 : ∀ e ∈ facts22 false 13, FOK2 e := by
  intro e he
  replace he : e ∈ [] := he
  cases he
theorem n14_0_14 : ∀ e ∈ facts14 false 14, FOK e := by
  intro e he
  replace he : e ∈ [nf1 false 14] := he
  simp only [List.mem_cons, List.not_mem_nil, or_false] at he
  subst he
  exact fok_of (by kernel_rfl) (by kernel_rfl) (by kernel_rfl) (by kernel_rfl)
theorem n22_0_14 : ∀ e ∈ facts22 false 14, FOK2 e := by
  intro e he
  replace he : e ∈ [] := he
  cases he
theorem n14_0_15 : ∀ e ∈ facts14 false 15, FOK e := by
  intro e he
  replace he : e ∈ [nf1 false 15] := he
  simp only [List.mem_cons, List.not_mem_nil, or_false] at he
  subst he
  exact fok_of (by kernel_rfl) (by kernel_rfl) (by kernel_rfl) (by kernel_rfl)
theorem n22_0_15 : ∀ e ∈ facts22 false 15, FOK2 e := by
  intro e he
  replace he : e ∈ [] := he
  cases he
end Go.Abs.T
