/-
  A part of AnalyzeFew's proof.
-/
import Derived.Test.YthbfgdbbnapjeaaGreatCodeW
set_option linter.unusedVariables false
set_option linter.unusedSimpArgs false
namespace Go.Abs
open Go
variable {P : Program}
theorem argOf_one {t : TypeId} {x : D} (h : ArgOf P t x) (hn : ∀ fs, P.underlying t ≠ some (.struct fs)) (hn2 : ∀ n e, P.underlying t ≠ some (.array n e)) : Wf P t [x] := by
 unfold ArgOf at h
 split at h
 ·rename_i fs hu
  exact absurd hu (hn fs)
 ·rename_i n e hu
  exact absurd hu (hn2 n e)
 ·exact h
theorem wf_u8 {t : TypeId} {l : List D} (ht : P.underlying t = some (.int .u8)) (h : Wf P t l) : ∃ n, l = [.int .u8 n] ∧ 0 ≤ n ∧ n ≤ 255 := by
 cases h with
 | bool hu b => rw [ht] at hu; cases hu
 | int hu n hw =>
  rw [ht] at hu
  cases hu
  have h1 : IntKind.u8.min = 0 := rfl
  have h2 : IntKind.u8.max = 255 := rfl
  simp only [Lit.wf, Bool.and_eq_true, decide_eq_true_eq, h1, h2] at hw
  exact ⟨n, rfl, hw⟩
 | str hu s hs => rw [ht] at hu; cases hu
 | slice hu es hl hes => rw [ht] at hu; cases hu
 | struct hu parts hl hf => rw [ht] at hu; cases hu
 | array hu _ _ _ => rw [ht] at hu; cases hu
theorem arg_u8 {t : TypeId} {x : D} (ht : P.underlying t = some (.int .u8)) (h : ArgOf P t x) : ∃ n, x = .int .u8 n ∧ 0 ≤ n ∧ n ≤ 255 := by
 obtain ⟨n, h1, h2⟩ := wf_u8 ht (argOf_one h (fun fs hu => by rw [ht] at hu; cases hu) (fun n e hu => by rw [ht] at hu; cases hu))
 simp only [List.cons.injEq, and_true] at h1
 exact ⟨n, h1, h2⟩
theorem args_two {t0 t1 : TypeId} {xs : List D} (h : ArgsOf P [t0, t1] xs) : ∃ x0 x1, xs = [x0, x1] ∧ ArgOf P t0 x0 ∧ ArgOf P t1 x1 := by
 match xs, h with
 | [x0, x1], h => exact ⟨x0, x1, rfl, h.1, h.2.1⟩
end Go.Abs
