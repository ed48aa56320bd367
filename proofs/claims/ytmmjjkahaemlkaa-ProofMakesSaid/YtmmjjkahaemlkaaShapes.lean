/-
  What an argument is, by its type: Lean's own data.
-/
import Derived.Test.YtmmjjkahaemlkaaRow
import Derived.Test.YtmmjjkahaemlkaaRules
namespace Go.Abs
open Go
variable {P : Program}

theorem argOf_one {t : TypeId} {x : D} (h : ArgOf P t x) (hn : ∀ fs, P.underlying t ≠ some (.struct fs)) : Wf P t [x] := by
  unfold ArgOf at h
  split at h
  · rename_i fs hu
    exact absurd hu (hn fs)
  · exact h

theorem list_of {α : Type} {f : α → List D} {Q : α → Prop} {e : TypeId} : ∀ (es : List (List D)), (∀ x, Wf P e x → ∃ v, x = f v ∧ Q v) → (∀ x ∈ es, Wf P e x) → ∃ c : List α, es = c.map f ∧ ∀ v ∈ c, Q v
  | [], _, _ => ⟨[], rfl, fun _ h => by cases h⟩
  | x :: es, h, hw => by
    obtain ⟨v, rfl, hv⟩ := h x (hw _ (by simp))
    obtain ⟨c, rfl, hc⟩ := list_of es h (fun y hy => hw y (by simp [hy]))
    refine ⟨v :: c, rfl, fun w hw => ?_⟩
    rcases List.mem_cons.1 hw with rfl | h
    · exact hv
    · exact hc w h

theorem wf_sl {α : Type} {f : α → List D} {Q : α → Prop} {t e : TypeId} {x : D} (ht : P.underlying t = some (.slice e)) (he : ∀ x, Wf P e x → ∃ v, x = f v ∧ Q v) (h : Wf P t [x]) : ∃ c : List α, x = .sl (c.map f) none ∧ c.length ≤ maxLen ∧ ∀ v ∈ c, Q v := by
  generalize hx : [x] = l at h
  cases h with
  | bool hu b => rw [ht] at hu; cases hu
  | int hu n hw => rw [ht] at hu; cases hu
  | str hu s hs => rw [ht] at hu; cases hu
  | slice hu es hl hes =>
    rw [ht] at hu
    cases hu
    simp only [List.cons.injEq, and_true] at hx
    subst hx
    obtain ⟨c, rfl, hc⟩ := list_of es he hes
    exact ⟨c, rfl, by simpa using hl, hc⟩
  | struct hu parts hl hf => rw [ht] at hu; cases hu

def InI64 (n : Int) : Prop := -9223372036854775808 ≤ n ∧ n ≤ 9223372036854775807

theorem wf_i64 {t : TypeId} {l : List D} (ht : P.underlying t = some (.int .i64)) (h : Wf P t l) : ∃ n, l = eInt n ∧ InI64 n := by
  cases h with
  | bool hu b => rw [ht] at hu; cases hu
  | int hu n hw =>
    rw [ht] at hu
    cases hu
    have h1 : IntKind.i64.min = -9223372036854775808 := rfl
    have h2 : IntKind.i64.max = 9223372036854775807 := rfl
    simp only [Lit.wf, Bool.and_eq_true, decide_eq_true_eq, h1, h2] at hw
    exact ⟨n, rfl, hw⟩
  | str hu s hs => rw [ht] at hu; cases hu
  | slice hu es hl hes => rw [ht] at hu; cases hu
  | struct hu parts hl hf => rw [ht] at hu; cases hu

theorem wf_bool {t : TypeId} {l : List D} (ht : P.underlying t = some .bool) (h : Wf P t l) : ∃ b, l = [.bool b] := by
  cases h with
  | bool hu b => exact ⟨b, rfl⟩
  | int hu n hw => rw [ht] at hu; cases hu
  | str hu s hs => rw [ht] at hu; cases hu
  | slice hu es hl hes => rw [ht] at hu; cases hu
  | struct hu parts hl hf => rw [ht] at hu; cases hu

/-- An argument that is a number. -/
theorem arg_i64 {t : TypeId} {x : D} (ht : P.underlying t = some (.int .i64)) (h : ArgOf P t x) : ∃ n, x = .int .i64 n ∧ InI64 n := by
  obtain ⟨n, h1, h2⟩ := wf_i64 ht (argOf_one h (fun fs hu => by rw [ht] at hu; cases hu))
  simp only [eInt, List.cons.injEq, and_true] at h1
  exact ⟨n, h1, h2⟩

/-- An argument that is a row of numbers. -/
theorem arg_ints {t e : TypeId} {x : D} (ht : P.underlying t = some (.slice e)) (he : P.underlying e = some (.int .i64)) (h : ArgOf P t x) : ∃ a, x = .sl (ints a) none ∧ a.length ≤ maxLen ∧ ∀ n ∈ a, InI64 n :=
  wf_sl ht (fun l hl => wf_i64 he hl) (argOf_one h (fun fs hu => by rw [ht] at hu; cases hu))

theorem args_two {t0 t1 : TypeId} {xs : List D} (h : ArgsOf P [t0, t1] xs) : ∃ x0 x1, xs = [x0, x1] ∧ ArgOf P t0 x0 ∧ ArgOf P t1 x1 := by
  match xs, h with
  | [x0, x1], h => exact ⟨x0, x1, rfl, h.1, h.2.1⟩
theorem args_three {t0 t1 t2 : TypeId} {xs : List D} (h : ArgsOf P [t0, t1, t2] xs) : ∃ x0 x1 x2, xs = [x0, x1, x2] ∧ ArgOf P t0 x0 ∧ ArgOf P t1 x1 ∧ ArgOf P t2 x2 := by
  match xs, h with
  | [x0, x1, x2], h => exact ⟨x0, x1, x2, rfl, h.1, h.2.1, h.2.2.1⟩
theorem args_one {t0 : TypeId} {xs : List D} (h : ArgsOf P [t0] xs) : ∃ x0, xs = [x0] ∧ ArgOf P t0 x0 := by
  match xs, h with
  | [x0], h => exact ⟨x0, rfl, h.1⟩
end Go.Abs
