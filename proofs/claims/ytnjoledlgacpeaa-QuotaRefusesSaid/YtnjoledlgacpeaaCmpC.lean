import Derived.ProofKit
import Derived.WalkKit
import Derived.Laws.Cover1
import Derived.Deep.Draws
import Derived.Sort.Grow
import Derived.Test.YtnjoledlgacpeaaLineC
import Derived.Test.YtnjoledlgacpeaaNames
set_option linter.unusedVariables false
set_option linter.unusedSimpArgs false
/-
  What the sorts compare by: the names' bytes.
-/
namespace Go.Proofs.Ytnjoledlgacpeaa
open Go Go.RowKit Go.Sort

def cmpB (x y : List UInt8) : Int := Go.Abs.C.cmpB' x y
theorem isNaN41 (x : ByteArray) (w : World) : Calls Try.prog 41 #[.string x] w fun e w' => e = .returned (.bool false) ∧ w' = w := by
  go_enter Try.func41, Try.ntmps41
  go_wp2
  go_ret
  exact ⟨by simp, rfl⟩
theorem e41 : ∀ args w, (callFunc 41 args).run Try.prog w = .ok (.enter 41 args) w := Go.Abs.enter_run ⟨Try.f41, Try.f41.body.getD .skip, Try.func41, by kernel_rfl, by kernel_rfl⟩
theorem e27 : ∀ args w, (callFunc 27 args).run Try.prog w = .ok (.enter 27 args) w := Go.Abs.enter_run ⟨Try.f27, Try.f27.body.getD .skip, Try.func27, by kernel_rfl, by kernel_rfl⟩
set_option maxHeartbeats 1000000 in
theorem cmp27 (x y : ByteArray) (w : World) : Calls Try.prog 27 #[.string x, .string y] w fun e w' => e = .returned (.int .i64 (cmpB x.toList y.toList)) ∧ w' = w := by
  have h41 := isNaN41
  have e41 := e41
  go_enter Try.func27, Try.ntmps27
  go_wp2_with (go_at_call 41; refine (h41 _ _).mono ?_; rintro e w' ⟨rfl, hw⟩; rw [hw])
  all_goals (go_ret; refine ⟨?_, rfl⟩; unfold cmpB Go.Abs.C.cmpB'; simp_all)
theorem clos26 (x y : List Value) (s t : ByteArray) (hx : x.length = 4) (hy : y.length = 4) (hs : x[0]? = some (.string s)) (ht : y[0]? = some (.string t)) (h1 : ∀ v ∈ x, v.oneCell' = true) (h2 : ∀ v ∈ y, v.oneCell' = true) (W : World) : Calls Try.prog 26 #[.agg x.toArray, .agg y.toArray] W fun e w' => e = .returned (.int .i64 (cmpB s.toList t.toList)) ∧ ∃ q os', w' = grow (W.drewN q) os' := by
  obtain ⟨x0, x1, x2, x3, rfl⟩ : ∃ a b c d, x = [a, b, c, d] := by
    match x, hx with
    | [a, b, c, d], _ => exact ⟨a, b, c, d, rfl⟩
  obtain ⟨y0, y1, y2, y3, rfl⟩ : ∃ a b c d, y = [a, b, c, d] := by
    match y, hy with
    | [a, b, c, d], _ => exact ⟨a, b, c, d, rfl⟩
  simp only [List.getElem?_cons_zero, Option.some.injEq] at hs ht
  subst hs ht
  have hcon := fun W' => cmp27 s t W'
  generalize cmpB s.toList t.toList = r at hcon ⊢
  have e27 := e27
  go_enter Try.func26, Try.ntmps26
  go_wp2_with (go_at_call 27; refine (hcon _).mono ?_; rintro e w' ⟨rfl, rfl⟩)
  go_ret
  exact ⟨rfl, 0, _, by rw [alloc_eq_grow, alloc_eq_grow, grow_grow]; rfl⟩
theorem clos30 (x y : List Value) (s t : ByteArray) (hx : x.length = 3) (hy : y.length = 3) (hs : x[0]? = some (.string s)) (ht : y[0]? = some (.string t)) (h1 : ∀ v ∈ x, v.oneCell' = true) (h2 : ∀ v ∈ y, v.oneCell' = true) (W : World) : Calls Try.prog 30 #[.agg x.toArray, .agg y.toArray] W fun e w' => e = .returned (.int .i64 (cmpB s.toList t.toList)) ∧ ∃ q os', w' = grow (W.drewN q) os' := by
  obtain ⟨x0, x1, x2, rfl⟩ : ∃ a b c, x = [a, b, c] := by
    match x, hx with
    | [a, b, c], _ => exact ⟨a, b, c, rfl⟩
  obtain ⟨y0, y1, y2, rfl⟩ : ∃ a b c, y = [a, b, c] := by
    match y, hy with
    | [a, b, c], _ => exact ⟨a, b, c, rfl⟩
  simp only [List.getElem?_cons_zero, Option.some.injEq] at hs ht
  subst hs ht
  have hcon := fun W' => cmp27 s t W'
  generalize cmpB s.toList t.toList = r at hcon ⊢
  have e27 := e27
  go_enter Try.func30, Try.ntmps30
  go_wp2_with (go_at_call 27; refine (hcon _).mono ?_; rintro e w' ⟨rfl, rfl⟩)
  go_ret
  exact ⟨rfl, 0, _, by rw [alloc_eq_grow, alloc_eq_grow, grow_grow]; rfl⟩
end Go.Proofs.Ytnjoledlgacpeaa
