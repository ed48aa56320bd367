/-
  ProofSound: truths that meet two clauses meet what these make; of what has a proof no truths meet all.
-/
import Derived.Test.YtmmjjkahaemlkaaTabB
import Derived.Test.YtmmjjkahaemlkaaQ10
import Derived.Test.YtmmjjkahaemlkaaShapes
import Derived.ProofKit
set_option linter.unusedVariables false
set_option linter.unusedSimpArgs false
namespace Go.Abs.B
open Go Go.Abs Go.Proofs Go.Proofs.Ytmmjjkahaemlkaa Go.ChangeShapes Go.WideShapes Go.ChangeAt Go.RowKit
set_option maxRecDepth 100000 in
theorem proofSound_lifted (os : Os) (started : os.Started) (H : Type) (enc : TypeId × Value → H) :
    ReturnsInHanded {} Try.checked os 4 .any (Rows.proofSoundSpec.pre6 enc Try.prog Try.f4 Rows.proofSoundRow.domain false) (Rows.proofSoundSpec.post enc Try.prog Try.f4 false true false false) := by
  refine law_row (S := [22, 34, 3, 23, 55, 36, 4]) (T := T) (tb := 4) started (by kernel_rfl) (by kernel_rfl) Try.func4 (by kernel_rfl) (by kernel_rfl) (by kernel_rfl) (by kernel_rfl) (by kernel_rfl) Try.underlying4 hmix tab_ok rfl (fun ds h => ?_)
    (ChangeSpec.witness6 (enc := enc) (C := Try.checked) false ⟨#[], #[.slice none 0 0, .slice none 0 0, .slice none 0 0], []⟩ 8 (by kernel_rfl) (by kernel_rfl) (by kernel_rfl) (by kernel_rfl)) (fun xs h => ?_)
  · match ds, h with
    | [d1, d2, d3], _ => exact ⟨rfl, rfl, rfl⟩
  · replace h : ArgsOf Try.prog [22, 23, 36] xs := h
    obtain ⟨x0, x1, x2, rfl, h0, h1, h2⟩ := args_three h
    obtain ⟨l, rfl, _, _⟩ := arg_rows Try.underlying22 Try.underlying34 Try.underlying3 h0
    obtain ⟨st, rfl, _, _⟩ := arg_trips (i := 3) Try.underlying23 Try.underlying55 (by kernel_rfl) Try.underlying3 h1
    obtain ⟨t, rfl, ht, _⟩ := arg_bools Try.underlying36 Try.underlying4 h2
    obtain ⟨σ, hs⟩ := lawSound_ok l st t none none none (by unfold maxLen at ht; omega)
    exact ⟨3001, σ, hs⟩
end Go.Abs.B

namespace Go.Proofs.Ytmmjjkahaemlkaa
open Go Go.Abs Go.ChangeShapes Go.WideShapes Go.ChangeAt Go.RowKit
theorem proofSound_holds : Rows.ProofSoundSaid :=
  OpenClaim.holds_of_wide 4 Try.f4 rfl rfl rfl rfl rfl rfl rfl ⟨rfl, rfl, rfl, rfl, rfl⟩ rfl rfl rfl rfl rfl (by kernel_rfl) Try.func4 (by kernel_rfl)
    (of_decide_eq_true (by kernel_rfl)) (by unfold Func.isWrapper; rw [if_neg (by decide +kernel)]; exact ⟨rfl, rfl⟩)
    (fun os started H enc _ => Go.Abs.B.proofSound_lifted os started H enc)
#print axioms proofSound_holds
end Go.Proofs.Ytmmjjkahaemlkaa
