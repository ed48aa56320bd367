import Derived.Test.YtmmjjkahaemlkaaTabB
import Derived.Test.YtmmjjkahaemlkaaS15
import Derived.Test.YtmmjjkahaemlkaaShapes
import Derived.ProofKit
set_option linter.unusedVariables false
set_option linter.unusedSimpArgs false
/-
  SolveUnits: clauses of one literal each are met, unless two are opposite; no variable is chosen but those that are in none.
-/
namespace Go.Abs.B
open Go Go.Abs Go.Proofs Go.Proofs.Ytmmjjkahaemlkaa Go.ChangeShapes Go.WideShapes Go.ChangeAt Go.RowKit
set_option maxRecDepth 100000 in
theorem solveUnits_lifted (os : Os) (started : os.Started) (H : Type) (enc : TypeId × Value → H) :
    ReturnsInHanded {} Try.checked os 9 .any (Rows.solveUnitsSpec.pre6 enc Try.prog Try.f9 Rows.solveUnitsRow.domain false) (Rows.solveUnitsSpec.post enc Try.prog Try.f9 false true false false) := by
  refine law_row (S := [51, 52, 5]) (T := T) (tb := 4) started (by kernel_rfl) (by kernel_rfl) Try.func9 (by kernel_rfl) (by kernel_rfl) (by kernel_rfl) (by kernel_rfl) (by kernel_rfl) Try.underlying4 hmix tab_ok rfl (fun ds h => ?_)
    (ChangeSpec.witness6 (enc := enc) (C := Try.checked) false ⟨#[], #[.slice none 0 0, .int .u8 0], []⟩ 8 (by kernel_rfl) (by kernel_rfl) (by kernel_rfl) (by kernel_rfl)) (fun xs h => ?_)
  · match ds, h with
    | [d1, d2], _ => exact ⟨rfl, rfl, rfl⟩
  · replace h : ArgsOf Try.prog [51, 5] xs := h
    obtain ⟨x0, x1, rfl, h0, h1⟩ := args_two h
    obtain ⟨l, rfl, _, hl⟩ := arg_i8s Try.underlying51 Try.underlying52 h0
    obtain ⟨n, rfl, hn⟩ := arg_u8 Try.underlying5 h1
    obtain ⟨σ, hs⟩ := lawUnits_ok l n none hl hn
    exact ⟨40001, σ, hs⟩
end Go.Abs.B

namespace Go.Proofs.Ytmmjjkahaemlkaa
open Go Go.Abs Go.ChangeShapes Go.WideShapes Go.ChangeAt Go.RowKit
theorem solveUnits_holds : Rows.SolveUnitsSaid :=
  OpenClaim.holds_of_wide 9 Try.f9 rfl rfl rfl rfl rfl rfl rfl ⟨rfl, rfl, rfl, rfl, rfl⟩ rfl rfl rfl rfl rfl (by kernel_rfl) Try.func9 (by kernel_rfl)
    (of_decide_eq_true (by kernel_rfl)) (by unfold Func.isWrapper; rw [if_neg (by decide +kernel)]; exact ⟨rfl, rfl⟩)
    (fun os started H enc _ => Go.Abs.B.solveUnits_lifted os started H enc)
#print axioms solveUnits_holds
end Go.Proofs.Ytmmjjkahaemlkaa
