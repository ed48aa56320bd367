/-
  LogicMany: of any number of atoms in a row all are so, or one is, as their truths say; the greatest one is told.
-/
import Derived.Test.YtjmhfliaehhijaaTabA
import Derived.Test.YtjmhfliaehhijaaA12
import Derived.Test.YtjmhfliaehhijaaShapesF
import Derived.Test.YtjmhfliaehhijaaShapes
import Derived.ProofKit
set_option linter.unusedVariables false
set_option linter.unusedSimpArgs false
namespace Go.Abs.A
open Go Go.Abs Go.Proofs Go.Proofs.Ytjmhfliaehhijaa Go.ChangeShapes Go.WideShapes Go.ChangeAt Go.RowKit
set_option maxRecDepth 100000 in
theorem logicMany_lifted (os : Os) (started : os.Started) (H : Type) (enc : TypeId × Value → H) :
    ReturnsInHanded {} Try.checked os 7 .any (Rows.logicManySpec.pre6 enc Try.prog Try.f7 Rows.logicManyRow.domain false) (Rows.logicManySpec.post enc Try.prog Try.f7 false true false false) := by
  refine law_row (S := [35, 4, 44]) (T := T) (tb := 4) started (by kernel_rfl) (by kernel_rfl) Try.func7 (by kernel_rfl) (by kernel_rfl) (by kernel_rfl) (by kernel_rfl) (by kernel_rfl) Try.underlying4 hmix tab_ok rfl (fun ds h => ?_)
    (ChangeSpec.witness6 (enc := enc) (C := Try.checked) false ⟨#[], #[.slice none 0 0, .bool false, .int .u16 0], []⟩ 8 (by kernel_rfl) (by kernel_rfl) (by kernel_rfl) (by kernel_rfl)) (fun xs h => ?_)
  · match ds, h with
    | [d1, d2, d3], _ => exact ⟨rfl, rfl, rfl⟩
  · replace h : ArgsOf Try.prog [35, 4, 44] xs := h
    obtain ⟨x0, x1, x2, rfl, h0, h1, h2⟩ := args_three h
    obtain ⟨a, rfl, ha, _⟩ := arg_bools Try.underlying35 Try.underlying4 h0
    obtain ⟨b, rfl⟩ := arg_bool Try.underlying4 h1
    obtain ⟨u, rfl, hu⟩ := arg_u16 Try.underlying44 h2
    obtain ⟨σ, hs⟩ := lawMany_ok a b u none hu
    exact ⟨5001, σ, hs⟩
end Go.Abs.A

namespace Go.Proofs.Ytjmhfliaehhijaa
open Go Go.Abs Go.ChangeShapes Go.WideShapes Go.ChangeAt Go.RowKit
theorem logicMany_holds : Rows.LogicManySaid :=
  OpenClaim.holds_of_wide 7 Try.f7 rfl rfl rfl rfl rfl rfl rfl ⟨rfl, rfl, rfl, rfl, rfl⟩ rfl rfl rfl rfl rfl (by kernel_rfl) Try.func7 (by kernel_rfl)
    (of_decide_eq_true (by kernel_rfl)) (by unfold Func.isWrapper; rw [if_neg (by decide +kernel)]; exact ⟨rfl, rfl⟩)
    (fun os started H enc _ => Go.Abs.A.logicMany_lifted os started H enc)
#print axioms logicMany_holds
end Go.Proofs.Ytjmhfliaehhijaa
