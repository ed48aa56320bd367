/-
  LogicSimple: any formula that may be, made simple, is the document's; it comes to the same, and stays as it is.
-/
import Derived.Test.YtjmhfliaehhijaaTabA
import Derived.Test.YtjmhfliaehhijaaA10
import Derived.Test.YtjmhfliaehhijaaShapesF
import Derived.Test.YtjmhfliaehhijaaShapes
import Derived.ProofKit
set_option linter.unusedVariables false
set_option linter.unusedSimpArgs false
namespace Go.Abs.A
open Go Go.Abs Go.Proofs Go.Proofs.Ytjmhfliaehhijaa Go.ChangeShapes Go.WideShapes Go.ChangeAt Go.RowKit
set_option maxRecDepth 100000 in
theorem logicSimple_lifted (os : Os) (started : os.Started) (H : Type) (enc : TypeId × Value → H) :
    ReturnsInHanded {} Try.checked os 5 .any (Rows.logicSimpleSpec.pre6 enc Try.prog Try.f5 Rows.logicSimpleRow.domain false) (Rows.logicSimpleSpec.post enc Try.prog Try.f5 false true false false) := by
  refine law_row (S := [24, 3, 22, 35, 4]) (T := T) (tb := 4) started (by kernel_rfl) (by kernel_rfl) Try.func5 (by kernel_rfl) (by kernel_rfl) (by kernel_rfl) (by kernel_rfl) (by kernel_rfl) Try.underlying4 hmix tab_ok rfl (fun ds h => ?_)
    (ChangeSpec.witness6 (enc := enc) (C := Try.checked) false ⟨#[], #[.agg #[.int .i64 0, .int .i64 0, .slice none 0 0], .slice none 0 0], []⟩ 8 (by kernel_rfl) (by kernel_rfl) (by kernel_rfl) (by kernel_rfl)) (fun xs h => ?_)
  · match ds, h with
    | [d1, d2], _ => exact ⟨rfl, rfl, rfl⟩
  · replace h : ArgsOf Try.prog [24, 35] xs := h
    obtain ⟨x0, x1, rfl, h0, h1⟩ := args_two h
    obtain ⟨f, rfl⟩ := arg_fm (ti := 3) Try.underlying24 (by kernel_rfl) Try.underlying22 Try.underlying3 h0
    obtain ⟨a, rfl, ha, _⟩ := arg_bools Try.underlying35 Try.underlying4 h1
    obtain ⟨σ, hs⟩ := lawSimple_ok f a none (by unfold maxLen at ha; omega)
    exact ⟨5001, σ, hs⟩
end Go.Abs.A

namespace Go.Proofs.Ytjmhfliaehhijaa
open Go Go.Abs Go.ChangeShapes Go.WideShapes Go.ChangeAt Go.RowKit
theorem logicSimple_holds : Rows.LogicSimpleSaid :=
  OpenClaim.holds_of_wide 5 Try.f5 rfl rfl rfl rfl rfl rfl rfl ⟨rfl, rfl, rfl, rfl, rfl⟩ rfl rfl rfl rfl rfl (by kernel_rfl) Try.func5 (by kernel_rfl)
    (of_decide_eq_true (by kernel_rfl)) (by unfold Func.isWrapper; rw [if_neg (by decide +kernel)]; exact ⟨rfl, rfl⟩)
    (fun os started H enc _ => Go.Abs.A.logicSimple_lifted os started H enc)
#print axioms logicSimple_holds
end Go.Proofs.Ytjmhfliaehhijaa
