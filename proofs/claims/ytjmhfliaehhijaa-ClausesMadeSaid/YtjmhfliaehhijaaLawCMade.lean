import Derived.Test.YtjmhfliaehhijaaTabA
import Derived.Test.YtjmhfliaehhijaaA23
import Derived.Test.YtjmhfliaehhijaaShapesF
import Derived.Test.YtjmhfliaehhijaaShapes
import Derived.ProofKit
set_option linter.unusedVariables false
set_option linter.unusedSimpArgs false
/-
  ClausesMade: the clauses of any formula that may be, and how many variables they have, are the document's.
-/
namespace Go.Abs.A
open Go Go.Abs Go.Proofs Go.Proofs.Ytjmhfliaehhijaa Go.ChangeShapes Go.WideShapes Go.ChangeAt Go.RowKit
set_option maxRecDepth 100000 in
theorem clausesMade_lifted (os : Os) (started : os.Started) (H : Type) (enc : TypeId × Value → H) :
    ReturnsInHanded {} Try.checked os 8 .any (Rows.clausesMadeSpec.pre6 enc Try.prog Try.f8 Rows.clausesMadeRow.domain false) (Rows.clausesMadeSpec.post enc Try.prog Try.f8 false true false false) := by
  refine law_row (S := [24, 3, 22]) (T := T) (tb := 4) started (by kernel_rfl) (by kernel_rfl) Try.func8 (by kernel_rfl) (by kernel_rfl) (by kernel_rfl) (by kernel_rfl) (by kernel_rfl) Try.underlying4 hmix tab_ok rfl (fun ds h => ?_)
    (ChangeSpec.witness6 (enc := enc) (C := Try.checked) false ⟨#[], #[.agg #[.int .i64 0, .int .i64 0, .slice none 0 0], .int .i64 0], []⟩ 8 (by kernel_rfl) (by kernel_rfl) (by kernel_rfl) (by kernel_rfl)) (fun xs h => ?_)
  · match ds, h with
    | [d1, d2], _ => exact ⟨rfl, rfl, rfl⟩
  · replace h : ArgsOf Try.prog [24, 3] xs := h
    obtain ⟨x0, x1, rfl, h0, h1⟩ := args_two h
    obtain ⟨f, rfl⟩ := arg_fm (ti := 3) Try.underlying24 (by kernel_rfl) Try.underlying22 Try.underlying3 h0
    obtain ⟨n, rfl, _⟩ := arg_i64 Try.underlying3 h1
    obtain ⟨σ, hs⟩ := lawMade_ok f n
    exact ⟨5001, σ, hs⟩
end Go.Abs.A

namespace Go.Proofs.Ytjmhfliaehhijaa
open Go Go.Abs Go.ChangeShapes Go.WideShapes Go.ChangeAt Go.RowKit
theorem clausesMade_holds : Rows.ClausesMadeSaid :=
  OpenClaim.holds_of_wide 8 Try.f8 rfl rfl rfl rfl rfl rfl rfl ⟨rfl, rfl, rfl, rfl, rfl⟩ rfl rfl rfl rfl rfl (by kernel_rfl) Try.func8 (by kernel_rfl)
    (of_decide_eq_true (by kernel_rfl)) (by unfold Func.isWrapper; rw [if_neg (by decide +kernel)]; exact ⟨rfl, rfl⟩)
    (fun os started H enc _ => Go.Abs.A.clausesMade_lifted os started H enc)
#print axioms clausesMade_holds
end Go.Proofs.Ytjmhfliaehhijaa
