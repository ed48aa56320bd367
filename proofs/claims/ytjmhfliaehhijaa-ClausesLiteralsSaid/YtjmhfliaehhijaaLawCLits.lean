/-
  ClausesLiterals: of a row of atoms, each one so or not, the clauses are met by just those truths that make the row true.
-/
import Derived.Test.YtjmhfliaehhijaaTabA
import Derived.Test.YtjmhfliaehhijaaA20
import Derived.Test.YtjmhfliaehhijaaShapesF
import Derived.Test.YtjmhfliaehhijaaShapes
import Derived.ProofKit
set_option linter.unusedVariables false
set_option linter.unusedSimpArgs false
namespace Go.Abs.A
open Go Go.Abs Go.Proofs Go.Proofs.Ytjmhfliaehhijaa Go.ChangeShapes Go.WideShapes Go.ChangeAt Go.RowKit
set_option maxRecDepth 100000 in
theorem clausesLiterals_lifted (os : Os) (started : os.Started) (H : Type) (enc : TypeId × Value → H) :
    ReturnsInHanded {} Try.checked os 11 .any (Rows.clausesLiteralsSpec.pre6 enc Try.prog Try.f11 Rows.clausesLiteralsRow.domain false) (Rows.clausesLiteralsSpec.post enc Try.prog Try.f11 false true false false) := by
  refine law_row (S := [54, 56, 4, 55]) (T := T) (tb := 4) started (by kernel_rfl) (by kernel_rfl) Try.func11 (by kernel_rfl) (by kernel_rfl) (by kernel_rfl) (by kernel_rfl) (by kernel_rfl) Try.underlying4 hmix tab_ok rfl (fun ds h => ?_)
    (ChangeSpec.witness6 (enc := enc) (C := Try.checked) false ⟨#[], #[.slice none 0 0, .bool false, .agg #[.bool false, .bool false, .bool false, .bool false, .bool false, .bool false]], []⟩ 8 (by kernel_rfl) (by kernel_rfl) (by kernel_rfl) (by kernel_rfl)) (fun xs h => ?_)
  · match ds, h with
    | [d1, d2, d3], _ => exact ⟨rfl, rfl, rfl⟩
  · replace h : ArgsOf Try.prog [54, 4, 55] xs := h
    obtain ⟨x0, x1, x2, rfl, h0, h1, h2⟩ := args_three h
    obtain ⟨l, rfl, _, hl⟩ := arg_i8s Try.underlying54 Try.underlying56 h0
    obtain ⟨an, rfl⟩ := arg_bool Try.underlying4 h1
    obtain ⟨t, rfl, ht⟩ := arg_barr Try.underlying55 Try.underlying4 h2
    match t, ht with
    | [b0, b1, b2, b3, b4, b5], _ =>
      obtain ⟨σ, hs⟩ := lawLiterals_ok l an b0 b1 b2 b3 b4 b5 none hl
      exact ⟨5001, σ, hs⟩
end Go.Abs.A

namespace Go.Proofs.Ytjmhfliaehhijaa
open Go Go.Abs Go.ChangeShapes Go.WideShapes Go.ChangeAt Go.RowKit
theorem clausesLiterals_holds : Rows.ClausesLiteralsSaid :=
  OpenClaim.holds_of_wide 11 Try.f11 rfl rfl rfl rfl rfl rfl rfl ⟨rfl, rfl, rfl, rfl, rfl⟩ rfl rfl rfl rfl rfl (by kernel_rfl) Try.func11 (by kernel_rfl)
    (of_decide_eq_true (by kernel_rfl)) (by unfold Func.isWrapper; rw [if_neg (by decide +kernel)]; exact ⟨rfl, rfl⟩)
    (fun os started H enc _ => Go.Abs.A.clausesLiterals_lifted os started H enc)
#print axioms clausesLiterals_holds
end Go.Proofs.Ytjmhfliaehhijaa
