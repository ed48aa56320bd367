/-
  ClausesMet: whether any truths meet any clauses is what the document says.
-/
import Derived.Test.YtjmhfliaehhijaaTabA
import Derived.Test.YtjmhfliaehhijaaA14
import Derived.Test.YtjmhfliaehhijaaShapesF
import Derived.Test.YtjmhfliaehhijaaShapes
import Derived.ProofKit
set_option linter.unusedVariables false
set_option linter.unusedSimpArgs false
namespace Go.Abs.A
open Go Go.Abs Go.Proofs Go.Proofs.Ytjmhfliaehhijaa Go.ChangeShapes Go.WideShapes Go.ChangeAt Go.RowKit
set_option maxRecDepth 100000 in
theorem clausesMet_lifted (os : Os) (started : os.Started) (H : Type) (enc : TypeId × Value → H) :
    ReturnsInHanded {} Try.checked os 9 .any (Rows.clausesMetSpec.pre6 enc Try.prog Try.f9 Rows.clausesMetRow.domain false) (Rows.clausesMetSpec.post enc Try.prog Try.f9 false true false false) := by
  refine law_row (S := [46, 51, 3, 35, 4]) (T := T) (tb := 4) started (by kernel_rfl) (by kernel_rfl) Try.func9 (by kernel_rfl) (by kernel_rfl) (by kernel_rfl) (by kernel_rfl) (by kernel_rfl) Try.underlying4 hmix tab_ok rfl (fun ds h => ?_)
    (ChangeSpec.witness6 (enc := enc) (C := Try.checked) false ⟨#[], #[.slice none 0 0, .slice none 0 0], []⟩ 8 (by kernel_rfl) (by kernel_rfl) (by kernel_rfl) (by kernel_rfl)) (fun xs h => ?_)
  · match ds, h with
    | [d1, d2], _ => exact ⟨rfl, rfl, rfl⟩
  · replace h : ArgsOf Try.prog [46, 35] xs := h
    obtain ⟨x0, x1, rfl, h0, h1⟩ := args_two h
    obtain ⟨l, rfl, _, hl⟩ := arg_rows Try.underlying46 Try.underlying51 Try.underlying3 h0
    obtain ⟨a, rfl, ha, _⟩ := arg_bools Try.underlying35 Try.underlying4 h1
    obtain ⟨σ, hs⟩ := lawMet_ok l a none none (fun c hc v hv => (hl c hc).2 v hv) (by unfold maxLen at ha; omega)
    exact ⟨5001, σ, hs⟩
end Go.Abs.A

namespace Go.Proofs.Ytjmhfliaehhijaa
open Go Go.Abs Go.ChangeShapes Go.WideShapes Go.ChangeAt Go.RowKit
theorem clausesMet_holds : Rows.ClausesMetSaid :=
  OpenClaim.holds_of_wide 9 Try.f9 rfl rfl rfl rfl rfl rfl rfl ⟨rfl, rfl, rfl, rfl, rfl⟩ rfl rfl rfl rfl rfl (by kernel_rfl) Try.func9 (by kernel_rfl)
    (of_decide_eq_true (by kernel_rfl)) (by unfold Func.isWrapper; rw [if_neg (by decide +kernel)]; exact ⟨rfl, rfl⟩)
    (fun os started H enc _ => Go.Abs.A.clausesMet_lifted os started H enc)
#print axioms clausesMet_holds
end Go.Proofs.Ytjmhfliaehhijaa
