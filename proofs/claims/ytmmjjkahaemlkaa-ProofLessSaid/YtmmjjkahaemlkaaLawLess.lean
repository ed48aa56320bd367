import Derived.Test.YtmmjjkahaemlkaaTabB
import Derived.Test.YtmmjjkahaemlkaaS17
import Derived.Test.YtmmjjkahaemlkaaShapes
import Derived.ProofKit
set_option linter.unusedVariables false
set_option linter.unusedSimpArgs false
/-
  ProofLess: a proof of some clauses is one of more, too; without the clause that it needs it is none.
-/
namespace Go.Abs.B
open Go Go.Abs Go.Proofs Go.Proofs.Ytmmjjkahaemlkaa Go.ChangeShapes Go.WideShapes Go.ChangeAt Go.RowKit
set_option maxRecDepth 100000 in
theorem proofLess_lifted (os : Os) (started : os.Started) (H : Type) (enc : TypeId × Value → H) :
    ReturnsInHanded {} Try.checked os 11 .any (Rows.proofLessSpec.pre6 enc Try.prog Try.f11 Rows.proofLessRow.domain false) (Rows.proofLessSpec.post enc Try.prog Try.f11 false true false false) := by
  refine law_row (S := [22, 34, 3]) (T := T) (tb := 4) started (by kernel_rfl) (by kernel_rfl) Try.func11 (by kernel_rfl) (by kernel_rfl) (by kernel_rfl) (by kernel_rfl) (by kernel_rfl) Try.underlying4 hmix tab_ok rfl (fun ds h => ?_)
    (ChangeSpec.witness6 (enc := enc) (C := Try.checked) false ⟨#[], #[.slice none 0 0, .int .i64 0, .slice none 0 0], []⟩ 8 (by kernel_rfl) (by kernel_rfl) (by kernel_rfl) (by kernel_rfl)) (fun xs h => ?_)
  · match ds, h with
    | [d1, d2, d3], _ => exact ⟨rfl, rfl, rfl⟩
  · replace h : ArgsOf Try.prog [22, 3, 34] xs := h
    obtain ⟨x0, x1, x2, rfl, h0, h1, h2⟩ := args_three h
    obtain ⟨l, rfl, _, _⟩ := arg_rows Try.underlying22 Try.underlying34 Try.underlying3 h0
    obtain ⟨n, rfl, _⟩ := arg_i64 Try.underlying3 h1
    obtain ⟨more, rfl, hm⟩ := arg_ints Try.underlying34 Try.underlying3 h2
    obtain ⟨σ, hs⟩ := lawLess_ok l n more none none (Nat.le_trans hm.1 (by decide))
    exact ⟨600011, σ, hs⟩
end Go.Abs.B

namespace Go.Proofs.Ytmmjjkahaemlkaa
open Go Go.Abs Go.ChangeShapes Go.WideShapes Go.ChangeAt Go.RowKit
theorem proofLess_holds : Rows.ProofLessSaid :=
  OpenClaim.holds_of_wide 11 Try.f11 rfl rfl rfl rfl rfl rfl rfl ⟨rfl, rfl, rfl, rfl, rfl⟩ rfl rfl rfl rfl rfl (by kernel_rfl) Try.func11 (by kernel_rfl)
    (of_decide_eq_true (by kernel_rfl)) (by unfold Func.isWrapper; rw [if_neg (by decide +kernel)]; exact ⟨rfl, rfl⟩)
    (fun os started H enc _ => Go.Abs.B.proofLess_lifted os started H enc)
#print axioms proofLess_holds
end Go.Proofs.Ytmmjjkahaemlkaa
