/-
  ProofChecks: which steps are a proof of which clauses, and what they make, is what the document says.
-/
import Derived.Test.YtmmjjkahaemlkaaTabB
import Derived.Test.YtmmjjkahaemlkaaQ8
import Derived.Test.YtmmjjkahaemlkaaShapes
import Derived.ProofKit
set_option linter.unusedVariables false
set_option linter.unusedSimpArgs false
namespace Go.Abs.B
open Go Go.Abs Go.Proofs Go.Proofs.Ytmmjjkahaemlkaa Go.ChangeShapes Go.WideShapes Go.ChangeAt Go.RowKit
set_option maxRecDepth 100000 in
theorem proofChecks_lifted (os : Os) (started : os.Started) (H : Type) (enc : TypeId × Value → H) :
    ReturnsInHanded {} Try.checked os 3 .any (Rows.proofChecksSpec.pre6 enc Try.prog Try.f3 Rows.proofChecksRow.domain false) (Rows.proofChecksSpec.post enc Try.prog Try.f3 false true false false) := by
  refine law_row (S := [22, 34, 3, 23, 55]) (T := T) (tb := 4) started (by kernel_rfl) (by kernel_rfl) Try.func3 (by kernel_rfl) (by kernel_rfl) (by kernel_rfl) (by kernel_rfl) (by kernel_rfl) Try.underlying4 hmix tab_ok rfl (fun ds h => ?_)
    (ChangeSpec.witness6 (enc := enc) (C := Try.checked) false ⟨#[], #[.slice none 0 0, .slice none 0 0], []⟩ 8 (by kernel_rfl) (by kernel_rfl) (by kernel_rfl) (by kernel_rfl)) (fun xs h => ?_)
  · match ds, h with
    | [d1, d2], _ => exact ⟨rfl, rfl, rfl⟩
  · replace h : ArgsOf Try.prog [22, 23] xs := h
    obtain ⟨x0, x1, rfl, h0, h1⟩ := args_two h
    obtain ⟨l, rfl, _, _⟩ := arg_rows Try.underlying22 Try.underlying34 Try.underlying3 h0
    obtain ⟨st, rfl, _, _⟩ := arg_trips (i := 3) Try.underlying23 Try.underlying55 (by kernel_rfl) Try.underlying3 h1
    obtain ⟨σ, hs⟩ := lawChecks_ok l st none none
    exact ⟨3001, σ, hs⟩
end Go.Abs.B

namespace Go.Proofs.Ytmmjjkahaemlkaa
open Go Go.Abs Go.ChangeShapes Go.WideShapes Go.ChangeAt Go.RowKit
theorem proofChecks_holds : Rows.ProofChecksSaid :=
  OpenClaim.holds_of_wide 3 Try.f3 rfl rfl rfl rfl rfl rfl rfl ⟨rfl, rfl, rfl, rfl, rfl⟩ rfl rfl rfl rfl rfl (by kernel_rfl) Try.func3 (by kernel_rfl)
    (of_decide_eq_true (by kernel_rfl)) (by unfold Func.isWrapper; rw [if_neg (by decide +kernel)]; exact ⟨rfl, rfl⟩)
    (fun os started H enc _ => Go.Abs.B.proofChecks_lifted os started H enc)
#print axioms proofChecks_holds
end Go.Proofs.Ytmmjjkahaemlkaa
