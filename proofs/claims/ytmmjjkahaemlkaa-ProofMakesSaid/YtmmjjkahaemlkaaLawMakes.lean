/-
  ProofMakes: what any two clauses make, with any pivot, is the document's, or nothing.
-/
import Derived.Test.YtmmjjkahaemlkaaTabB
import Derived.Test.YtmmjjkahaemlkaaQ3
import Derived.Test.YtmmjjkahaemlkaaShapes
import Derived.ProofKit
namespace Go.Abs.B
open Go Go.Abs Go.Proofs Go.Proofs.Ytmmjjkahaemlkaa Go.ChangeShapes Go.WideShapes Go.ChangeAt Go.RowKit
theorem own : ownKnob Try.prog.godebug = none := by kernel_rfl
theorem laidOut : laidOutB Try.prog = true := by kernel_rfl
set_option maxRecDepth 100000 in
theorem makes_lifted (os : Os) (started : os.Started) (H : Type) (enc : TypeId × Value → H) :
    ReturnsInHanded {} Try.checked os 5 .any (Rows.proofMakesSpec.pre6 enc Try.prog Try.f5 Rows.proofMakesRow.domain false) (Rows.proofMakesSpec.post enc Try.prog Try.f5 false true false false) := by
  refine law_row (S := [34, 3]) (T := T) (tb := 4) started own (by kernel_rfl) Try.func5 laidOut (by kernel_rfl) (by kernel_rfl) (by kernel_rfl) (by kernel_rfl) Try.underlying4 hmix tab_ok rfl (fun ds h => ?_)
    (ChangeSpec.witness6 (enc := enc) (C := Try.checked) false ⟨#[], #[.slice none 0 0, .slice none 0 0, .int .i64 0], []⟩ 8 (by kernel_rfl) (by kernel_rfl) (by kernel_rfl) (by kernel_rfl)) (fun xs h => ?_)
  · match ds, h with
    | [d1, d2, d3], _ => exact ⟨rfl, rfl, rfl⟩
  · obtain ⟨x0, x1, x2, rfl, h0, h1, h2⟩ := args_three (show ArgsOf Try.prog [34, 34, 3] xs from h)
    obtain ⟨a, rfl, _, _⟩ := arg_ints Try.underlying34 Try.underlying3 h0
    obtain ⟨b, rfl, _, _⟩ := arg_ints Try.underlying34 Try.underlying3 h1
    obtain ⟨p, rfl, _⟩ := arg_i64 Try.underlying3 h2
    obtain ⟨σ, hs⟩ := law_ok a b p none none
    exact ⟨100, σ, hs⟩
end Go.Abs.B

namespace Go.Proofs.Ytmmjjkahaemlkaa
open Go Go.Abs Go.ChangeShapes Go.WideShapes Go.ChangeAt Go.RowKit
theorem proofMakes_holds : Rows.ProofMakesSaid :=
  OpenClaim.holds_of_wide 5 Try.f5 rfl rfl rfl rfl rfl rfl rfl ⟨rfl, rfl, rfl, rfl, rfl⟩ rfl rfl rfl rfl rfl (by kernel_rfl) Try.func5 (by kernel_rfl)
    (of_decide_eq_true (by kernel_rfl)) (by unfold Func.isWrapper; rw [if_neg (by decide +kernel)]; exact ⟨rfl, rfl⟩)
    (fun os started H enc _ => Go.Abs.B.makes_lifted os started H enc)
end Go.Proofs.Ytmmjjkahaemlkaa
