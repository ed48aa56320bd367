import Derived.Test.YtnjoledlgacpeaaTabC
import Derived.Test.YtnjoledlgacpeaaTreeH
import Derived.Test.YtnjoledlgacpeaaShapesC
import Derived.Test.YtnjoledlgacpeaaShapes
import Derived.ProofKit
set_option linter.unusedVariables false
set_option linter.unusedSimpArgs false
/-
  QuotaPlays: after any operations a tree and its plain model are the same, step by step.
-/
namespace Go.Abs.C
open Go Go.Abs Go.Proofs Go.Proofs.Ytnjoledlgacpeaa Go.ChangeShapes Go.WideShapes Go.ChangeAt Go.RowKit
set_option maxRecDepth 100000 in
theorem quotaPlays_lifted (os : Os) (started : os.Started) (H : Type) (enc : TypeId × Value → H) :
    ReturnsInHanded {} Try.checked os 3 .any (Rows.quotaPlaysSpec.pre6 enc Try.prog Try.f3 Rows.quotaPlaysRow.domain false) (Rows.quotaPlaysSpec.post enc Try.prog Try.f3 false true false false) := by
  refine law_row (S := [22, 34, 3, 9, 2]) (T := T) (tb := 4) started (by kernel_rfl) (by kernel_rfl) Try.func3 (by kernel_rfl) (by kernel_rfl) (by kernel_rfl) (by kernel_rfl) (by kernel_rfl) Try.underlying4 hmix tab_ok rfl (fun ds h => ?_)
    (ChangeSpec.witness6 (enc := enc) (C := Try.checked) false ⟨#[], #[.slice none 0 0], []⟩ 8 (by kernel_rfl) (by kernel_rfl) (by kernel_rfl) (by kernel_rfl)) (fun xs h => ?_)
  · match ds, h with
    | [d1], _ => exact ⟨rfl, rfl, rfl⟩
  · replace h : ArgsOf Try.prog [22] xs := h
    obtain ⟨x0, rfl, h0⟩ := args_one h
    obtain ⟨l, rfl, _, hok⟩ := arg_acts Try.underlying22 Try.underlying34 rfl Try.underlying3 Try.underlying9 Try.underlying2 h0
    obtain ⟨σ, hs⟩ := lawPlays_ok 9223372036854775808 l (fun a ha => by
      obtain ⟨_, h1, h2, h3⟩ := hok a ha
      unfold maxLen at h1 h2
      exact ⟨h3.2, by omega, by omega⟩) (by omega) (by omega)
    exact ⟨_, σ, hs⟩
end Go.Abs.C

namespace Go.Proofs.Ytnjoledlgacpeaa
open Go Go.Abs Go.ChangeShapes Go.WideShapes Go.ChangeAt Go.RowKit
theorem quotaPlays_holds : Rows.QuotaPlaysSaid :=
  OpenClaim.holds_of_wide 3 Try.f3 rfl rfl rfl rfl rfl rfl rfl ⟨rfl, rfl, rfl, rfl, rfl⟩ rfl rfl rfl rfl rfl (by kernel_rfl) Try.func3 (by kernel_rfl)
    (of_decide_eq_true (by kernel_rfl)) (by unfold Func.isWrapper; rw [if_neg (by decide +kernel)]; exact ⟨rfl, rfl⟩)
    (fun os started H enc _ => Go.Abs.C.quotaPlays_lifted os started H enc)
#print axioms quotaPlays_holds
end Go.Proofs.Ytnjoledlgacpeaa
