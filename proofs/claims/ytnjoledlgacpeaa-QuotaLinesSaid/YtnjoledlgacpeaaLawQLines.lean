import Derived.Test.YtnjoledlgacpeaaTabC
import Derived.Test.YtnjoledlgacpeaaTreeG
import Derived.Test.YtnjoledlgacpeaaShapesC
import Derived.Test.YtnjoledlgacpeaaShapes
import Derived.ProofKit
set_option linter.unusedVariables false
set_option linter.unusedSimpArgs false
/-
  QuotaLines: what is reserved is used at its node and at every node above it.
-/
namespace Go.Abs.C
open Go Go.Abs Go.Proofs Go.Proofs.Ytnjoledlgacpeaa Go.ChangeShapes Go.WideShapes Go.ChangeAt Go.RowKit
set_option maxRecDepth 100000 in
theorem quotaLines_lifted (os : Os) (started : os.Started) (H : Type) (enc : TypeId × Value → H) :
    ReturnsInHanded {} Try.checked os 6 .any (Rows.quotaLinesSpec.pre6 enc Try.prog Try.f6 Rows.quotaLinesRow.domain false) (Rows.quotaLinesSpec.post enc Try.prog Try.f6 false true false false) := by
  refine law_row (S := [50, 53, 51, 5]) (T := T) (tb := 4) started (by kernel_rfl) (by kernel_rfl) Try.func6 (by kernel_rfl) (by kernel_rfl) (by kernel_rfl) (by kernel_rfl) (by kernel_rfl) Try.underlying4 hmix tab_ok rfl (fun ds h => ?_)
    (ChangeSpec.witness6 (enc := enc) (C := Try.checked) false ⟨#[], #[.slice none 0 0, .slice none 0 0], []⟩ 8 (by kernel_rfl) (by kernel_rfl) (by kernel_rfl) (by kernel_rfl)) (fun xs h => ?_)
  · match ds, h with
    | [d1, d2], _ => exact ⟨rfl, rfl, rfl⟩
  · replace h : ArgsOf Try.prog [50, 51] xs := h
    obtain ⟨x0, x1, rfl, h0, h1⟩ := args_two h
    obtain ⟨am, rfl, _, ha⟩ := arg_u16s Try.underlying50 Try.underlying53 h0
    obtain ⟨at_, rfl, _, hb⟩ := arg_u8s Try.underlying51 Try.underlying5 h1
    obtain ⟨σ, hs⟩ := lawLines_ok am at_ ha hb
    exact ⟨100, σ, hs⟩
end Go.Abs.C

namespace Go.Proofs.Ytnjoledlgacpeaa
open Go Go.Abs Go.ChangeShapes Go.WideShapes Go.ChangeAt Go.RowKit
theorem quotaLines_holds : Rows.QuotaLinesSaid :=
  OpenClaim.holds_of_wide 6 Try.f6 rfl rfl rfl rfl rfl rfl rfl ⟨rfl, rfl, rfl, rfl, rfl⟩ rfl rfl rfl rfl rfl (by kernel_rfl) Try.func6 (by kernel_rfl)
    (of_decide_eq_true (by kernel_rfl)) (by unfold Func.isWrapper; rw [if_neg (by decide +kernel)]; exact ⟨rfl, rfl⟩)
    (fun os started H enc _ => Go.Abs.C.quotaLines_lifted os started H enc)
#print axioms quotaLines_holds
end Go.Proofs.Ytnjoledlgacpeaa
