import Derived.Test.YtnjoledlgacpeaaTabC
import Derived.Test.YtnjoledlgacpeaaTreeF
import Derived.Test.YtnjoledlgacpeaaShapesC
import Derived.Test.YtnjoledlgacpeaaShapes
import Derived.ProofKit
set_option linter.unusedVariables false
set_option linter.unusedSimpArgs false
/-
  QuotaBack: what is reserved and released leaves the tree as it was; a limit that was raised takes what it refused before.
-/
namespace Go.Abs.C
open Go Go.Abs Go.Proofs Go.Proofs.Ytnjoledlgacpeaa Go.ChangeShapes Go.WideShapes Go.ChangeAt Go.RowKit
set_option maxRecDepth 100000 in
theorem quotaBack_lifted (os : Os) (started : os.Started) (H : Type) (enc : TypeId × Value → H) :
    ReturnsInHanded {} Try.checked os 5 .any (Rows.quotaBackSpec.pre6 enc Try.prog Try.f5 Rows.quotaBackRow.domain false) (Rows.quotaBackSpec.post enc Try.prog Try.f5 false true false false) := by
  refine law_row (S := [47, 2, 5]) (T := T) (tb := 4) started (by kernel_rfl) (by kernel_rfl) Try.func5 (by kernel_rfl) (by kernel_rfl) (by kernel_rfl) (by kernel_rfl) (by kernel_rfl) Try.underlying4 hmix tab_ok rfl (fun ds h => ?_)
    (ChangeSpec.witness6 (enc := enc) (C := Try.checked) false ⟨#[], #[.agg #[.int .i64 0, .int .i64 0, .int .i64 0], .int .i64 0, .int .u8 0], []⟩ 8 (by kernel_rfl) (by kernel_rfl) (by kernel_rfl) (by kernel_rfl)) (fun xs h => ?_)
  · match ds, h with
    | [d1, d2, d3], _ => exact ⟨rfl, rfl, rfl⟩
  · replace h : ArgsOf Try.prog [47, 2, 5] xs := h
    obtain ⟨x0, x1, x2, rfl, h0, h1, h2⟩ := args_three h
    obtain ⟨a, b, c, rfl⟩ := arg_iarr3 Try.underlying47 Try.underlying2 h0
    obtain ⟨m, rfl, _⟩ := arg_i64 Try.underlying2 h1
    obtain ⟨k, rfl, hk0, hk1⟩ := arg_u8 Try.underlying5 h2
    obtain ⟨σ, hs⟩ := lawBack_ok a b c m k hk0 hk1
    exact ⟨100, σ, hs⟩
end Go.Abs.C

namespace Go.Proofs.Ytnjoledlgacpeaa
open Go Go.Abs Go.ChangeShapes Go.WideShapes Go.ChangeAt Go.RowKit
theorem quotaBack_holds : Rows.QuotaBackSaid :=
  OpenClaim.holds_of_wide 5 Try.f5 rfl rfl rfl rfl rfl rfl rfl ⟨rfl, rfl, rfl, rfl, rfl⟩ rfl rfl rfl rfl rfl (by kernel_rfl) Try.func5 (by kernel_rfl)
    (of_decide_eq_true (by kernel_rfl)) (by unfold Func.isWrapper; rw [if_neg (by decide +kernel)]; exact ⟨rfl, rfl⟩)
    (fun os started H enc _ => Go.Abs.C.quotaBack_lifted os started H enc)
#print axioms quotaBack_holds
end Go.Proofs.Ytnjoledlgacpeaa
