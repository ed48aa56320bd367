import Derived.Test.YtnjoledlgacpeaaTabC
import Derived.Test.YtnjoledlgacpeaaTreeK
import Derived.Test.YtnjoledlgacpeaaShapesC
import Derived.Test.YtnjoledlgacpeaaShapes
import Derived.ProofKit
set_option linter.unusedVariables false
set_option linter.unusedSimpArgs false
/-
  QuotaRefuses: one operation more is refused, or done, as the plain model says.
-/
namespace Go.Abs.C
open Go Go.Abs Go.Proofs Go.Proofs.Ytnjoledlgacpeaa Go.ChangeShapes Go.WideShapes Go.ChangeAt Go.RowKit
set_option maxRecDepth 100000 in
theorem quotaRefuses_lifted (os : Os) (started : os.Started) (H : Type) (enc : TypeId × Value → H) :
    ReturnsInHanded {} Try.checked os 8 .any (Rows.quotaRefusesSpec.pre6 enc Try.prog Try.f8 Rows.quotaRefusesRow.domain false) (Rows.quotaRefusesSpec.post enc Try.prog Try.f8 false true false false) := by
  refine law_row (S := [22, 34, 3, 9, 2]) (T := T) (tb := 4) started (by kernel_rfl) (by kernel_rfl) Try.func8 (by kernel_rfl) (by kernel_rfl) (by kernel_rfl) (by kernel_rfl) (by kernel_rfl) Try.underlying4 hmix tab_ok rfl (fun ds h => ?_)
    (ChangeSpec.witness6 (enc := enc) (C := Try.checked) false ⟨#[], #[.slice none 0 0, .agg #[.int .i64 0, .string ⟨#[]⟩, .string ⟨#[]⟩, .int .i64 0]], []⟩ 8 (by kernel_rfl) (by kernel_rfl) (by kernel_rfl) (by kernel_rfl)) (fun xs h => ?_)
  · match ds, h with
    | [d1, d2], _ => exact ⟨rfl, rfl, rfl⟩
  · replace h : ArgsOf Try.prog [22, 34] xs := h
    obtain ⟨x0, x1, rfl, h0, h1⟩ := args_two h
    obtain ⟨l, rfl, hl, hok⟩ := arg_acts Try.underlying22 Try.underlying34 rfl Try.underlying3 Try.underlying9 Try.underlying2 h0
    obtain ⟨m, rfl, hok2⟩ := arg_act Try.underlying34 rfl Try.underlying3 Try.underlying9 Try.underlying2 h1
    have hb : ∀ a : ActR, a.ok → a.n ≤ 9223372036854775807 ∧ a.a.length < 9223372036854775808 ∧ a.b.length < 9223372036854775808 := fun a ha => by
      obtain ⟨_, h1, h2, h3⟩ := ha
      unfold maxLen at h1 h2
      exact ⟨h3.2, by omega, by omega⟩
    obtain ⟨σ, hs⟩ := lawRefuses_ok 9223372036854775808 l m (by unfold maxLen at hl; omega) (fun a ha => hb a (hok a ha)) (hb m hok2) (by omega) (by omega)
    exact ⟨_, σ, hs⟩
end Go.Abs.C

namespace Go.Proofs.Ytnjoledlgacpeaa
open Go Go.Abs Go.ChangeShapes Go.WideShapes Go.ChangeAt Go.RowKit
theorem quotaRefuses_holds : Rows.QuotaRefusesSaid :=
  OpenClaim.holds_of_wide 8 Try.f8 rfl rfl rfl rfl rfl rfl rfl ⟨rfl, rfl, rfl, rfl, rfl⟩ rfl rfl rfl rfl rfl (by kernel_rfl) Try.func8 (by kernel_rfl)
    (of_decide_eq_true (by kernel_rfl)) (by unfold Func.isWrapper; rw [if_neg (by decide +kernel)]; exact ⟨rfl, rfl⟩)
    (fun os started H enc _ => Go.Abs.C.quotaRefuses_lifted os started H enc)
#print axioms quotaRefuses_holds
end Go.Proofs.Ytnjoledlgacpeaa
