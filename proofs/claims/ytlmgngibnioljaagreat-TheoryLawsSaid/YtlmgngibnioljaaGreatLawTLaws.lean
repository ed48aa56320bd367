import Derived.Test.YtlmgngibnioljaaGreatLwE0
import Derived.Test.YtlmgngibnioljaaGreatLwE1
import Derived.Test.YtlmgngibnioljaaGreatLwE2
import Derived.Test.YtlmgngibnioljaaGreatLwE3
import Derived.Test.YtlmgngibnioljaaGreatRules
import Derived.ProofKit
set_option linter.unusedVariables false
set_option linter.unusedSimpArgs false
/-
  TheoryLaws: what is so of atoms in any case: a principal is one at most; who is one is in it; in goes over. For every six truths, without a condition.
-/
namespace Go.Abs.T
open Go Go.Abs Go.Proofs Go.Proofs.YtlmgngibnioljaaGreat Go.ChangeShapes Go.WideShapes Go.ChangeAt Go.RowKit
theorem args_six {P : Program} {t0 t1 t2 t3 t4 t5 : TypeId} {xs : List D} (h : ArgsOf P [t0, t1, t2, t3, t4, t5] xs) : ∃ x0 x1 x2 x3 x4 x5, xs = [x0, x1, x2, x3, x4, x5] ∧ ArgOf P t0 x0 ∧ ArgOf P t1 x1 ∧ ArgOf P t2 x2 ∧ ArgOf P t3 x3 ∧ ArgOf P t4 x4 ∧ ArgOf P t5 x5 := by
  match xs, h with
  | [x0, x1, x2, x3, x4, x5], h => exact ⟨x0, x1, x2, x3, x4, x5, rfl, h.1, h.2.1, h.2.2.1, h.2.2.2.1, h.2.2.2.2.1, h.2.2.2.2.2.1⟩
set_option maxRecDepth 100000 in
theorem theoryLaws_lifted (os : Os) (started : os.Started) (H : Type) (enc : TypeId × Value → H) :
    ReturnsInHanded {} Tryz.checked os 4 .any (Rows.theoryLawsSpec.pre6 enc Tryz.prog Tryz.f4 Rows.theoryLawsRow.domain false) (Rows.theoryLawsSpec.post enc Tryz.prog Tryz.f4 false true false false) := by
  refine law_row (S := [4]) (T := T2) (tb := 4) started (by kernel_rfl) (by kernel_rfl) Tryz.func4 (by kernel_rfl) (by kernel_rfl) (by kernel_rfl) (by kernel_rfl) (by kernel_rfl) Tryz.underlying4 hmix tab_ok2 rfl (fun ds h => ?_)
    (ChangeSpec.witness6 (enc := enc) (C := Tryz.checked) false ⟨#[], #[.bool false, .bool false, .bool false, .bool false, .bool false, .bool false], []⟩ 8 (by kernel_rfl) (by kernel_rfl) (by kernel_rfl) (by kernel_rfl)) (fun xs h => ?_)
  · match ds, h with
    | [d1, d2, d3, d4, d5, d6], _ => exact ⟨rfl, rfl, rfl⟩
  · replace h : ArgsOf Tryz.prog [4, 4, 4, 4, 4, 4] xs := h
    obtain ⟨x0, x1, x2, x3, x4, x5, rfl, h0, h1, h2, h3, h4, h5⟩ := args_six h
    obtain ⟨a, rfl⟩ := arg_bool Tryz.underlying4 h0
    obtain ⟨b, rfl⟩ := arg_bool Tryz.underlying4 h1
    obtain ⟨c, rfl⟩ := arg_bool Tryz.underlying4 h2
    obtain ⟨d, rfl⟩ := arg_bool Tryz.underlying4 h3
    obtain ⟨e, rfl⟩ := arg_bool Tryz.underlying4 h4
    obtain ⟨f, rfl⟩ := arg_bool Tryz.underlying4 h5
    have hs : ∃ σ, callN T2 60 4 [.bool a, .bool b, .bool c, .bool d, .bool e, .bool f] [] = some (.bool true, σ) :=
      match a, b with
      | true, true => laws_0 c d e f
      | true, false => laws_1 c d e f
      | false, true => laws_2 c d e f
      | false, false => laws_3 c d e f
    obtain ⟨σ, hs⟩ := hs
    exact ⟨60, σ, hs⟩
end Go.Abs.T

namespace Go.Proofs.YtlmgngibnioljaaGreat
open Go Go.Abs Go.ChangeShapes Go.WideShapes Go.ChangeAt Go.RowKit
theorem theoryLaws_holds : Rows.TheoryLawsSaid :=
  OpenClaim.holds_of_wide 4 Tryz.f4 rfl rfl rfl rfl rfl rfl rfl ⟨rfl, rfl, rfl, rfl, rfl⟩ rfl rfl rfl rfl rfl (by kernel_rfl) Tryz.func4 (by kernel_rfl)
    (of_decide_eq_true (by kernel_rfl)) (by unfold Func.isWrapper; rw [if_neg (by decide +kernel)]; exact ⟨rfl, rfl⟩)
    (fun os started H enc _ => Go.Abs.T.theoryLaws_lifted os started H enc)
#print axioms theoryLaws_holds
end Go.Proofs.YtlmgngibnioljaaGreat
