/-
  A part of AnalyzeFew's proof.
-/
import Derived.Test.YthbfgdbbnapjeaaGreatWhL
import Derived.Test.YthbfgdbbnapjeaaGreatShapes
set_option linter.unusedVariables false
set_option linter.unusedSimpArgs false
namespace Go.Abs.W
open Go Go.Abs Go.Proofs Go.Proofs.YthbfgdbbnapjeaaGreat Go.ChangeShapes Go.WideShapes Go.ChangeAt Go.RowKit
theorem args_two {P : Program} {t0 t1 : TypeId} {xs : List D} (h : ArgsOf P [t0, t1] xs) : ∃ x0 x1, xs = [x0, x1] ∧ ArgOf P t0 x0 ∧ ArgOf P t1 x1 := by
 match xs, h with
 | [x0, x1], h => exact ⟨x0, x1, rfl, h.1, h.2.1⟩
set_option maxRecDepth 100000 in
theorem analyzeFew_lifted (os : Os) (started : os.Started) (H : Type) (enc : TypeId × Value → H) :
  ReturnsInHanded {} Tryz.checked os 3 .any (Rows.analyzeFewSpec.pre6 enc Tryz.prog Tryz.f3 Rows.analyzeFewRow.domain false) (Rows.analyzeFewSpec.post enc Tryz.prog Tryz.f3 false true false false) := by
 refine law_row (S := [5]) (T := T) (tb := 4) started (by kernel_rfl) (by kernel_rfl) Tryz.func3 (by kernel_rfl) (by kernel_rfl) (by kernel_rfl) (by kernel_rfl) (by kernel_rfl) Tryz.underlying4 hmix tab_ok rfl (fun ds h => ?_)
  (ChangeSpec.witness6 (enc := enc) (C := Tryz.checked) false ⟨#[], #[.int .u8 0, .int .u8 0], []⟩ 8 (by kernel_rfl) (by kernel_rfl) (by kernel_rfl) (by kernel_rfl)) (fun xs h => ?_)
 ·match ds, h with
  | [d1, d2], _ => exact ⟨rfl, rfl, rfl⟩
 ·replace h : ArgsOf Tryz.prog [5, 5] xs := h
  obtain ⟨x0, x1, rfl, h0, h1⟩ := args_two h
  obtain ⟨p, rfl, hp0, hp1⟩ := arg_u8 Tryz.underlying5 h0
  obtain ⟨q, rfl, hq0, hq1⟩ := arg_u8 Tryz.underlying5 h1
  obtain ⟨σ, hs⟩ := few_ok p.toNat q.toNat (by omega) (by omega)
  rw [Int.toNat_of_nonneg hp0, Int.toNat_of_nonneg hq0] at hs
  exact ⟨40000, σ, hs⟩
end Go.Abs.W
namespace Go.Proofs.YthbfgdbbnapjeaaGreat
open Go Go.Abs Go.ChangeShapes Go.WideShapes Go.ChangeAt Go.RowKit
theorem analyzeFew_holds : Rows.AnalyzeFewSaid :=
 OpenClaim.holds_of_wide 3 Tryz.f3 rfl rfl rfl rfl rfl rfl rfl ⟨rfl, rfl, rfl, rfl, rfl⟩ rfl rfl rfl rfl rfl (by kernel_rfl) Tryz.func3 (by kernel_rfl)
  (of_decide_eq_true (by kernel_rfl)) (by unfold Func.isWrapper; rw [if_neg (by decide +kernel)]; exact ⟨rfl, rfl⟩)
  (fun os started H enc _ => Go.Abs.W.analyzeFew_lifted os started H enc)
#print axioms analyzeFew_holds
end Go.Proofs.YthbfgdbbnapjeaaGreat
