/-
  A part of AnalyzeFew's proof.
-/
import Derived.Test.YthbfgdbbnapjeaaGreatCodeW
import Derived.Test.YthbfgdbbnapjeaaGreatRows
set_option linter.unusedVariables false
set_option linter.unusedSimpArgs false
namespace Go.Abs.W
open Go Go.Abs Go.Proofs
set_option maxRecDepth 100000
theorem ok3 : compFn Tryz.prog [] Tryz.f3 = some m3 := by kernel_rfl
theorem ok4 : compFn Tryz.prog [] Tryz.f4 = some m4 := by kernel_rfl
theorem ok5 : compFn Tryz.prog [] Tryz.f5 = some m5 := by kernel_rfl
theorem ok6 : compFn Tryz.prog [] Tryz.f6 = some m6 := by kernel_rfl
theorem ok7 : compFn Tryz.prog [] Tryz.f7 = some m7 := by kernel_rfl
theorem ok8 : compFn Tryz.prog [] Tryz.f8 = some m8 := by kernel_rfl
theorem ok9 : compFn Tryz.prog [] Tryz.f9 = some m9 := by kernel_rfl
theorem ok10 : compFn Tryz.prog [65] Tryz.f10 = some m10 := by kernel_rfl
theorem ok11 : compFn Tryz.prog [] Tryz.f11 = some m11 := by kernel_rfl
theorem ok12 : compFn Tryz.prog [] Tryz.f12 = some m12 := by kernel_rfl
theorem ok13 : compFn Tryz.prog [] Tryz.f13 = some m13 := by kernel_rfl
theorem ok14 : compFn Tryz.prog [] Tryz.f14 = some m14 := by kernel_rfl
theorem ok15 : compFn Tryz.prog [] Tryz.f15 = some m15 := by kernel_rfl
theorem ok16 : compFn Tryz.prog [] Tryz.f16 = some m16 := by kernel_rfl
theorem ok17 : compFn Tryz.prog [] Tryz.f17 = some m17 := by kernel_rfl
theorem ok18 : compFn Tryz.prog [] Tryz.f18 = some m18 := by kernel_rfl
theorem ok19 : compFn Tryz.prog [] Tryz.f19 = some m19 := by kernel_rfl
theorem ok20 : compFn Tryz.prog [] Tryz.f20 = some m20 := by kernel_rfl
theorem ok21 : compFn Tryz.prog [] Tryz.f21 = some m21 := by kernel_rfl
theorem ok22 : compFn Tryz.prog [] Tryz.f22 = some m22 := by kernel_rfl
theorem ok23 : compFn Tryz.prog [] Tryz.f23 = some m23 := by kernel_rfl
theorem ok24 : compFn Tryz.prog [] Tryz.f24 = some m24 := by kernel_rfl
theorem ok25 : compFn Tryz.prog [65] Tryz.f25 = some m25 := by kernel_rfl
theorem ok28 : compFn Tryz.prog [] Tryz.f28 = some m28 := by kernel_rfl
theorem ok29 : compFn Tryz.prog [] Tryz.f29 = some m29 := by kernel_rfl
theorem ok30 : compFn Tryz.prog [] Tryz.f30 = some m30 := by kernel_rfl
theorem ok31 : compFn Tryz.prog [] Tryz.f31 = some m31 := by kernel_rfl
theorem ok32 : compFn Tryz.prog [] Tryz.f32 = some m32 := by kernel_rfl
theorem ok33 : compFn Tryz.prog [] Tryz.f33 = some m33 := by kernel_rfl
theorem ok34 : compFn Tryz.prog [] Tryz.f34 = some m34 := by kernel_rfl
theorem ok35 : compFn Tryz.prog [157] Tryz.f35 = some m35 := by kernel_rfl
theorem ok36 : compFn Tryz.prog [] Tryz.f36 = some m36 := by kernel_rfl
theorem ok37 : compFn Tryz.prog [43] Tryz.f37 = some m37 := by kernel_rfl
theorem ok38 : compFn Tryz.prog [] Tryz.f38 = some m38 := by kernel_rfl
theorem ok39 : compFn Tryz.prog [] Tryz.f39 = some m39 := by kernel_rfl
theorem ok40 : compFn Tryz.prog [] Tryz.f40 = some m40 := by kernel_rfl
theorem ok41 : compFn Tryz.prog [] Tryz.f41 = some m41 := by kernel_rfl
theorem ok42 : compFn Tryz.prog [] Tryz.f42 = some m42 := by kernel_rfl
end Go.Abs.W
