import Derived.Test.YtlmgngibnioljaaGreatCodeT
import Derived.Test.YtlmgngibnioljaaGreatTmA
import Derived.Test.YtlmgngibnioljaaGreatRows
set_option linter.unusedVariables false
set_option linter.unusedSimpArgs false
/-
  The machine code is what the given program's functions compile to.
-/
namespace Go.Abs.T
open Go Go.Abs Go.Proofs
set_option maxRecDepth 100000 in
theorem ok3 : compFn Tryz.prog [] Tryz.f3 = some m3 := by kernel_rfl
set_option maxRecDepth 100000 in
theorem ok4 : compFn Tryz.prog [] Tryz.f4 = some m4 := by kernel_rfl
set_option maxRecDepth 100000 in
theorem ok5 : compFn Tryz.prog [] Tryz.f5 = some m5 := by kernel_rfl
set_option maxRecDepth 100000 in
theorem ok6 : compFn Tryz.prog [] Tryz.f6 = some m6 := by kernel_rfl
set_option maxRecDepth 100000 in
theorem ok7 : compFn Tryz.prog [] Tryz.f7 = some m7 := by kernel_rfl
set_option maxRecDepth 100000 in
theorem ok8 : compFn Tryz.prog [] Tryz.f8 = some m8 := by kernel_rfl
set_option maxRecDepth 100000 in
theorem ok9 : compFn Tryz.prog [] Tryz.f9 = some m9 := by kernel_rfl
set_option maxRecDepth 100000 in
theorem ok10 : compFn Tryz.prog [] Tryz.f10 = some m10 := by kernel_rfl
set_option maxRecDepth 100000 in
theorem ok11 : compFn Tryz.prog [123] Tryz.f11 = some m11 := by kernel_rfl
set_option maxRecDepth 100000 in
theorem ok12 : compFn Tryz.prog [] Tryz.f12 = some m12 := by kernel_rfl
set_option maxRecDepth 100000 in
theorem ok13 : compFn Tryz.prog [] Tryz.f13 = some m13 := by kernel_rfl
set_option maxRecDepth 100000 in
theorem ok14 : compFn Tryz.prog [37] Tryz.f14 = some m14 := by kernel_rfl
set_option maxRecDepth 100000 in
theorem ok15 : compFn Tryz.prog [] Tryz.f15 = some m15 := by kernel_rfl
set_option maxRecDepth 100000 in
theorem ok16 : compFn Tryz.prog [] Tryz.f16 = some m16 := by kernel_rfl
set_option maxRecDepth 100000 in
theorem ok17 : compFn Tryz.prog [] Tryz.f17 = some m17 := by kernel_rfl
set_option maxRecDepth 100000 in
theorem ok18 : compFn Tryz.prog [] Tryz.f18 = some m18 := by kernel_rfl
set_option maxRecDepth 100000 in
theorem ok19 : compFn Tryz.prog [] Tryz.f19 = some m19 := by kernel_rfl
set_option maxRecDepth 100000 in
theorem ok20 : compFn Tryz.prog [] Tryz.f20 = some m20 := by kernel_rfl
set_option maxRecDepth 100000 in
theorem ok21 : compFn Tryz.prog [] Tryz.f21 = some m21 := by kernel_rfl
set_option maxRecDepth 100000 in
theorem ok22 : compFn Tryz.prog [] Tryz.f22 = some m22 := by kernel_rfl
set_option maxRecDepth 100000 in
theorem ok23 : compFn Tryz.prog [] Tryz.f23 = some m23 := by kernel_rfl
set_option maxRecDepth 100000 in
theorem ok24 : compFn Tryz.prog [] Tryz.f24 = some m24 := by kernel_rfl
set_option maxRecDepth 100000 in
theorem ok25 : compFn Tryz.prog [] Tryz.f25 = some m25 := by kernel_rfl
set_option maxRecDepth 100000 in
theorem ok26 : compFn Tryz.prog [] Tryz.f26 = some m26 := by kernel_rfl
set_option maxRecDepth 100000 in
theorem ok27 : compFn Tryz.prog [] Tryz.f27 = some m27 := by kernel_rfl
set_option maxRecDepth 100000 in
theorem ok28 : compFn Tryz.prog [] Tryz.f28 = some m28 := by kernel_rfl
set_option maxRecDepth 100000 in
theorem ok29 : compFn Tryz.prog [] Tryz.f29 = some m29 := by kernel_rfl
set_option maxRecDepth 100000 in
theorem ok30 : compFn Tryz.prog [] Tryz.f30 = some m30 := by kernel_rfl
set_option maxRecDepth 100000 in
theorem ok31 : compFn Tryz.prog [] Tryz.f31 = some m31 := by kernel_rfl
set_option maxRecDepth 100000 in
theorem ok32 : compFn Tryz.prog [] Tryz.f32 = some m32 := by kernel_rfl
set_option maxRecDepth 100000 in
theorem ok33 : compFn Tryz.prog [] Tryz.f33 = some m33 := by kernel_rfl
set_option maxRecDepth 100000 in
theorem ok34 : compFn Tryz.prog [] Tryz.f34 = some m34 := by kernel_rfl
set_option maxRecDepth 100000 in
theorem ok35 : compFn Tryz.prog [] Tryz.f35 = some m35 := by kernel_rfl
set_option maxRecDepth 100000 in
theorem ok36 : compFn Tryz.prog [] Tryz.f36 = some m36 := by kernel_rfl
set_option maxRecDepth 100000 in
theorem ok37 : compFn Tryz.prog [] Tryz.f37 = some m37 := by kernel_rfl
set_option maxRecDepth 100000 in
theorem ok38 : compFn Tryz.prog [] Tryz.f38 = some m38 := by kernel_rfl
end Go.Abs.T
