/-
  A part of AnalyzeFew's proof.
-/
import Derived.Test.YthbfgdbbnapjeaaGreatCodeW
import Derived.Test.YthbfgdbbnapjeaaGreatRows
set_option linter.unusedVariables false
set_option linter.unusedSimpArgs false
namespace Go.Abs.W
open Go Go.Abs Go.Proofs
set_option maxRecDepth 100000
theorem ok84 : compFn Tryz.prog [] Tryz.f84 = some m84 := by kernel_rfl
theorem ok85 : compFn Tryz.prog [] Tryz.f85 = some m85 := by kernel_rfl
theorem ok86 : compFn Tryz.prog [] Tryz.f86 = some m86 := by kernel_rfl
theorem ok87 : compFn Tryz.prog [] Tryz.f87 = some m87 := by kernel_rfl
theorem ok88 : compFn Tryz.prog [] Tryz.f88 = some m88 := by kernel_rfl
theorem ok89 : compFn Tryz.prog [] Tryz.f89 = some m89 := by kernel_rfl
theorem ok90 : compFn Tryz.prog [] Tryz.f90 = some m90 := by kernel_rfl
theorem ok91 : compFn Tryz.prog [] Tryz.f91 = some m91 := by kernel_rfl
theorem ok92 : compFn Tryz.prog [207] Tryz.f92 = some m92 := by kernel_rfl
theorem ok93 : compFn Tryz.prog [] Tryz.f93 = some m93 := by kernel_rfl
theorem ok94 : compFn Tryz.prog [] Tryz.f94 = some m94 := by kernel_rfl
theorem ok96 : compFn Tryz.prog [] Tryz.f96 = some m96 := by kernel_rfl
theorem ok97 : compFn Tryz.prog [] Tryz.f97 = some m97 := by kernel_rfl
theorem ok98 : compFn Tryz.prog [] Tryz.f98 = some m98 := by kernel_rfl
theorem ok99 : compFn Tryz.prog [] Tryz.f99 = some m99 := by kernel_rfl
theorem ok101 : compFn Tryz.prog [] Tryz.f101 = some m101 := by kernel_rfl
theorem ok102 : compFn Tryz.prog [] Tryz.f102 = some m102 := by kernel_rfl
theorem ok103 : compFn Tryz.prog [] Tryz.f103 = some m103 := by kernel_rfl
theorem ok104 : compFn Tryz.prog [] Tryz.f104 = some m104 := by kernel_rfl
theorem ok106 : compFn Tryz.prog [] Tryz.f106 = some m106 := by kernel_rfl
theorem ok108 : compFn Tryz.prog [] Tryz.f108 = some m108 := by kernel_rfl
theorem ok110 : compFn Tryz.prog [] Tryz.f110 = some m110 := by kernel_rfl
theorem ok111 : compFn Tryz.prog [] Tryz.f111 = some m111 := by kernel_rfl
theorem ok112 : compFn Tryz.prog [9] Tryz.f112 = some m112 := by kernel_rfl
theorem ok113 : compFn Tryz.prog [] Tryz.f113 = some m113 := by kernel_rfl
theorem ok115 : compFn Tryz.prog [] Tryz.f115 = some m115 := by kernel_rfl
theorem ok116 : compFn Tryz.prog [] Tryz.f116 = some m116 := by kernel_rfl
theorem ok123 : compFn Tryz.prog [] Tryz.f123 = some m123 := by kernel_rfl
theorem ok124 : compFn Tryz.prog [] Tryz.f124 = some m124 := by kernel_rfl
theorem ok126 : compFn Tryz.prog [] Tryz.f126 = some m126 := by kernel_rfl
theorem ok135 : compFn Tryz.prog [] Tryz.f135 = some m135 := by kernel_rfl
theorem ok136 : compFn Tryz.prog [] Tryz.f136 = some m136 := by kernel_rfl
theorem ok139 : compFn Tryz.prog [] Tryz.f139 = some m139 := by kernel_rfl
theorem ok141 : compFn Tryz.prog [] Tryz.f141 = some m141 := by kernel_rfl
theorem ok142 : compFn Tryz.prog [] Tryz.f142 = some m142 := by kernel_rfl
theorem ok151 : compFn Tryz.prog [] Tryz.f151 = some m151 := by kernel_rfl
theorem ok163 : compFn Tryz.prog [] Tryz.f163 = some m163 := by kernel_rfl
theorem ok164 : compFn Tryz.prog [] Tryz.f164 = some m164 := by kernel_rfl
end Go.Abs.W
