/-
  A part of AnalyzeFew's proof.
-/
import Derived.Test.YthbfgdbbnapjeaaGreatCodeW
import Derived.Test.YthbfgdbbnapjeaaGreatRows
set_option linter.unusedVariables false
set_option linter.unusedSimpArgs false
namespace Go.Abs.W
open Go Go.Abs Go.Proofs
set_option maxRecDepth 100000
theorem ok43 : compFn Tryz.prog [] Tryz.f43 = some m43 := by kernel_rfl
theorem ok44 : compFn Tryz.prog [] Tryz.f44 = some m44 := by kernel_rfl
theorem ok45 : compFn Tryz.prog [] Tryz.f45 = some m45 := by kernel_rfl
theorem ok46 : compFn Tryz.prog [] Tryz.f46 = some m46 := by kernel_rfl
theorem ok47 : compFn Tryz.prog [] Tryz.f47 = some m47 := by kernel_rfl
theorem ok48 : compFn Tryz.prog [] Tryz.f48 = some m48 := by kernel_rfl
theorem ok49 : compFn Tryz.prog [] Tryz.f49 = some m49 := by kernel_rfl
theorem ok50 : compFn Tryz.prog [] Tryz.f50 = some m50 := by kernel_rfl
theorem ok51 : compFn Tryz.prog [] Tryz.f51 = some m51 := by kernel_rfl
theorem ok52 : compFn Tryz.prog [] Tryz.f52 = some m52 := by kernel_rfl
theorem ok53 : compFn Tryz.prog [] Tryz.f53 = some m53 := by kernel_rfl
theorem ok54 : compFn Tryz.prog [] Tryz.f54 = some m54 := by kernel_rfl
theorem ok55 : compFn Tryz.prog [] Tryz.f55 = some m55 := by kernel_rfl
theorem ok56 : compFn Tryz.prog [] Tryz.f56 = some m56 := by kernel_rfl
theorem ok57 : compFn Tryz.prog [] Tryz.f57 = some m57 := by kernel_rfl
theorem ok58 : compFn Tryz.prog [] Tryz.f58 = some m58 := by kernel_rfl
theorem ok59 : compFn Tryz.prog [] Tryz.f59 = some m59 := by kernel_rfl
theorem ok60 : compFn Tryz.prog [] Tryz.f60 = some m60 := by kernel_rfl
theorem ok61 : compFn Tryz.prog [] Tryz.f61 = some m61 := by kernel_rfl
theorem ok62 : compFn Tryz.prog [] Tryz.f62 = some m62 := by kernel_rfl
theorem ok63 : compFn Tryz.prog [] Tryz.f63 = some m63 := by kernel_rfl
theorem ok64 : compFn Tryz.prog [] Tryz.f64 = some m64 := by kernel_rfl
theorem ok65 : compFn Tryz.prog [] Tryz.f65 = some m65 := by kernel_rfl
theorem ok67 : compFn Tryz.prog [157] Tryz.f67 = some m67 := by kernel_rfl
theorem ok68 : compFn Tryz.prog [] Tryz.f68 = some m68 := by kernel_rfl
theorem ok69 : compFn Tryz.prog [] Tryz.f69 = some m69 := by kernel_rfl
theorem ok70 : compFn Tryz.prog [] Tryz.f70 = some m70 := by kernel_rfl
theorem ok71 : compFn Tryz.prog [] Tryz.f71 = some m71 := by kernel_rfl
theorem ok72 : compFn Tryz.prog [] Tryz.f72 = some m72 := by kernel_rfl
theorem ok73 : compFn Tryz.prog [] Tryz.f73 = some m73 := by kernel_rfl
theorem ok74 : compFn Tryz.prog [] Tryz.f74 = some m74 := by kernel_rfl
theorem ok75 : compFn Tryz.prog [] Tryz.f75 = some m75 := by kernel_rfl
theorem ok76 : compFn Tryz.prog [] Tryz.f76 = some m76 := by kernel_rfl
theorem ok77 : compFn Tryz.prog [] Tryz.f77 = some m77 := by kernel_rfl
theorem ok78 : compFn Tryz.prog [] Tryz.f78 = some m78 := by kernel_rfl
theorem ok79 : compFn Tryz.prog [] Tryz.f79 = some m79 := by kernel_rfl
theorem ok80 : compFn Tryz.prog [] Tryz.f80 = some m80 := by kernel_rfl
theorem ok82 : compFn Tryz.prog [] Tryz.f82 = some m82 := by kernel_rfl
theorem ok83 : compFn Tryz.prog [] Tryz.f83 = some m83 := by kernel_rfl
end Go.Abs.W
