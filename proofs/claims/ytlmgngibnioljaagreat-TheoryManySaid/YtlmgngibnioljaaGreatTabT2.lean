import Derived.Test.YtlmgngibnioljaaGreatCodeT
import Derived.Test.YtlmgngibnioljaaGreatTmA
import Derived.Test.YtlmgngibnioljaaGreatRows
set_option linter.unusedVariables false
set_option linter.unusedSimpArgs false
/-
  The machine code is what the given program's functions compile to.
-/
namespace Go.Abs.T
open Go Go.Abs Go.Proofs
set_option maxRecDepth 100000 in
theorem ok40 : compFn Tryz.prog [] Tryz.f40 = some m40 := by kernel_rfl
set_option maxRecDepth 100000 in
theorem ok41 : compFn Tryz.prog [] Tryz.f41 = some m41 := by kernel_rfl
set_option maxRecDepth 100000 in
theorem ok43 : compFn Tryz.prog [123] Tryz.f43 = some m43 := by kernel_rfl
set_option maxRecDepth 100000 in
theorem ok44 : compFn Tryz.prog [] Tryz.f44 = some m44 := by kernel_rfl
set_option maxRecDepth 100000 in
theorem ok45 : compFn Tryz.prog [] Tryz.f45 = some m45 := by kernel_rfl
set_option maxRecDepth 100000 in
theorem ok46 : compFn Tryz.prog [] Tryz.f46 = some m46 := by kernel_rfl
set_option maxRecDepth 100000 in
theorem ok47 : compFn Tryz.prog [] Tryz.f47 = some m47 := by kernel_rfl
set_option maxRecDepth 100000 in
theorem ok48 : compFn Tryz.prog [] Tryz.f48 = some m48 := by kernel_rfl
set_option maxRecDepth 100000 in
theorem ok50 : compFn Tryz.prog [] Tryz.f50 = some m50 := by kernel_rfl
set_option maxRecDepth 100000 in
theorem ok51 : compFn Tryz.prog [] Tryz.f51 = some m51 := by kernel_rfl
set_option maxRecDepth 100000 in
theorem ok55 : compFn Tryz.prog [] Tryz.f55 = some m55 := by kernel_rfl
set_option maxRecDepth 100000 in
theorem ok56 : compFn Tryz.prog [] Tryz.f56 = some m56 := by kernel_rfl
set_option maxRecDepth 100000 in
theorem ok57 : compFn Tryz.prog [] Tryz.f57 = some m57 := by kernel_rfl
set_option maxRecDepth 100000 in
theorem ok58 : compFn Tryz.prog [] Tryz.f58 = some m58 := by kernel_rfl
set_option maxRecDepth 100000 in
theorem ok59 : compFn Tryz.prog [] Tryz.f59 = some m59 := by kernel_rfl
set_option maxRecDepth 100000 in
theorem ok61 : compFn Tryz.prog [] Tryz.f61 = some m61 := by kernel_rfl
set_option maxRecDepth 100000 in
theorem ok62 : compFn Tryz.prog [] Tryz.f62 = some m62 := by kernel_rfl
set_option maxRecDepth 100000 in
theorem ok63 : compFn Tryz.prog [] Tryz.f63 = some m63 := by kernel_rfl
set_option maxRecDepth 100000 in
theorem ok67 : compFn Tryz.prog [] Tryz.f67 = some m67 := by kernel_rfl
set_option maxRecDepth 100000 in
theorem ok68 : compFn Tryz.prog [] Tryz.f68 = some m68 := by kernel_rfl
set_option maxRecDepth 100000 in
theorem ok69 : compFn Tryz.prog [] Tryz.f69 = some m69 := by kernel_rfl
set_option maxRecDepth 100000 in
theorem ok70 : compFn Tryz.prog [] Tryz.f70 = some m70 := by kernel_rfl
set_option maxRecDepth 100000 in
theorem ok72 : compFn Tryz.prog [] Tryz.f72 = some m72 := by kernel_rfl
set_option maxRecDepth 100000 in
theorem ok74 : compFn Tryz.prog [] Tryz.f74 = some m74 := by kernel_rfl
set_option maxRecDepth 100000 in
theorem ok75 : compFn Tryz.prog [] Tryz.f75 = some m75 := by kernel_rfl
set_option maxRecDepth 100000 in
theorem ok76 : compFn Tryz.prog [] Tryz.f76 = some m76 := by kernel_rfl
set_option maxRecDepth 100000 in
theorem ok77 : compFn Tryz.prog [] Tryz.f77 = some m77 := by kernel_rfl
set_option maxRecDepth 100000 in
theorem ok79 : compFn Tryz.prog [] Tryz.f79 = some m79 := by kernel_rfl
set_option maxRecDepth 100000 in
theorem ok80 : compFn Tryz.prog [] Tryz.f80 = some m80 := by kernel_rfl
set_option maxRecDepth 100000 in
theorem ok81 : compFn Tryz.prog [] Tryz.f81 = some m81 := by kernel_rfl
set_option maxRecDepth 100000 in
theorem ok82 : compFn Tryz.prog [] Tryz.f82 = some m82 := by kernel_rfl
set_option maxRecDepth 100000 in
theorem ok83 : compFn Tryz.prog [37, 123] Tryz.f83 = some m83 := by kernel_rfl
set_option maxRecDepth 100000 in
theorem ok84 : compFn Tryz.prog [] Tryz.f84 = some m84 := by kernel_rfl
set_option maxRecDepth 100000 in
theorem ok85 : compFn Tryz.prog [] Tryz.f85 = some m85 := by kernel_rfl
set_option maxRecDepth 100000 in
theorem ok92 : compFn Tryz.prog [] Tryz.f92 = some m92 := by kernel_rfl
end Go.Abs.T
