import Derived.Test.YtlmgngibnioljaaGreatCodeT
import Derived.Test.YtlmgngibnioljaaGreatTmA
import Derived.Test.YtlmgngibnioljaaGreatRows
set_option linter.unusedVariables false
set_option linter.unusedSimpArgs false
/-
  The machine code is what the given program's functions compile to.
-/
namespace Go.Abs.T
open Go Go.Abs Go.Proofs
set_option maxRecDepth 100000 in
theorem ok93 : compFn Tryz.prog [9] Tryz.f93 = some m93 := by kernel_rfl
set_option maxRecDepth 100000 in
theorem ok94 : compFn Tryz.prog [] Tryz.f94 = some m94 := by kernel_rfl
set_option maxRecDepth 100000 in
theorem ok101 : compFn Tryz.prog [] Tryz.f101 = some m101 := by kernel_rfl
set_option maxRecDepth 100000 in
theorem ok102 : compFn Tryz.prog [] Tryz.f102 = some m102 := by kernel_rfl
set_option maxRecDepth 100000 in
theorem ok109 : compFn Tryz.prog [] Tryz.f109 = some m109 := by kernel_rfl
set_option maxRecDepth 100000 in
theorem ok110 : compFn Tryz.prog [] Tryz.f110 = some m110 := by kernel_rfl
set_option maxRecDepth 100000 in
theorem ok112 : compFn Tryz.prog [] Tryz.f112 = some m112 := by kernel_rfl
set_option maxRecDepth 100000 in
theorem ok121 : compFn Tryz.prog [] Tryz.f121 = some m121 := by kernel_rfl
set_option maxRecDepth 100000 in
theorem ok122 : compFn Tryz.prog [] Tryz.f122 = some m122 := by kernel_rfl
set_option maxRecDepth 100000 in
theorem ok123 : compFn Tryz.prog [] Tryz.f123 = some m123 := by kernel_rfl
set_option maxRecDepth 100000 in
theorem ok124 : compFn Tryz.prog [] Tryz.f124 = some m124 := by kernel_rfl
set_option maxRecDepth 100000 in
theorem ok126 : compFn Tryz.prog [] Tryz.f126 = some m126 := by kernel_rfl
theorem good127 : Good Tryz.prog 127 m127 :=
  clone_good (k1 := ⟨[], [], [], []⟩) (k2 := ⟨[], [], [], []⟩) (t := 38) (A := cA Tryz.f127.body) (D0 := cD Tryz.f127.body) (idB := (cB Tryz.f127.body).1) (opsB := (cB Tryz.f127.body).2) (idC := (cC Tryz.f127.body).1) (opsC := (cC Tryz.f127.body).2) (o1 := opAt (cB Tryz.f127.body).2 0) (o2 := opAt (cB Tryz.f127.body).2 1) (o3 := opAt (cC Tryz.f127.body).2 0)
    (by kernel_rfl) Tryz.func127 (by kernel_rfl) (by kernel_rfl) ⟨by kernel_rfl, by kernel_rfl, by kernel_rfl⟩ ⟨by kernel_rfl, by kernel_rfl, by kernel_rfl⟩ (by kernel_rfl) ⟨by kernel_rfl, by kernel_rfl, by kernel_rfl⟩ (by kernel_rfl) (by kernel_rfl) (by kernel_rfl) (by kernel_rfl) (by kernel_rfl) (by kernel_rfl)
set_option maxRecDepth 100000 in
theorem ok128 : compFn Tryz.prog [3] Tryz.f128 = some m128 := by kernel_rfl
set_option maxRecDepth 100000 in
theorem ok129 : compFn Tryz.prog [] Tryz.f129 = some m129 := by kernel_rfl
set_option maxRecDepth 100000 in
theorem ok135 : compFn Tryz.prog [] Tryz.f135 = some m135 := by kernel_rfl
set_option maxRecDepth 100000 in
theorem ok138 : compFn Tryz.prog [] Tryz.f138 = some m138 := by kernel_rfl
set_option maxRecDepth 100000 in
theorem ok140 : compFn Tryz.prog [] Tryz.f140 = some m140 := by kernel_rfl
set_option maxRecDepth 100000 in
theorem ok146 : compFn Tryz.prog [] Tryz.f146 = some m146 := by kernel_rfl
set_option maxRecDepth 100000 in
theorem ok147 : compFn Tryz.prog [] Tryz.f147 = some m147 := by kernel_rfl
set_option maxRecDepth 100000 in
theorem ok148 : compFn Tryz.prog [] Tryz.f148 = some m148 := by kernel_rfl
set_option maxRecDepth 100000 in
theorem ok159 : compFn Tryz.prog [] Tryz.f159 = some m159 := by kernel_rfl
set_option maxRecDepth 100000 in
theorem ok160 : compFn Tryz.prog [] Tryz.f160 = some m160 := by kernel_rfl
set_option maxRecDepth 100000 in
theorem ok161 : compFn Tryz.prog [] Tryz.f161 = some m161 := by kernel_rfl
set_option maxRecDepth 100000 in
theorem ok162 : compFn Tryz.prog [] Tryz.f162 = some m162 := by kernel_rfl
set_option maxRecDepth 100000 in
theorem ok170 : compFn Tryz.prog [] Tryz.f170 = some m170 := by kernel_rfl
set_option maxRecDepth 100000 in
theorem ok171 : compFn Tryz.prog [] Tryz.f171 = some m171 := by kernel_rfl
set_option maxRecDepth 100000 in
theorem ok172 : compFn Tryz.prog [] Tryz.f172 = some m172 := by kernel_rfl
set_option maxRecDepth 100000 in
theorem ok176 : compFn Tryz.prog [] Tryz.f176 = some m176 := by kernel_rfl
set_option maxRecDepth 100000 in
theorem ok181 : compFn Tryz.prog [] Tryz.f181 = some m181 := by kernel_rfl
set_option maxRecDepth 100000 in
theorem ok182 : compFn Tryz.prog [] Tryz.f182 = some m182 := by kernel_rfl
set_option maxRecDepth 100000 in
theorem ok191 : compFn Tryz.prog [] Tryz.f191 = some m191 := by kernel_rfl
set_option maxRecDepth 100000 in
theorem ok203 : compFn Tryz.prog [] Tryz.f203 = some m203 := by kernel_rfl
set_option maxRecDepth 100000 in
theorem ok207 : compFn Tryz.prog [] Tryz.f207 = some m207 := by kernel_rfl
end Go.Abs.T
