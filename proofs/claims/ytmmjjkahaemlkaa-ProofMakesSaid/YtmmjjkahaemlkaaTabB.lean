/-
  Seat B's machine code is what the given program's functions compile to.
-/
import Derived.Test.YtmmjjkahaemlkaaCodeB
import Derived.Test.YtmmjjkahaemlkaaClone
import Derived.Test.YtmmjjkahaemlkaaRow
import Derived.Test.YtmmjjkahaemlkaaRows
namespace Go.Abs.B
open Go Go.Abs Go.Proofs Go.Proofs.Ytmmjjkahaemlkaa
theorem hmix : Try.prog.follows .mixedOrders = true := by kernel_rfl
theorem ok5 : compFn Try.prog false Try.f5 = some m5 := by kernel_rfl
theorem ok12 : compFn Try.prog false Try.f12 = some m12 := by kernel_rfl
theorem ok14 : compFn Try.prog false Try.f14 = some m14 := by kernel_rfl
theorem ok17 : compFn Try.prog false Try.f17 = some m17 := by kernel_rfl
theorem ok20 : compFn Try.prog false Try.f20 = some m20 := by kernel_rfl
theorem ok21 : compFn Try.prog false Try.f21 = some m21 := by kernel_rfl
theorem good28 : Good Try.prog 28 m28 :=
  clone_good (k1 := []) (k2 := []) (t := 34) (A := cA Try.f28.body) (D0 := cD Try.f28.body) (idB := (cB Try.f28.body).1) (opsB := (cB Try.f28.body).2) (idC := (cC Try.f28.body).1) (opsC := (cC Try.f28.body).2) (o1 := opAt (cB Try.f28.body).2 0) (o2 := opAt (cB Try.f28.body).2 1) (o3 := opAt (cC Try.f28.body).2 0)
    hmix Try.func28 (by kernel_rfl) (by kernel_rfl) ⟨by kernel_rfl, by kernel_rfl, by kernel_rfl⟩ ⟨by kernel_rfl, by kernel_rfl, by kernel_rfl⟩ (by kernel_rfl) ⟨by kernel_rfl, by kernel_rfl, by kernel_rfl⟩ (by kernel_rfl) (by kernel_rfl) (by kernel_rfl) (by kernel_rfl) (by kernel_rfl) (by kernel_rfl)
theorem ok29 : compFn Try.prog false Try.f29 = some m29 := by kernel_rfl
theorem ok30 : compFn Try.prog false Try.f30 = some m30 := by kernel_rfl
theorem ok32 : compFn Try.prog false Try.f32 = some m32 := by kernel_rfl
theorem ok33 : compFn Try.prog false Try.f33 = some m33 := by kernel_rfl
theorem ok34 : compFn Try.prog false Try.f34 = some m34 := by kernel_rfl
theorem ok40 : compFn Try.prog false Try.f40 = some m40 := by kernel_rfl
theorem ok41 : compFn Try.prog false Try.f41 = some m41 := by kernel_rfl
theorem tab_ok : TabOK Try.prog T := by
  intro f m h
  unfold T at h
  split at h
  · cases h
    exact ⟨Try.f5, Try.func5, .inl ok5, by kernel_rfl⟩
  · cases h
    exact ⟨Try.f12, Try.func12, .inl ok12, by kernel_rfl⟩
  · cases h
    exact ⟨Try.f14, Try.func14, .inl ok14, by kernel_rfl⟩
  · cases h
    exact ⟨Try.f17, Try.func17, .inl ok17, by kernel_rfl⟩
  · cases h
    exact ⟨Try.f20, Try.func20, .inl ok20, by kernel_rfl⟩
  · cases h
    exact ⟨Try.f21, Try.func21, .inl ok21, by kernel_rfl⟩
  · cases h
    exact ⟨Try.f28, Try.func28, .inr good28, by kernel_rfl⟩
  · cases h
    exact ⟨Try.f29, Try.func29, .inl ok29, by kernel_rfl⟩
  · cases h
    exact ⟨Try.f30, Try.func30, .inl ok30, by kernel_rfl⟩
  · cases h
    exact ⟨Try.f32, Try.func32, .inl ok32, by kernel_rfl⟩
  · cases h
    exact ⟨Try.f33, Try.func33, .inl ok33, by kernel_rfl⟩
  · cases h
    exact ⟨Try.f34, Try.func34, .inl ok34, by kernel_rfl⟩
  · cases h
    exact ⟨Try.f40, Try.func40, .inl ok40, by kernel_rfl⟩
  · cases h
    exact ⟨Try.f41, Try.func41, .inl ok41, by kernel_rfl⟩
  · cases h
end Go.Abs.B
