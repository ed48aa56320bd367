import Derived.Test.YtjmhfliaehhijaaCodeA
import Derived.Test.YtjmhfliaehhijaaClone
import Derived.Test.YtjmhfliaehhijaaRow
import Derived.Test.YtjmhfliaehhijaaRows
set_option linter.unusedVariables false
set_option linter.unusedSimpArgs false
/-
  Seat A's machine code is what the given program's functions compile to.
-/
namespace Go.Abs.A
open Go Go.Abs Go.Proofs Go.Proofs.Ytjmhfliaehhijaa
theorem hmix : Try.prog.follows .mixedOrders = true := by kernel_rfl
set_option maxRecDepth 100000 in
theorem ok3 : compFn Try.prog false Try.f3 = some m3 := by kernel_rfl
set_option maxRecDepth 100000 in
theorem ok4 : compFn Try.prog false Try.f4 = some m4 := by kernel_rfl
set_option maxRecDepth 100000 in
theorem ok5 : compFn Try.prog false Try.f5 = some m5 := by kernel_rfl
set_option maxRecDepth 100000 in
theorem ok6 : compFn Try.prog false Try.f6 = some m6 := by kernel_rfl
set_option maxRecDepth 100000 in
theorem ok7 : compFn Try.prog false Try.f7 = some m7 := by kernel_rfl
set_option maxRecDepth 100000 in
theorem ok8 : compFn Try.prog false Try.f8 = some m8 := by kernel_rfl
set_option maxRecDepth 100000 in
theorem ok9 : compFn Try.prog false Try.f9 = some m9 := by kernel_rfl
set_option maxRecDepth 100000 in
theorem ok10 : compFn Try.prog false Try.f10 = some m10 := by kernel_rfl
set_option maxRecDepth 100000 in
theorem ok11 : compFn Try.prog false Try.f11 = some m11 := by kernel_rfl
set_option maxRecDepth 100000 in
theorem ok12 : compFn Try.prog false Try.f12 = some m12 := by kernel_rfl
set_option maxRecDepth 100000 in
theorem ok13 : compFn Try.prog false Try.f13 = some m13 := by kernel_rfl
set_option maxRecDepth 100000 in
theorem ok14 : compFn Try.prog false Try.f14 = some m14 := by kernel_rfl
set_option maxRecDepth 100000 in
theorem ok15 : compFn Try.prog false Try.f15 = some m15 := by kernel_rfl
set_option maxRecDepth 100000 in
theorem ok16 : compFn Try.prog false Try.f16 = some m16 := by kernel_rfl
set_option maxRecDepth 100000 in
theorem ok17 : compFn Try.prog false Try.f17 = some m17 := by kernel_rfl
set_option maxRecDepth 100000 in
theorem ok18 : compFn Try.prog false Try.f18 = some m18 := by kernel_rfl
set_option maxRecDepth 100000 in
theorem ok19 : compFn Try.prog false Try.f19 = some m19 := by kernel_rfl
set_option maxRecDepth 100000 in
theorem ok20 : compFn Try.prog false Try.f20 = some m20 := by kernel_rfl
set_option maxRecDepth 100000 in
theorem ok21 : compFn Try.prog false Try.f21 = some m21 := by kernel_rfl
set_option maxRecDepth 100000 in
theorem ok22 : compFn Try.prog false Try.f22 = some m22 := by kernel_rfl
set_option maxRecDepth 100000 in
theorem ok23 : compFn Try.prog false Try.f23 = some m23 := by kernel_rfl
set_option maxRecDepth 100000 in
theorem ok24 : compFn Try.prog false Try.f24 = some m24 := by kernel_rfl
set_option maxRecDepth 100000 in
theorem ok25 : compFn Try.prog false Try.f25 = some m25 := by kernel_rfl
set_option maxRecDepth 100000 in
theorem ok26 : compFn Try.prog false Try.f26 = some m26 := by kernel_rfl
set_option maxRecDepth 100000 in
theorem ok27 : compFn Try.prog false Try.f27 = some m27 := by kernel_rfl
set_option maxRecDepth 100000 in
theorem ok28 : compFn Try.prog false Try.f28 = some m28 := by kernel_rfl
set_option maxRecDepth 100000 in
theorem ok29 : compFn Try.prog false Try.f29 = some m29 := by kernel_rfl
set_option maxRecDepth 100000 in
theorem ok30 : compFn Try.prog false Try.f30 = some m30 := by kernel_rfl
set_option maxRecDepth 100000 in
theorem ok31 : compFn Try.prog false Try.f31 = some m31 := by kernel_rfl
set_option maxRecDepth 100000 in
theorem ok32 : compFn Try.prog false Try.f32 = some m32 := by kernel_rfl
set_option maxRecDepth 100000 in
theorem ok33 : compFn Try.prog false Try.f33 = some m33 := by kernel_rfl
set_option maxRecDepth 100000 in
theorem ok34 : compFn Try.prog false Try.f34 = some m34 := by kernel_rfl
set_option maxRecDepth 100000 in
theorem ok35 : compFn Try.prog false Try.f35 = some m35 := by kernel_rfl
set_option maxRecDepth 100000 in
theorem ok36 : compFn Try.prog false Try.f36 = some m36 := by kernel_rfl
set_option maxRecDepth 100000 in
theorem ok37 : compFn Try.prog false Try.f37 = some m37 := by kernel_rfl
set_option maxRecDepth 100000 in
theorem ok38 : compFn Try.prog false Try.f38 = some m38 := by kernel_rfl
set_option maxRecDepth 100000 in
theorem ok39 : compFn Try.prog false Try.f39 = some m39 := by kernel_rfl
set_option maxRecDepth 100000 in
theorem ok40 : compFn Try.prog false Try.f40 = some m40 := by kernel_rfl
set_option maxRecDepth 100000 in
theorem ok41 : compFn Try.prog false Try.f41 = some m41 := by kernel_rfl
set_option maxRecDepth 100000 in
theorem ok42 : compFn Try.prog false Try.f42 = some m42 := by kernel_rfl
set_option maxRecDepth 100000 in
theorem ok43 : compFn Try.prog false Try.f43 = some m43 := by kernel_rfl
set_option maxRecDepth 100000 in
theorem ok44 : compFn Try.prog false Try.f44 = some m44 := by kernel_rfl
set_option maxRecDepth 100000 in
theorem ok45 : compFn Try.prog false Try.f45 = some m45 := by kernel_rfl
set_option maxRecDepth 100000 in
theorem ok46 : compFn Try.prog false Try.f46 = some m46 := by kernel_rfl
set_option maxRecDepth 100000 in
theorem ok47 : compFn Try.prog false Try.f47 = some m47 := by kernel_rfl
set_option maxRecDepth 100000 in
theorem ok48 : compFn Try.prog false Try.f48 = some m48 := by kernel_rfl
set_option maxRecDepth 100000 in
theorem ok49 : compFn Try.prog false Try.f49 = some m49 := by kernel_rfl
set_option maxRecDepth 100000 in
theorem ok50 : compFn Try.prog false Try.f50 = some m50 := by kernel_rfl
set_option maxRecDepth 100000 in
theorem ok51 : compFn Try.prog false Try.f51 = some m51 := by kernel_rfl
set_option maxRecDepth 100000 in
theorem ok52 : compFn Try.prog false Try.f52 = some m52 := by kernel_rfl
set_option maxRecDepth 100000 in
theorem ok53 : compFn Try.prog false Try.f53 = some m53 := by kernel_rfl
set_option maxRecDepth 100000 in
theorem ok54 : compFn Try.prog false Try.f54 = some m54 := by kernel_rfl
set_option maxRecDepth 100000 in
theorem ok55 : compFn Try.prog false Try.f55 = some m55 := by kernel_rfl
theorem tab_ok : TabOK Try.prog T := by
  intro f m h
  unfold T at h
  split at h
  · cases h
    exact ⟨Try.f3, Try.func3, .inl ⟨_, ok3⟩, by kernel_rfl⟩
  · cases h
    exact ⟨Try.f4, Try.func4, .inl ⟨_, ok4⟩, by kernel_rfl⟩
  · cases h
    exact ⟨Try.f5, Try.func5, .inl ⟨_, ok5⟩, by kernel_rfl⟩
  · cases h
    exact ⟨Try.f6, Try.func6, .inl ⟨_, ok6⟩, by kernel_rfl⟩
  · cases h
    exact ⟨Try.f7, Try.func7, .inl ⟨_, ok7⟩, by kernel_rfl⟩
  · cases h
    exact ⟨Try.f8, Try.func8, .inl ⟨_, ok8⟩, by kernel_rfl⟩
  · cases h
    exact ⟨Try.f9, Try.func9, .inl ⟨_, ok9⟩, by kernel_rfl⟩
  · cases h
    exact ⟨Try.f10, Try.func10, .inl ⟨_, ok10⟩, by kernel_rfl⟩
  · cases h
    exact ⟨Try.f11, Try.func11, .inl ⟨_, ok11⟩, by kernel_rfl⟩
  · cases h
    exact ⟨Try.f12, Try.func12, .inl ⟨_, ok12⟩, by kernel_rfl⟩
  · cases h
    exact ⟨Try.f13, Try.func13, .inl ⟨_, ok13⟩, by kernel_rfl⟩
  · cases h
    exact ⟨Try.f14, Try.func14, .inl ⟨_, ok14⟩, by kernel_rfl⟩
  · cases h
    exact ⟨Try.f15, Try.func15, .inl ⟨_, ok15⟩, by kernel_rfl⟩
  · cases h
    exact ⟨Try.f16, Try.func16, .inl ⟨_, ok16⟩, by kernel_rfl⟩
  · cases h
    exact ⟨Try.f17, Try.func17, .inl ⟨_, ok17⟩, by kernel_rfl⟩
  · cases h
    exact ⟨Try.f18, Try.func18, .inl ⟨_, ok18⟩, by kernel_rfl⟩
  · cases h
    exact ⟨Try.f19, Try.func19, .inl ⟨_, ok19⟩, by kernel_rfl⟩
  · cases h
    exact ⟨Try.f20, Try.func20, .inl ⟨_, ok20⟩, by kernel_rfl⟩
  · cases h
    exact ⟨Try.f21, Try.func21, .inl ⟨_, ok21⟩, by kernel_rfl⟩
  · cases h
    exact ⟨Try.f22, Try.func22, .inl ⟨_, ok22⟩, by kernel_rfl⟩
  · cases h
    exact ⟨Try.f23, Try.func23, .inl ⟨_, ok23⟩, by kernel_rfl⟩
  · cases h
    exact ⟨Try.f24, Try.func24, .inl ⟨_, ok24⟩, by kernel_rfl⟩
  · cases h
    exact ⟨Try.f25, Try.func25, .inl ⟨_, ok25⟩, by kernel_rfl⟩
  · cases h
    exact ⟨Try.f26, Try.func26, .inl ⟨_, ok26⟩, by kernel_rfl⟩
  · cases h
    exact ⟨Try.f27, Try.func27, .inl ⟨_, ok27⟩, by kernel_rfl⟩
  · cases h
    exact ⟨Try.f28, Try.func28, .inl ⟨_, ok28⟩, by kernel_rfl⟩
  · cases h
    exact ⟨Try.f29, Try.func29, .inl ⟨_, ok29⟩, by kernel_rfl⟩
  · cases h
    exact ⟨Try.f30, Try.func30, .inl ⟨_, ok30⟩, by kernel_rfl⟩
  · cases h
    exact ⟨Try.f31, Try.func31, .inl ⟨_, ok31⟩, by kernel_rfl⟩
  · cases h
    exact ⟨Try.f32, Try.func32, .inl ⟨_, ok32⟩, by kernel_rfl⟩
  · cases h
    exact ⟨Try.f33, Try.func33, .inl ⟨_, ok33⟩, by kernel_rfl⟩
  · cases h
    exact ⟨Try.f34, Try.func34, .inl ⟨_, ok34⟩, by kernel_rfl⟩
  · cases h
    exact ⟨Try.f35, Try.func35, .inl ⟨_, ok35⟩, by kernel_rfl⟩
  · cases h
    exact ⟨Try.f36, Try.func36, .inl ⟨_, ok36⟩, by kernel_rfl⟩
  · cases h
    exact ⟨Try.f37, Try.func37, .inl ⟨_, ok37⟩, by kernel_rfl⟩
  · cases h
    exact ⟨Try.f38, Try.func38, .inl ⟨_, ok38⟩, by kernel_rfl⟩
  · cases h
    exact ⟨Try.f39, Try.func39, .inl ⟨_, ok39⟩, by kernel_rfl⟩
  · cases h
    exact ⟨Try.f40, Try.func40, .inl ⟨_, ok40⟩, by kernel_rfl⟩
  · cases h
    exact ⟨Try.f41, Try.func41, .inl ⟨_, ok41⟩, by kernel_rfl⟩
  · cases h
    exact ⟨Try.f42, Try.func42, .inl ⟨_, ok42⟩, by kernel_rfl⟩
  · cases h
    exact ⟨Try.f43, Try.func43, .inl ⟨_, ok43⟩, by kernel_rfl⟩
  · cases h
    exact ⟨Try.f44, Try.func44, .inl ⟨_, ok44⟩, by kernel_rfl⟩
  · cases h
    exact ⟨Try.f45, Try.func45, .inl ⟨_, ok45⟩, by kernel_rfl⟩
  · cases h
    exact ⟨Try.f46, Try.func46, .inl ⟨_, ok46⟩, by kernel_rfl⟩
  · cases h
    exact ⟨Try.f47, Try.func47, .inl ⟨_, ok47⟩, by kernel_rfl⟩
  · cases h
    exact ⟨Try.f48, Try.func48, .inl ⟨_, ok48⟩, by kernel_rfl⟩
  · cases h
    exact ⟨Try.f49, Try.func49, .inl ⟨_, ok49⟩, by kernel_rfl⟩
  · cases h
    exact ⟨Try.f50, Try.func50, .inl ⟨_, ok50⟩, by kernel_rfl⟩
  · cases h
    exact ⟨Try.f51, Try.func51, .inl ⟨_, ok51⟩, by kernel_rfl⟩
  · cases h
    exact ⟨Try.f52, Try.func52, .inl ⟨_, ok52⟩, by kernel_rfl⟩
  · cases h
    exact ⟨Try.f53, Try.func53, .inl ⟨_, ok53⟩, by kernel_rfl⟩
  · cases h
    exact ⟨Try.f54, Try.func54, .inl ⟨_, ok54⟩, by kernel_rfl⟩
  · cases h
    exact ⟨Try.f55, Try.func55, .inl ⟨_, ok55⟩, by kernel_rfl⟩
  · cases h
end Go.Abs.A
