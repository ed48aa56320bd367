import Derived.Test.YtnjoledlgacpeaaCodeC
import Derived.Test.YtnjoledlgacpeaaRow
import Derived.Test.YtnjoledlgacpeaaCopyH
import Derived.Test.YtnjoledlgacpeaaCodeD
set_option linter.unusedVariables false
set_option linter.unusedSimpArgs false
/-
  Seat C's machine code is what the given program's functions compile to, or they are told by what they answer.
-/
namespace Go.Abs.C
open Go Go.Abs Go.Proofs Go.Proofs.Ytnjoledlgacpeaa
def T : Table
  | 3 => some m3
  | 4 => some m4
  | 5 => some m5
  | 6 => some m6
  | 7 => some m7
  | 8 => some m8
  | 9 => some m9
  | 10 => some m10
  | 11 => some m11
  | 12 => some m12
  | 13 => some m13
  | 14 => some m14
  | 15 => some m15
  | 16 => some m16
  | 17 => some m17
  | 18 => some m18
  | 19 => some m19
  | 20 => some m20
  | 21 => some m21
  | 22 => some m22
  | 23 => some m23
  | 24 => some m24
  | 28 => some m28
  | 29 => some m29
  | 31 => some m31
  | 32 => some m32
  | 33 => some m33
  | 34 => some m34
  | 35 => some m35
  | 36 => some m36
  | 37 => some m37
  | 41 => some m41
  | 46 => some m46
  | 47 => some m47
  | 48 => some m48
  | 49 => some m49
  | 62 => some m62
  | 63 => some m63
  | 64 => some m64
  | _ => none
set_option maxRecDepth 100000 in
theorem ok3 : compFn Try.prog false Try.f3 = some m3 := by kernel_rfl
set_option maxRecDepth 100000 in
theorem ok4 : compFn Try.prog false Try.f4 = some m4 := by kernel_rfl
set_option maxRecDepth 100000 in
theorem ok5 : compFn Try.prog false Try.f5 = some m5 := by kernel_rfl
set_option maxRecDepth 100000 in
theorem ok6 : compFn Try.prog false Try.f6 = some m6 := by kernel_rfl
set_option maxRecDepth 100000 in
theorem ok7 : compFn Try.prog false Try.f7 = some m7 := by kernel_rfl
set_option maxRecDepth 100000 in
theorem ok8 : compFn Try.prog false Try.f8 = some m8 := by kernel_rfl
set_option maxRecDepth 100000 in
theorem ok9 : compFn Try.prog false Try.f9 = some m9 := by kernel_rfl
set_option maxRecDepth 100000 in
theorem ok10 : compFn Try.prog false Try.f10 = some m10 := by kernel_rfl
set_option maxRecDepth 100000 in
theorem ok11 : compFn Try.prog false Try.f11 = some m11 := by kernel_rfl
set_option maxRecDepth 100000 in
theorem ok12 : compFn Try.prog false Try.f12 = some m12 := by kernel_rfl
set_option maxRecDepth 100000 in
theorem ok15 : compFn Try.prog false Try.f15 = some m15 := by kernel_rfl
set_option maxRecDepth 100000 in
theorem ok17 : compFn Try.prog false Try.f17 = some m17 := by kernel_rfl
set_option maxRecDepth 100000 in
theorem ok19 : compFn Try.prog false Try.f19 = some m19 := by kernel_rfl
set_option maxRecDepth 100000 in
theorem ok20 : compFn Try.prog false Try.f20 = some m20 := by kernel_rfl
set_option maxRecDepth 100000 in
theorem ok21 : compFn Try.prog false Try.f21 = some m21 := by kernel_rfl
set_option maxRecDepth 100000 in
theorem ok22 : compFn Try.prog false Try.f22 = some m22 := by kernel_rfl
set_option maxRecDepth 100000 in
theorem ok23 : compFn Try.prog true Try.f23 = some m23 := by kernel_rfl
set_option maxRecDepth 100000 in
theorem ok24 : compFn Try.prog false Try.f24 = some m24 := by kernel_rfl
set_option maxRecDepth 100000 in
theorem ok29 : compFn Try.prog false Try.f29 = some m29 := by kernel_rfl
set_option maxRecDepth 100000 in
theorem ok32 : compFn Try.prog false Try.f32 = some m32 := by kernel_rfl
set_option maxRecDepth 100000 in
theorem ok33 : compFn Try.prog false Try.f33 = some m33 := by kernel_rfl
set_option maxRecDepth 100000 in
theorem ok34 : compFn Try.prog false Try.f34 = some m34 := by kernel_rfl
set_option maxRecDepth 100000 in
theorem ok35 : compFn Try.prog false Try.f35 = some m35 := by kernel_rfl
set_option maxRecDepth 100000 in
theorem ok36 : compFn Try.prog false Try.f36 = some m36 := by kernel_rfl
set_option maxRecDepth 100000 in
theorem ok37 : compFn Try.prog false Try.f37 = some m37 := by kernel_rfl
set_option maxRecDepth 100000 in
theorem ok41 : compFn Try.prog false Try.f41 = some m41 := by kernel_rfl
set_option maxRecDepth 100000 in
theorem ok46 : compFn Try.prog false Try.f46 = some m46 := by kernel_rfl
set_option maxRecDepth 100000 in
theorem ok47 : compFn Try.prog false Try.f47 = some m47 := by kernel_rfl
set_option maxRecDepth 100000 in
theorem ok48 : compFn Try.prog false Try.f48 = some m48 := by kernel_rfl
set_option maxRecDepth 100000 in
theorem ok49 : compFn Try.prog false Try.f49 = some m49 := by kernel_rfl
set_option maxRecDepth 100000 in
theorem ok62 : compFn Try.prog false Try.f62 = some m62 := by kernel_rfl
set_option maxRecDepth 100000 in
theorem ok63 : compFn Try.prog false Try.f63 = some m63 := by kernel_rfl
set_option maxRecDepth 100000 in
theorem ok64 : compFn Try.prog false Try.f64 = some m64 := by kernel_rfl
theorem tab_ok : TabOK Try.prog T := by
  intro f m h
  unfold T at h
  split at h
  · cases h
    exact ⟨Try.f3, Try.func3, .inl ⟨_, ok3⟩, by kernel_rfl⟩
  · cases h
    exact ⟨Try.f4, Try.func4, .inl ⟨_, ok4⟩, by kernel_rfl⟩
  · cases h
    exact ⟨Try.f5, Try.func5, .inl ⟨_, ok5⟩, by kernel_rfl⟩
  · cases h
    exact ⟨Try.f6, Try.func6, .inl ⟨_, ok6⟩, by kernel_rfl⟩
  · cases h
    exact ⟨Try.f7, Try.func7, .inl ⟨_, ok7⟩, by kernel_rfl⟩
  · cases h
    exact ⟨Try.f8, Try.func8, .inl ⟨_, ok8⟩, by kernel_rfl⟩
  · cases h
    exact ⟨Try.f9, Try.func9, .inl ⟨_, ok9⟩, by kernel_rfl⟩
  · cases h
    exact ⟨Try.f10, Try.func10, .inl ⟨_, ok10⟩, by kernel_rfl⟩
  · cases h
    exact ⟨Try.f11, Try.func11, .inl ⟨_, ok11⟩, by kernel_rfl⟩
  · cases h
    exact ⟨Try.f12, Try.func12, .inl ⟨_, ok12⟩, by kernel_rfl⟩
  · cases h
    exact ⟨Try.f13, Try.func13, .inr (.inr good13), by kernel_rfl⟩
  · cases h
    exact ⟨Try.f14, Try.func14, .inr (.inr good14), by kernel_rfl⟩
  · cases h
    exact ⟨Try.f15, Try.func15, .inl ⟨_, ok15⟩, by kernel_rfl⟩
  · cases h
    exact ⟨Try.f16, Try.func16, .inr (.inr good16), by kernel_rfl⟩
  · cases h
    exact ⟨Try.f17, Try.func17, .inl ⟨_, ok17⟩, by kernel_rfl⟩
  · cases h
    exact ⟨Try.f18, Try.func18, .inr (.inr good18), by kernel_rfl⟩
  · cases h
    exact ⟨Try.f19, Try.func19, .inl ⟨_, ok19⟩, by kernel_rfl⟩
  · cases h
    exact ⟨Try.f20, Try.func20, .inl ⟨_, ok20⟩, by kernel_rfl⟩
  · cases h
    exact ⟨Try.f21, Try.func21, .inl ⟨_, ok21⟩, by kernel_rfl⟩
  · cases h
    exact ⟨Try.f22, Try.func22, .inl ⟨_, ok22⟩, by kernel_rfl⟩
  · cases h
    exact ⟨Try.f23, Try.func23, .inl ⟨_, ok23⟩, by kernel_rfl⟩
  · cases h
    exact ⟨Try.f24, Try.func24, .inl ⟨_, ok24⟩, by kernel_rfl⟩
  · cases h
    exact ⟨Try.f28, Try.func28, .inr (.inr good28), by kernel_rfl⟩
  · cases h
    exact ⟨Try.f29, Try.func29, .inl ⟨_, ok29⟩, by kernel_rfl⟩
  · cases h
    exact ⟨Try.f31, Try.func31, .inr (.inr good31), by kernel_rfl⟩
  · cases h
    exact ⟨Try.f32, Try.func32, .inl ⟨_, ok32⟩, by kernel_rfl⟩
  · cases h
    exact ⟨Try.f33, Try.func33, .inl ⟨_, ok33⟩, by kernel_rfl⟩
  · cases h
    exact ⟨Try.f34, Try.func34, .inl ⟨_, ok34⟩, by kernel_rfl⟩
  · cases h
    exact ⟨Try.f35, Try.func35, .inl ⟨_, ok35⟩, by kernel_rfl⟩
  · cases h
    exact ⟨Try.f36, Try.func36, .inl ⟨_, ok36⟩, by kernel_rfl⟩
  · cases h
    exact ⟨Try.f37, Try.func37, .inl ⟨_, ok37⟩, by kernel_rfl⟩
  · cases h
    exact ⟨Try.f41, Try.func41, .inl ⟨_, ok41⟩, by kernel_rfl⟩
  · cases h
    exact ⟨Try.f46, Try.func46, .inl ⟨_, ok46⟩, by kernel_rfl⟩
  · cases h
    exact ⟨Try.f47, Try.func47, .inl ⟨_, ok47⟩, by kernel_rfl⟩
  · cases h
    exact ⟨Try.f48, Try.func48, .inl ⟨_, ok48⟩, by kernel_rfl⟩
  · cases h
    exact ⟨Try.f49, Try.func49, .inl ⟨_, ok49⟩, by kernel_rfl⟩
  · cases h
    exact ⟨Try.f62, Try.func62, .inl ⟨_, ok62⟩, by kernel_rfl⟩
  · cases h
    exact ⟨Try.f63, Try.func63, .inl ⟨_, ok63⟩, by kernel_rfl⟩
  · cases h
    exact ⟨Try.f64, Try.func64, .inl ⟨_, ok64⟩, by kernel_rfl⟩
  · cases h
end Go.Abs.C
