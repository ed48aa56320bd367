import Derived.Test.YtjmhfliaehhijaaShapes
import Derived.Test.YtjmhfliaehhijaaFm
set_option linter.unusedVariables false
set_option linter.unusedSimpArgs false
/-
  Arguments that are formulas.
-/
namespace Go.Abs
open Go
variable {P : Program}

theorem wf_fm {tF tK ti : TypeId} {fs : Array Field} (hF : P.underlying tF = some (.struct fs)) (hfs : fs.toList.map (·.type) = [ti, ti, tK]) (hK : P.underlying tK = some (.slice tF)) (hi : P.underlying ti = some (.int .i64))
    {t : TypeId} {l : List D} (h : Wf P t l) : (t = tF → ∃ f, l = eF f) ∧ (t = tK → ∃ ks, l = [.sl (eFs ks) none]) := by
  induction h with
  | bool hu b => exact ⟨fun e => (by rw [e, hF] at hu; cases hu), fun e => (by rw [e, hK] at hu; cases hu)⟩
  | int hu n hw => exact ⟨fun e => (by rw [e, hF] at hu; cases hu), fun e => (by rw [e, hK] at hu; cases hu)⟩
  | str hu s hs => exact ⟨fun e => (by rw [e, hF] at hu; cases hu), fun e => (by rw [e, hK] at hu; cases hu)⟩
  | slice hu es hl hes ih =>
    refine ⟨fun e => (by rw [e, hF] at hu; cases hu), fun e => ?_⟩
    rw [e, hK] at hu
    cases hu
    have : ∀ es : List (List D), (∀ x ∈ es, ∃ f, x = eF f) → ∃ ks, es = eFs ks := by
      intro es
      induction es with
      | nil => exact fun _ => ⟨[], by rw [eFs_map]; rfl⟩
      | cons x es ih2 =>
        intro hx
        obtain ⟨f, rfl⟩ := hx x (by simp)
        obtain ⟨ks, rfl⟩ := ih2 (fun y hy => hx y (by simp [hy]))
        exact ⟨f :: ks, by simp [eFs_map]⟩
    obtain ⟨ks, hks⟩ := this es (fun x hx => (ih x hx).1 rfl)
    exact ⟨ks, by rw [hks]⟩
  | struct hu parts hl hf ih =>
    refine ⟨fun e => ?_, fun e => (by rw [e, hK] at hu; cases hu)⟩
    rw [e, hF] at hu
    cases hu
    generalize fs.toList = fl at hfs hl hf ih
    obtain ⟨a, b, c, rfl, h1, h2, h3⟩ := map_three hfs
    match parts, hl with
    | [p0, p1, p2], _ =>
      obtain ⟨n0, rfl, _⟩ := wf_i64 (by rw [h1]; exact hi) (hf 0 a p0 rfl rfl)
      obtain ⟨n1, rfl, _⟩ := wf_i64 (by rw [h2]; exact hi) (hf 1 b p1 rfl rfl)
      obtain ⟨ks, rfl⟩ := (ih 2 c p2 rfl rfl).2 h3
      exact ⟨.mk n0 n1 ks, rfl⟩
  | array hu parts hl hp ih => exact ⟨fun e => (by rw [e, hF] at hu; cases hu), fun e => (by rw [e, hK] at hu; cases hu)⟩

/-- An argument that is a formula. -/
theorem arg_fm {tF tK ti : TypeId} {fs : Array Field} (hF : P.underlying tF = some (.struct fs)) (hfs : fs.toList.map (·.type) = [ti, ti, tK]) (hK : P.underlying tK = some (.slice tF)) (hi : P.underlying ti = some (.int .i64))
    {x : D} (h : ArgOf P tF x) : ∃ f, x = .agg (eF f) := by
  unfold ArgOf at h
  rw [hF] at h
  obtain ⟨ds, rfl, hw⟩ := h
  obtain ⟨f, rfl⟩ := (wf_fm hF hfs hK hi hw).1 rfl
  exact ⟨f, rfl⟩
/-- An argument that is a row of formulas. -/
theorem arg_fms {tF tK ti : TypeId} {fs : Array Field} (hF : P.underlying tF = some (.struct fs)) (hfs : fs.toList.map (·.type) = [ti, ti, tK]) (hK : P.underlying tK = some (.slice tF)) (hi : P.underlying ti = some (.int .i64))
    {x : D} (h : ArgOf P tK x) : ∃ ks, x = .sl (eFs ks) none := by
  obtain ⟨ks, hk⟩ := (wf_fm hF hfs hK hi (argOf_one h (fun fs hu => by rw [hK] at hu; cases hu) (fun n e hu => by rw [hK] at hu; cases hu))).2 rfl
  simp only [List.cons.injEq, and_true] at hk
  exact ⟨ks, hk⟩
end Go.Abs
