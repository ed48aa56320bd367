import Derived.Test.YtnjoledlgacpeaaShapes
import Derived.Test.YtnjoledlgacpeaaKont2
set_option linter.unusedVariables false
set_option linter.unusedSimpArgs false
/-
  What an argument of the quota's statements is: Lean's own data.
-/
namespace Go.Abs
open Go
variable {P : Program}
/-- An array of numbers. -/
theorem arg_iarr {t e : TypeId} {n : Nat} {x : D} (ht : P.underlying t = some (.array n e)) (he : P.underlying e = some (.int .i64)) (h : ArgOf P t x) : ∃ l : List Int, x = .agg (l.map (.int .i64)) ∧ l.length = n ∧ ∀ v ∈ l, InI64 v := by
  unfold ArgOf at h
  rw [ht] at h
  obtain ⟨ds, rfl, hw⟩ := h
  cases hw with
  | bool hu b => rw [ht] at hu; cases hu
  | int hu n hw => rw [ht] at hu; cases hu
  | str hu s hs => rw [ht] at hu; cases hu
  | slice hu es hl hes => rw [ht] at hu; cases hu
  | struct hu parts hl hp => rw [ht] at hu; cases hu
  | array hu parts hl hp =>
    rw [ht] at hu
    cases hu
    have : ∀ parts : List (List D), (∀ p ∈ parts, Wf P e p) → ∃ l : List Int, parts.flatten = l.map (.int .i64) ∧ l.length = parts.length ∧ ∀ v ∈ l, InI64 v := by
      intro parts
      induction parts with
      | nil => exact fun _ => ⟨[], rfl, rfl, fun _ h => by cases h⟩
      | cons p parts ih =>
        intro hp
        obtain ⟨b, rfl, hb⟩ := wf_i64 he (hp p (by simp))
        obtain ⟨l, h1, h2, h3⟩ := ih (fun q hq => hp q (by simp [hq]))
        refine ⟨b :: l, by simp [h1, eInt], by simp [h2], fun v hv => ?_⟩
        rcases List.mem_cons.1 hv with rfl | hv
        · exact hb
        · exact h3 v hv
    obtain ⟨l, h1, h2, h3⟩ := this parts hp
    exact ⟨l, by rw [h1], by rw [h2, hl], h3⟩
theorem arg_iarr3 {t e : TypeId} {x : D} (ht : P.underlying t = some (.array 3 e)) (he : P.underlying e = some (.int .i64)) (h : ArgOf P t x) : ∃ a b c : Int, x = .agg [.int .i64 a, .int .i64 b, .int .i64 c] := by
  obtain ⟨l, rfl, hl, _⟩ := arg_iarr ht he h
  match l, hl with
  | [a, b, c], _ => exact ⟨a, b, c, rfl⟩
theorem arg_u16s {t e : TypeId} {x : D} (ht : P.underlying t = some (.slice e)) (he : P.underlying e = some (.int .u16)) (h : ArgOf P t x) : ∃ l, x = .sl (u16s l) none ∧ l.length ≤ maxLen ∧ ∀ n ∈ l, 0 ≤ n ∧ n ≤ 65535 :=
  wf_sl (f := fun n => [.int .u16 n]) ht (fun l hl => wf_u16 he hl) (argOf_one h (fun fs hu => by rw [ht] at hu; cases hu) (fun n e hu => by rw [ht] at hu; cases hu))
theorem arg_u8s {t e : TypeId} {x : D} (ht : P.underlying t = some (.slice e)) (he : P.underlying e = some (.int .u8)) (h : ArgOf P t x) : ∃ l, x = .sl (u8s l) none ∧ l.length ≤ maxLen ∧ ∀ n ∈ l, 0 ≤ n ∧ n ≤ 255 :=
  wf_sl (f := fun n => [.int .u8 n]) ht (fun l hl => wf_u8 he hl) (argOf_one h (fun fs hu => by rw [ht] at hu; cases hu) (fun n e hu => by rw [ht] at hu; cases hu))
def ActR.ok (x : ActR) : Prop := InI64 x.kind ∧ x.a.length ≤ maxLen ∧ x.b.length ≤ maxLen ∧ InI64 x.n
theorem wf_str {t : TypeId} {l : List D} (ht : P.underlying t = some .string) (h : Wf P t l) : ∃ s, l = [.str s] ∧ s.length ≤ maxLen := by
  cases h with
  | bool hu b => rw [ht] at hu; cases hu
  | int hu n hw => rw [ht] at hu; cases hu
  | str hu s hs => exact ⟨s, rfl, hs⟩
  | slice hu es hl hes => rw [ht] at hu; cases hu
  | struct hu parts hl hf => rw [ht] at hu; cases hu
  | array hu _ _ _ => rw [ht] at hu; cases hu
theorem map_four {α β : Type} {f : α → β} {l : List α} {x y z u : β} (h : l.map f = [x, y, z, u]) : ∃ a b c d, l = [a, b, c, d] ∧ f a = x ∧ f b = y ∧ f c = z ∧ f d = u := by
  match l, h with
  | [a, b, c, d], h =>
    simp only [List.map_cons, List.map_nil, List.cons.injEq, and_true] at h
    exact ⟨a, b, c, d, rfl, h.1, h.2.1, h.2.2.1, h.2.2.2⟩
theorem wf_act {t i s j : TypeId} {fs : Array Field} {l : List D} (ht : P.underlying t = some (.struct fs)) (hf : fs.toList.map (·.type) = [i, s, s, j]) (hi : P.underlying i = some (.int .i64)) (hs : P.underlying s = some .string) (hj : P.underlying j = some (.int .i64)) (h : Wf P t l) : ∃ x : ActR, l = x.cells ∧ x.ok := by
  cases h with
  | bool hu b => rw [ht] at hu; cases hu
  | int hu n hw => rw [ht] at hu; cases hu
  | str hu s hs => rw [ht] at hu; cases hu
  | slice hu es hl hes => rw [ht] at hu; cases hu
  | struct hu parts hl hp =>
    rw [ht] at hu
    cases hu
    generalize fs.toList = fl at hf hl hp
    obtain ⟨a, b, c, d, rfl, h1, h2, h3, h4⟩ := map_four hf
    match parts, hl with
    | [p0, p1, p2, p3], _ =>
      obtain ⟨n0, rfl, w0⟩ := wf_i64 (by rw [h1]; exact hi) (hp 0 a p0 rfl rfl)
      obtain ⟨n1, rfl, w1⟩ := wf_str (by rw [h2]; exact hs) (hp 1 b p1 rfl rfl)
      obtain ⟨n2, rfl, w2⟩ := wf_str (by rw [h3]; exact hs) (hp 2 c p2 rfl rfl)
      obtain ⟨n3, rfl, w3⟩ := wf_i64 (by rw [h4]; exact hj) (hp 3 d p3 rfl rfl)
      exact ⟨⟨n0, n1, n2, n3⟩, rfl, w0, w1, w2, w3⟩
  | array hu parts hl hp => rw [ht] at hu; cases hu
theorem arg_acts {t e i s j : TypeId} {fs : Array Field} {x : D} (ht : P.underlying t = some (.slice e)) (he : P.underlying e = some (.struct fs)) (hf : fs.toList.map (·.type) = [i, s, s, j]) (hi : P.underlying i = some (.int .i64)) (hs : P.underlying s = some .string) (hj : P.underlying j = some (.int .i64)) (h : ArgOf P t x) :
    ∃ l, x = .sl (acts l) none ∧ l.length ≤ maxLen ∧ ∀ a ∈ l, a.ok :=
  wf_sl ht (fun l hl => wf_act he hf hi hs hj hl) (argOf_one h (fun fs hu => by rw [ht] at hu; cases hu) (fun n e hu => by rw [ht] at hu; cases hu))
theorem arg_act {t i s j : TypeId} {fs : Array Field} {x : D} (ht : P.underlying t = some (.struct fs)) (hf : fs.toList.map (·.type) = [i, s, s, j]) (hi : P.underlying i = some (.int .i64)) (hs : P.underlying s = some .string) (hj : P.underlying j = some (.int .i64)) (h : ArgOf P t x) : ∃ a : ActR, x = .agg a.cells ∧ a.ok := by
  unfold ArgOf at h
  rw [ht] at h
  obtain ⟨ds, rfl, hw⟩ := h
  obtain ⟨a, rfl, ha⟩ := wf_act ht hf hi hs hj hw
  exact ⟨a, rfl, ha⟩
end Go.Abs
