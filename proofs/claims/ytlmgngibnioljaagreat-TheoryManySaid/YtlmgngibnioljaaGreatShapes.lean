import Derived.Test.YtlmgngibnioljaaGreatTmA
import Derived.Test.YtlmgngibnioljaaGreatSem
set_option linter.unusedVariables false
set_option linter.unusedSimpArgs false
/-
  What an argument is, by its type: Lean's own data.
-/
namespace Go.Abs
open Go
variable {P : Program}

theorem argOf_one {t : TypeId} {x : D} (h : ArgOf P t x) (hn : ∀ fs, P.underlying t ≠ some (.struct fs)) (hn2 : ∀ n e, P.underlying t ≠ some (.array n e)) : Wf P t [x] := by
  unfold ArgOf at h
  split at h
  · rename_i fs hu
    exact absurd hu (hn fs)
  · rename_i n e hu
    exact absurd hu (hn2 n e)
  · exact h

theorem list_of {α : Type} {f : α → List D} {Q : α → Prop} {e : TypeId} : ∀ (es : List (List D)), (∀ x, Wf P e x → ∃ v, x = f v ∧ Q v) → (∀ x ∈ es, Wf P e x) → ∃ c : List α, es = c.map f ∧ ∀ v ∈ c, Q v
  | [], _, _ => ⟨[], rfl, fun _ h => by cases h⟩
  | x :: es, h, hw => by
    obtain ⟨v, rfl, hv⟩ := h x (hw _ (by simp))
    obtain ⟨c, rfl, hc⟩ := list_of es h (fun y hy => hw y (by simp [hy]))
    refine ⟨v :: c, rfl, fun w hw => ?_⟩
    rcases List.mem_cons.1 hw with rfl | h
    · exact hv
    · exact hc w h

theorem wf_sl {α : Type} {f : α → List D} {Q : α → Prop} {t e : TypeId} {x : D} (ht : P.underlying t = some (.slice e)) (he : ∀ x, Wf P e x → ∃ v, x = f v ∧ Q v) (h : Wf P t [x]) : ∃ c : List α, x = .sl (c.map f) none ∧ c.length ≤ maxLen ∧ ∀ v ∈ c, Q v := by
  generalize hx : [x] = l at h
  cases h with
  | bool hu b => rw [ht] at hu; cases hu
  | int hu n hw => rw [ht] at hu; cases hu
  | str hu s hs => rw [ht] at hu; cases hu
  | slice hu es hl hes =>
    rw [ht] at hu
    cases hu
    simp only [List.cons.injEq, and_true] at hx
    subst hx
    obtain ⟨c, rfl, hc⟩ := list_of es he hes
    exact ⟨c, rfl, by simpa using hl, hc⟩
  | struct hu parts hl hf => rw [ht] at hu; cases hu
  | array hu _ _ _ => rw [ht] at hu; cases hu

def InI64 (n : Int) : Prop := -9223372036854775808 ≤ n ∧ n ≤ 9223372036854775807

theorem wf_i64 {t : TypeId} {l : List D} (ht : P.underlying t = some (.int .i64)) (h : Wf P t l) : ∃ n, l = eInt n ∧ InI64 n := by
  cases h with
  | bool hu b => rw [ht] at hu; cases hu
  | int hu n hw =>
    rw [ht] at hu
    cases hu
    have h1 : IntKind.i64.min = -9223372036854775808 := rfl
    have h2 : IntKind.i64.max = 9223372036854775807 := rfl
    simp only [Lit.wf, Bool.and_eq_true, decide_eq_true_eq, h1, h2] at hw
    exact ⟨n, rfl, hw⟩
  | str hu s hs => rw [ht] at hu; cases hu
  | slice hu es hl hes => rw [ht] at hu; cases hu
  | struct hu parts hl hf => rw [ht] at hu; cases hu
  | array hu _ _ _ => rw [ht] at hu; cases hu

theorem wf_u16 {t : TypeId} {l : List D} (ht : P.underlying t = some (.int .u16)) (h : Wf P t l) : ∃ n, l = [.int .u16 n] ∧ 0 ≤ n ∧ n ≤ 65535 := by
  cases h with
  | bool hu b => rw [ht] at hu; cases hu
  | int hu n hw =>
    rw [ht] at hu
    cases hu
    have h1 : IntKind.u16.min = 0 := rfl
    have h2 : IntKind.u16.max = 65535 := rfl
    simp only [Lit.wf, Bool.and_eq_true, decide_eq_true_eq, h1, h2] at hw
    exact ⟨n, rfl, hw⟩
  | str hu s hs => rw [ht] at hu; cases hu
  | slice hu es hl hes => rw [ht] at hu; cases hu
  | struct hu parts hl hf => rw [ht] at hu; cases hu
  | array hu _ _ _ => rw [ht] at hu; cases hu
theorem arg_u16 {t : TypeId} {x : D} (ht : P.underlying t = some (.int .u16)) (h : ArgOf P t x) : ∃ n, x = .int .u16 n ∧ 0 ≤ n ∧ n ≤ 65535 := by
  obtain ⟨n, h1, h2⟩ := wf_u16 ht (argOf_one h (fun fs hu => by rw [ht] at hu; cases hu) (fun n e hu => by rw [ht] at hu; cases hu))
  simp only [List.cons.injEq, and_true] at h1
  exact ⟨n, h1, h2⟩
theorem wf_i8 {t : TypeId} {l : List D} (ht : P.underlying t = some (.int .i8)) (h : Wf P t l) : ∃ n, l = [.int .i8 n] ∧ -128 ≤ n ∧ n ≤ 127 := by
  cases h with
  | bool hu b => rw [ht] at hu; cases hu
  | int hu n hw =>
    rw [ht] at hu
    cases hu
    have h1 : IntKind.i8.min = -128 := rfl
    have h2 : IntKind.i8.max = 127 := rfl
    simp only [Lit.wf, Bool.and_eq_true, decide_eq_true_eq, h1, h2] at hw
    exact ⟨n, rfl, hw⟩
  | str hu s hs => rw [ht] at hu; cases hu
  | slice hu es hl hes => rw [ht] at hu; cases hu
  | struct hu parts hl hf => rw [ht] at hu; cases hu
  | array hu _ _ _ => rw [ht] at hu; cases hu
theorem wf_u8 {t : TypeId} {l : List D} (ht : P.underlying t = some (.int .u8)) (h : Wf P t l) : ∃ n, l = [.int .u8 n] ∧ 0 ≤ n ∧ n ≤ 255 := by
  cases h with
  | bool hu b => rw [ht] at hu; cases hu
  | int hu n hw =>
    rw [ht] at hu
    cases hu
    have h1 : IntKind.u8.min = 0 := rfl
    have h2 : IntKind.u8.max = 255 := rfl
    simp only [Lit.wf, Bool.and_eq_true, decide_eq_true_eq, h1, h2] at hw
    exact ⟨n, rfl, hw⟩
  | str hu s hs => rw [ht] at hu; cases hu
  | slice hu es hl hes => rw [ht] at hu; cases hu
  | struct hu parts hl hf => rw [ht] at hu; cases hu
  | array hu _ _ _ => rw [ht] at hu; cases hu
theorem wf_bool {t : TypeId} {l : List D} (ht : P.underlying t = some .bool) (h : Wf P t l) : ∃ b, l = [.bool b] := by
  cases h with
  | bool hu b => exact ⟨b, rfl⟩
  | int hu n hw => rw [ht] at hu; cases hu
  | str hu s hs => rw [ht] at hu; cases hu
  | slice hu es hl hes => rw [ht] at hu; cases hu
  | struct hu parts hl hf => rw [ht] at hu; cases hu
  | array hu _ _ _ => rw [ht] at hu; cases hu

/-- An argument that is a number. -/
theorem arg_i64 {t : TypeId} {x : D} (ht : P.underlying t = some (.int .i64)) (h : ArgOf P t x) : ∃ n, x = .int .i64 n ∧ InI64 n := by
  obtain ⟨n, h1, h2⟩ := wf_i64 ht (argOf_one h (fun fs hu => by rw [ht] at hu; cases hu) (fun n e hu => by rw [ht] at hu; cases hu))
  simp only [eInt, List.cons.injEq, and_true] at h1
  exact ⟨n, h1, h2⟩

/-- An argument that is a row of numbers. -/
theorem arg_ints {t e : TypeId} {x : D} (ht : P.underlying t = some (.slice e)) (he : P.underlying e = some (.int .i64)) (h : ArgOf P t x) : ∃ a, x = .sl (ints a) none ∧ a.length ≤ maxLen ∧ ∀ n ∈ a, InI64 n :=
  wf_sl ht (fun l hl => wf_i64 he hl) (argOf_one h (fun fs hu => by rw [ht] at hu; cases hu) (fun n e hu => by rw [ht] at hu; cases hu))

/-- An argument that is a row of rows of numbers. -/
theorem wf_ints {t e : TypeId} {l : List D} (ht : P.underlying t = some (.slice e)) (he : P.underlying e = some (.int .i64)) (h : Wf P t l) : ∃ a, l = eInts a ∧ a.length ≤ maxLen ∧ ∀ n ∈ a, InI64 n := by
  have hl : ∃ x, l = [x] := by
    cases h with
    | bool hu b => exact ⟨_, rfl⟩
    | int hu n hw => exact ⟨_, rfl⟩
    | str hu s hs => exact ⟨_, rfl⟩
    | slice hu es hl hes => exact ⟨_, rfl⟩
    | struct hu parts hl hf => rw [ht] at hu; cases hu
    | array hu _ _ _ => rw [ht] at hu; cases hu
  obtain ⟨x, rfl⟩ := hl
  obtain ⟨c, rfl, h1, h2⟩ := wf_sl ht (fun l hl => wf_i64 he hl) h
  exact ⟨c, rfl, h1, h2⟩
theorem arg_rows {t e q : TypeId} {x : D} (ht : P.underlying t = some (.slice e)) (he : P.underlying e = some (.slice q)) (hq : P.underlying q = some (.int .i64)) (h : ArgOf P t x) : ∃ l, x = .sl (rows l) none ∧ l.length ≤ maxLen ∧ ∀ c ∈ l, c.length ≤ maxLen ∧ ∀ n ∈ c, InI64 n :=
  wf_sl ht (fun l hl => wf_ints he hq hl) (argOf_one h (fun fs hu => by rw [ht] at hu; cases hu) (fun n e hu => by rw [ht] at hu; cases hu))
theorem arg_bools {t e : TypeId} {x : D} (ht : P.underlying t = some (.slice e)) (he : P.underlying e = some .bool) (h : ArgOf P t x) : ∃ l, x = .sl (bools l) none ∧ l.length ≤ maxLen ∧ ∀ b ∈ l, True :=
  wf_sl ht (fun l hl => let ⟨b, hb⟩ := wf_bool he hl; ⟨b, hb, trivial⟩) (argOf_one h (fun fs hu => by rw [ht] at hu; cases hu) (fun n e hu => by rw [ht] at hu; cases hu))
theorem map_three {α β : Type} {f : α → β} {l : List α} {x y z : β} (h : l.map f = [x, y, z]) : ∃ a b c, l = [a, b, c] ∧ f a = x ∧ f b = y ∧ f c = z := by
  match l, h with
  | [a, b, c], h =>
    simp only [List.map_cons, List.map_nil, List.cons.injEq, and_true] at h
    exact ⟨a, b, c, rfl, h.1, h.2.1, h.2.2⟩
theorem wf_trip {t i : TypeId} {fs : Array Field} {l : List D} (ht : P.underlying t = some (.struct fs)) (hf : fs.toList.map (·.type) = [i, i, i]) (hi : P.underlying i = some (.int .i64)) (h : Wf P t l) : ∃ s, l = eTrip s ∧ (InI64 s.1 ∧ InI64 s.2.1 ∧ InI64 s.2.2) := by
  cases h with
  | bool hu b => rw [ht] at hu; cases hu
  | int hu n hw => rw [ht] at hu; cases hu
  | str hu s hs => rw [ht] at hu; cases hu
  | slice hu es hl hes => rw [ht] at hu; cases hu
  | struct hu parts hl hp =>
    rw [ht] at hu
    cases hu
    generalize fs.toList = fl at hf hl hp
    obtain ⟨a, b, c, rfl, h1, h2, h3⟩ := map_three hf
    match parts, hl with
    | [p0, p1, p2], _ =>
      obtain ⟨n0, rfl, w0⟩ := wf_i64 (by rw [h1]; exact hi) (hp 0 a p0 rfl rfl)
      obtain ⟨n1, rfl, w1⟩ := wf_i64 (by rw [h2]; exact hi) (hp 1 b p1 rfl rfl)
      obtain ⟨n2, rfl, w2⟩ := wf_i64 (by rw [h3]; exact hi) (hp 2 c p2 rfl rfl)
      exact ⟨(n0, n1, n2), rfl, w0, w1, w2⟩
  | array hu parts hl hp => rw [ht] at hu; cases hu
theorem arg_i8s {t e : TypeId} {x : D} (ht : P.underlying t = some (.slice e)) (he : P.underlying e = some (.int .i8)) (h : ArgOf P t x) : ∃ l, x = .sl (i8s l) none ∧ l.length ≤ maxLen ∧ ∀ n ∈ l, -128 ≤ n ∧ n ≤ 127 :=
  wf_sl (f := fun n => [.int .i8 n]) ht (fun l hl => wf_i8 he hl) (argOf_one h (fun fs hu => by rw [ht] at hu; cases hu) (fun n e hu => by rw [ht] at hu; cases hu))
theorem arg_u8 {t : TypeId} {x : D} (ht : P.underlying t = some (.int .u8)) (h : ArgOf P t x) : ∃ n, x = .int .u8 n ∧ 0 ≤ n ∧ n ≤ 255 := by
  obtain ⟨n, h1, h2⟩ := wf_u8 ht (argOf_one h (fun fs hu => by rw [ht] at hu; cases hu) (fun n e hu => by rw [ht] at hu; cases hu))
  simp only [List.cons.injEq, and_true] at h1
  exact ⟨n, h1, h2⟩
/-- An array of truths. -/
theorem arg_barr {t e : TypeId} {n : Nat} {x : D} (ht : P.underlying t = some (.array n e)) (he : P.underlying e = some .bool) (h : ArgOf P t x) : ∃ l : List Bool, x = .agg (l.map .bool) ∧ l.length = n := by
  unfold ArgOf at h
  rw [ht] at h
  obtain ⟨ds, rfl, hw⟩ := h
  cases hw with
  | bool hu b => rw [ht] at hu; cases hu
  | int hu n hw => rw [ht] at hu; cases hu
  | str hu s hs => rw [ht] at hu; cases hu
  | slice hu es hl hes => rw [ht] at hu; cases hu
  | struct hu parts hl hp => rw [ht] at hu; cases hu
  | array hu parts hl hp =>
    rw [ht] at hu
    cases hu
    have : ∀ parts : List (List D), (∀ p ∈ parts, Wf P e p) → ∃ l : List Bool, parts.flatten = l.map .bool ∧ l.length = parts.length := by
      intro parts
      induction parts with
      | nil => exact fun _ => ⟨[], rfl, rfl⟩
      | cons p parts ih =>
        intro hp
        obtain ⟨b, rfl⟩ := wf_bool he (hp p (by simp))
        obtain ⟨l, h1, h2⟩ := ih (fun q hq => hp q (by simp [hq]))
        exact ⟨b :: l, by simp [h1], by simp [h2]⟩
    obtain ⟨l, h1, h2⟩ := this parts hp
    exact ⟨l, by rw [h1], by rw [h2, hl]⟩
theorem arg_trips {t e i : TypeId} {fs : Array Field} {x : D} (ht : P.underlying t = some (.slice e)) (he : P.underlying e = some (.struct fs)) (hf : fs.toList.map (·.type) = [i, i, i]) (hi : P.underlying i = some (.int .i64)) (h : ArgOf P t x) :
    ∃ l, x = .sl (trips l) none ∧ l.length ≤ maxLen ∧ ∀ s ∈ l, InI64 s.1 ∧ InI64 s.2.1 ∧ InI64 s.2.2 :=
  wf_sl ht (fun l hl => wf_trip he hf hi hl) (argOf_one h (fun fs hu => by rw [ht] at hu; cases hu) (fun n e hu => by rw [ht] at hu; cases hu))

/-- An argument that is a truth. -/
theorem arg_bool {t : TypeId} {x : D} (ht : P.underlying t = some .bool) (h : ArgOf P t x) : ∃ b, x = .bool b := by
  obtain ⟨b, h1⟩ := wf_bool ht (argOf_one h (fun fs hu => by rw [ht] at hu; cases hu) (fun n e hu => by rw [ht] at hu; cases hu))
  simp only [List.cons.injEq, and_true] at h1
  exact ⟨b, h1⟩
theorem args_two {t0 t1 : TypeId} {xs : List D} (h : ArgsOf P [t0, t1] xs) : ∃ x0 x1, xs = [x0, x1] ∧ ArgOf P t0 x0 ∧ ArgOf P t1 x1 := by
  match xs, h with
  | [x0, x1], h => exact ⟨x0, x1, rfl, h.1, h.2.1⟩
theorem args_three {t0 t1 t2 : TypeId} {xs : List D} (h : ArgsOf P [t0, t1, t2] xs) : ∃ x0 x1 x2, xs = [x0, x1, x2] ∧ ArgOf P t0 x0 ∧ ArgOf P t1 x1 ∧ ArgOf P t2 x2 := by
  match xs, h with
  | [x0, x1, x2], h => exact ⟨x0, x1, x2, rfl, h.1, h.2.1, h.2.2.1⟩
theorem args_one {t0 : TypeId} {xs : List D} (h : ArgsOf P [t0] xs) : ∃ x0, xs = [x0] ∧ ArgOf P t0 x0 := by
  match xs, h with
  | [x0], h => exact ⟨x0, rfl, h.1⟩
end Go.Abs
