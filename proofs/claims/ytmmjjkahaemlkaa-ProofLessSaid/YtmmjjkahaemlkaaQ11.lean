import Derived.Test.YtmmjjkahaemlkaaKont
import Derived.Test.YtmmjjkahaemlkaaQ4
set_option linter.unusedVariables false
set_option linter.unusedSimpArgs false
/-
  Check of both for clauses; the statement SolveChecks as the machine code sees it.
-/
namespace Go.Abs.B
open Go Go.Abs
set_option maxRecDepth 8000
attribute [local irreducible] callN runC evalOp

/-- The first for which it is so, or -1. -/
def idxG {α : Type} (p : α → Bool) : List α → Int → Int
  | [], _ => -1
  | k :: ks, i => if p k then i else idxG p ks (i + 1)
theorem idxG_at {α : Type} (p : α → Bool) : ∀ (c : List α) (i : Nat) (j : Int) (h : i < c.length), (∀ x ∈ c.take i, p x = false) → p c[i] = true → idxG p c j = j + i
  | x :: xs, 0, j, _, _, h => by
    simp only [List.getElem_cons_zero] at h
    simp [idxG, h]
  | x :: xs, i + 1, j, hl, hn, h => by
    simp only [List.getElem_cons_succ] at h
    have h0 := hn x (by simp)
    have := idxG_at p xs i (j + 1) (by simpa using hl) (fun y hy => hn y (by simp [hy])) h
    simp only [idxG, h0, Bool.false_eq_true, if_false, this]
    omega
theorem idxG_none {α : Type} (p : α → Bool) : ∀ (c : List α) (j : Int), (∀ x ∈ c, p x = false) → idxG p c j = -1
  | [], _, _ => rfl
  | x :: xs, j, h => by
    simp only [idxG, h x (by simp), Bool.false_eq_true, if_false]
    exact idxG_none p xs (j + 1) (fun y hy => h y (by simp [hy]))
theorem idxG_ge {α : Type} (p : α → Bool) : ∀ (c : List α) (j : Int), 0 ≤ j → decide (idxG p c j ≥ 0) = c.any p
  | [], _, _ => rfl
  | x :: xs, j, h => by
    simp only [idxG, List.any_cons]
    by_cases hp : p x = true
    · simp [hp, h]
    · have hp' : p x = false := by simpa using hp
      simp only [hp', Bool.false_eq_true, if_false, Bool.false_or]
      exact idxG_ge p xs (j + 1) (by omega)
theorem take_noG {α : Type} {p : α → Bool} {c : List α} {i : Nat} (h : i < c.length) (hn : ∀ x ∈ c.take i, p x = false) (hp : p c[i] = false) : ∀ x ∈ c.take (i + 1), p x = false := by
  rw [List.take_succ_eq_append_getElem h]
  intro x hx
  rcases List.mem_append.1 hx with hx | hx
  · exact hn x hx
  · simp only [List.mem_singleton] at hx
    rw [hx]
    exact hp
def fIdx (ks : D) (len : Int) (fn : D) (i : Int) : Fr := Fr.mk ([ks, fn, .junk, .junk, .int .i64 0, .junk, .junk, .int .i64 len, .int .i64 i] ++ List.replicate 10 .junk) (List.replicate 19 none) []
def dInt (v : Int) : D := .int .i64 v
def dInts (c : List Int) : D := .sl (ints c) none
theorem indexI_ok (p : Int → Bool) (cf o1 : Nat) (ks : List Int) (o : Option Nat) (n : Nat) (σ : St) (hn : ks.length ≤ 200) (h12 : 200 < n) (hc : ∀ k ∈ ks, callN T n cf ([dInt k] ++ [.ptr o1 0]) σ = some (.bool (p k), σ)) :
    callN T (n + 1) 42 [.sl (ints ks) o, .func cf [.ptr o1 0]] σ = some (.int .i64 (idxG p ks 0), σ) := by
  refine call_of (m := m42) rfl rfl (by decide) (k_start ?_)
  unfold m42
  refine k_seq ?_
  refine rv (D.int IntKind.i64 (0 : Int)) ?_
  refine k_done (k_skip_seq (k_seq (k_seq ?_)))
  refine rv (D.sl (ints ks) none) ?_
  refine rve (D.int IntKind.i64 (↑(List.length (ints ks)) : Int)) (.int IntKind.i64 ((↑(List.length ks) : Int))) (by simp only [ints, eInt, rows, eInts, bools, eBool, trips, eTrip, List.length_map]) ?_
  refine rv (D.int IntKind.i64 (0 : Int)) ?_
  refine k_done (k_skip_seq (k_block ?_))
  refine k_loop (fun i : Nat => fIdx (.sl (ints ks) none) ks.length (.func cf [.ptr o1 0]) i) (fun _ => σ) (fun i => i ≤ ks.length ∧ ∀ x ∈ ks.take i, p x = false) (fun i => ks.length - i) 0 (by kernel_rfl) rfl (by simp) (by intro s hs; omega) ?_
  rintro i ⟨hi, hno⟩
  by_cases hlt : i < ks.length
  · have hcall := hc ks[i] (List.getElem_mem hlt)
    by_cases hp : p ks[i] = true
    · rw [hp] at hcall
      refine k_seq ?_
      refine rv (D.bool (decide ((↑i : Int) < (↑(List.length ks) : Int)))) ?_
      refine k_done (k_skip_seq (k_seq ?_))
      refine rkn 9 (decide ((↑i : Int) < (↑(List.length ks) : Int))) true (decide_eq_true (by omega)) ?_
      refine kct (k_skip_seq (k_seq (k_block (k_seq ?_))))
      refine rv (D.int IntKind.i64 (↑i : Int)) ?_
      refine ra0 (D.int IntKind.i64 (↑i : Int)) ?_
      refine k_done (k_skip_seq (k_seq ?_))
      refine rv (D.func cf [D.ptr o1 (0 : Nat)]) ?_
      refine rv (D.sl (ints ks) none) ?_
      refine rv (D.int IntKind.i64 (↑i : Int)) ?_
      refine runs_index (ks) (eInt) (o := none) (kd := IntKind.i64) (i) (by kernel_rfl) (by kernel_rfl) (by kernel_rfl) (by assumption) (by kernel_rfl) ?_
      refine rv (D.int IntKind.i64 ks[i]) ?_
      refine runs_callv_st (cf) ([D.ptr o1 (0 : Nat)]) ([D.int IntKind.i64 ks[i]]) ([D.int IntKind.i64 ks[i], D.ptr o1 (0 : Nat)]) (by kernel_rfl) (by kernel_rfl) (by kernel_rfl) (by kernel_rfl) (by kernel_rfl) (by kernel_rfl) (hcall) ?_
      refine k_done (k_skip_seq (kct (k_seq ?_)))
      refine rv (D.int IntKind.i64 (↑i : Int)) ?_
      refine ra0 (D.int IntKind.i64 (↑i : Int)) ?_
      refine k_done (k_skip_seq (k_ret ?_))
      refine ⟨.inr rfl, by kernel_rfl, ?_⟩
      rw [idxG_at p ks i 0 hlt hno hp, Int.zero_add]
      show _ = _
      kernel_rfl
    · have hp' : p ks[i] = false := by simpa using hp
      rw [hp'] at hcall
      refine k_seq ?_
      refine rv (D.bool (decide ((↑i : Int) < (↑(List.length ks) : Int)))) ?_
      refine k_done (k_skip_seq (k_seq ?_))
      refine rkn 9 (decide ((↑i : Int) < (↑(List.length ks) : Int))) true (decide_eq_true (by omega)) ?_
      refine kct (k_skip_seq (k_seq (k_block (k_seq ?_))))
      refine rv (D.int IntKind.i64 (↑i : Int)) ?_
      refine ra0 (D.int IntKind.i64 (↑i : Int)) ?_
      refine k_done (k_skip_seq (k_seq ?_))
      refine rv (D.func cf [D.ptr o1 (0 : Nat)]) ?_
      refine rv (D.sl (ints ks) none) ?_
      refine rv (D.int IntKind.i64 (↑i : Int)) ?_
      refine runs_index (ks) (eInt) (o := none) (kd := IntKind.i64) (i) (by kernel_rfl) (by kernel_rfl) (by kernel_rfl) (by assumption) (by kernel_rfl) ?_
      refine rv (D.int IntKind.i64 ks[i]) ?_
      refine runs_callv_st (cf) ([D.ptr o1 (0 : Nat)]) ([D.int IntKind.i64 ks[i]]) ([D.int IntKind.i64 ks[i], D.ptr o1 (0 : Nat)]) (by kernel_rfl) (by kernel_rfl) (by kernel_rfl) (by kernel_rfl) (by kernel_rfl) (by kernel_rfl) (hcall) ?_
      refine k_done (k_skip_seq (kcf (k_skip_block (k_skip_seq ?_))))
      refine rve (D.int IntKind.i64 (IntKind.wrap IntKind.i64 ((↑i : Int) + (1 : Int)))) (.int IntKind.i64 ((i + 1 : Nat) : Int)) (congrArg (D.int IntKind.i64) (show IntKind.wrap IntKind.i64 ((↑i : Int) + (1 : Int)) = ((i + 1 : Nat) : Int) from wrap_eq (by omega) (by omega) (by omega))) ?_
      refine rv (D.int IntKind.i64 (↑(i + (1 : Nat)) : Int)) ?_
      refine k_done (k_skip_back ?_)
      exact ⟨i + 1, ⟨hlt, take_noG hlt hno hp'⟩, by omega, by kernel_rfl, rfl⟩
  · rw [List.take_of_length_le (by omega)] at hno
    rw [idxG_none p ks 0 hno]
    refine k_seq ?_
    refine rv (D.bool (decide ((↑i : Int) < (↑(List.length ks) : Int)))) ?_
    refine k_done (k_skip_seq (k_seq ?_))
    refine rkn 9 (decide ((↑i : Int) < (↑(List.length ks) : Int))) false (decide_eq_false (by omega)) ?_
    refine kcf (k_exit_seq (k_exit_back (k_exit_hit rfl (k_skip_seq (k_seq ?_)))))
    refine rv (D.int IntKind.i64 (-1 : Int)) ?_
    refine k_done (k_skip_seq (k_ret ?_))
    exact ⟨.inr rfl, by kernel_rfl, by kernel_rfl⟩
theorem containsI_ok (p : Int → Bool) (cf o1 : Nat) (ks : List Int) (o : Option Nat) (n : Nat) (σ : St) (hn : ks.length ≤ 200) (h12 : 200 < n) (hc : ∀ k ∈ ks, callN T n cf ([dInt k] ++ [.ptr o1 0]) σ = some (.bool (p k), σ)) :
    callN T (n + 2) 37 [.sl (ints ks) o, .func cf [.ptr o1 0]] σ = some (.bool (ks.any p), σ) := by
  rw [← idxG_ge p ks 0 (Int.le_refl _)]
  refine call_of (m := m37) rfl rfl (by decide) (k_start ?_)
  unfold m37
  refine k_seq ?_
  refine rv (D.bool false) ?_
  refine k_done (k_skip_seq (k_seq ?_))
  refine rv (D.sl (ints ks) none) ?_
  refine rv (D.func cf [D.ptr o1 (0 : Nat)]) ?_
  refine runs_call_st ([D.sl (ints ks) none, D.func cf [D.ptr o1 (0 : Nat)]]) (by kernel_rfl) (by kernel_rfl) (by kernel_rfl) (by kernel_rfl) (indexI_ok p cf o1 ks _ n _ hn h12 hc) ?_
  refine rv (D.bool (decide (idxG p ks (0 : Int) ≥ (0 : Int)))) ?_
  refine ra0 (D.bool (decide (idxG p ks (0 : Int) ≥ (0 : Int)))) ?_
  refine k_done (k_skip_seq (k_ret ?_))
  exact ⟨.inr rfl, by kernel_rfl, by kernel_rfl⟩
theorem indexR_ok (p : (List Int) → Bool) (cf o1 : Nat) (ks : List (List Int)) (o : Option Nat) (n : Nat) (σ : St) (hn : ks.length ≤ 200) (h12 : 200 < n) (hc : ∀ k ∈ ks, callN T n cf ([dInts k] ++ [.ptr o1 0]) σ = some (.bool (p k), σ)) :
    callN T (n + 1) 40 [.sl (rows ks) o, .func cf [.ptr o1 0]] σ = some (.int .i64 (idxG p ks 0), σ) := by
  refine call_of (m := m40) rfl rfl (by decide) (k_start ?_)
  unfold m40
  refine k_seq ?_
  refine rv (D.int IntKind.i64 (0 : Int)) ?_
  refine k_done (k_skip_seq (k_seq (k_seq ?_)))
  refine rv (D.sl (rows ks) none) ?_
  refine rve (D.int IntKind.i64 (↑(List.length (rows ks)) : Int)) (.int IntKind.i64 ((↑(List.length ks) : Int))) (by simp only [ints, eInt, rows, eInts, bools, eBool, trips, eTrip, List.length_map]) ?_
  refine rv (D.int IntKind.i64 (0 : Int)) ?_
  refine k_done (k_skip_seq (k_block ?_))
  refine k_loop (fun i : Nat => fIdx (.sl (rows ks) none) ks.length (.func cf [.ptr o1 0]) i) (fun _ => σ) (fun i => i ≤ ks.length ∧ ∀ x ∈ ks.take i, p x = false) (fun i => ks.length - i) 0 (by kernel_rfl) rfl (by simp) (by intro s hs; omega) ?_
  rintro i ⟨hi, hno⟩
  by_cases hlt : i < ks.length
  · have hcall := hc ks[i] (List.getElem_mem hlt)
    by_cases hp : p ks[i] = true
    · rw [hp] at hcall
      refine k_seq ?_
      refine rv (D.bool (decide ((↑i : Int) < (↑(List.length ks) : Int)))) ?_
      refine k_done (k_skip_seq (k_seq ?_))
      refine rkn 9 (decide ((↑i : Int) < (↑(List.length ks) : Int))) true (decide_eq_true (by omega)) ?_
      refine kct (k_skip_seq (k_seq (k_block (k_seq ?_))))
      refine rv (D.int IntKind.i64 (↑i : Int)) ?_
      refine ra0 (D.int IntKind.i64 (↑i : Int)) ?_
      refine k_done (k_skip_seq (k_seq ?_))
      refine rv (D.func cf [D.ptr o1 (0 : Nat)]) ?_
      refine rv (D.sl (rows ks) none) ?_
      refine rv (D.int IntKind.i64 (↑i : Int)) ?_
      refine runs_index (ks) (eInts) (o := none) (kd := IntKind.i64) (i) (by kernel_rfl) (by kernel_rfl) (by kernel_rfl) (by assumption) (by kernel_rfl) ?_
      refine rv (D.sl (ints ks[i]) none) ?_
      refine runs_callv_st (cf) ([D.ptr o1 (0 : Nat)]) ([D.sl (ints ks[i]) none]) ([D.sl (ints ks[i]) none, D.ptr o1 (0 : Nat)]) (by kernel_rfl) (by kernel_rfl) (by kernel_rfl) (by kernel_rfl) (by kernel_rfl) (by kernel_rfl) (hcall) ?_
      refine k_done (k_skip_seq (kct (k_seq ?_)))
      refine rv (D.int IntKind.i64 (↑i : Int)) ?_
      refine ra0 (D.int IntKind.i64 (↑i : Int)) ?_
      refine k_done (k_skip_seq (k_ret ?_))
      refine ⟨.inr rfl, by kernel_rfl, ?_⟩
      rw [idxG_at p ks i 0 hlt hno hp, Int.zero_add]
      show _ = _
      kernel_rfl
    · have hp' : p ks[i] = false := by simpa using hp
      rw [hp'] at hcall
      refine k_seq ?_
      refine rv (D.bool (decide ((↑i : Int) < (↑(List.length ks) : Int)))) ?_
      refine k_done (k_skip_seq (k_seq ?_))
      refine rkn 9 (decide ((↑i : Int) < (↑(List.length ks) : Int))) true (decide_eq_true (by omega)) ?_
      refine kct (k_skip_seq (k_seq (k_block (k_seq ?_))))
      refine rv (D.int IntKind.i64 (↑i : Int)) ?_
      refine ra0 (D.int IntKind.i64 (↑i : Int)) ?_
      refine k_done (k_skip_seq (k_seq ?_))
      refine rv (D.func cf [D.ptr o1 (0 : Nat)]) ?_
      refine rv (D.sl (rows ks) none) ?_
      refine rv (D.int IntKind.i64 (↑i : Int)) ?_
      refine runs_index (ks) (eInts) (o := none) (kd := IntKind.i64) (i) (by kernel_rfl) (by kernel_rfl) (by kernel_rfl) (by assumption) (by kernel_rfl) ?_
      refine rv (D.sl (ints ks[i]) none) ?_
      refine runs_callv_st (cf) ([D.ptr o1 (0 : Nat)]) ([D.sl (ints ks[i]) none]) ([D.sl (ints ks[i]) none, D.ptr o1 (0 : Nat)]) (by kernel_rfl) (by kernel_rfl) (by kernel_rfl) (by kernel_rfl) (by kernel_rfl) (by kernel_rfl) (hcall) ?_
      refine k_done (k_skip_seq (kcf (k_skip_block (k_skip_seq ?_))))
      refine rve (D.int IntKind.i64 (IntKind.wrap IntKind.i64 ((↑i : Int) + (1 : Int)))) (.int IntKind.i64 ((i + 1 : Nat) : Int)) (congrArg (D.int IntKind.i64) (show IntKind.wrap IntKind.i64 ((↑i : Int) + (1 : Int)) = ((i + 1 : Nat) : Int) from wrap_eq (by omega) (by omega) (by omega))) ?_
      refine rv (D.int IntKind.i64 (↑(i + (1 : Nat)) : Int)) ?_
      refine k_done (k_skip_back ?_)
      exact ⟨i + 1, ⟨hlt, take_noG hlt hno hp'⟩, by omega, by kernel_rfl, rfl⟩
  · rw [List.take_of_length_le (by omega)] at hno
    rw [idxG_none p ks 0 hno]
    refine k_seq ?_
    refine rv (D.bool (decide ((↑i : Int) < (↑(List.length ks) : Int)))) ?_
    refine k_done (k_skip_seq (k_seq ?_))
    refine rkn 9 (decide ((↑i : Int) < (↑(List.length ks) : Int))) false (decide_eq_false (by omega)) ?_
    refine kcf (k_exit_seq (k_exit_back (k_exit_hit rfl (k_skip_seq (k_seq ?_)))))
    refine rv (D.int IntKind.i64 (-1 : Int)) ?_
    refine k_done (k_skip_seq (k_ret ?_))
    exact ⟨.inr rfl, by kernel_rfl, by kernel_rfl⟩
theorem containsR_ok (p : (List Int) → Bool) (cf o1 : Nat) (ks : List (List Int)) (o : Option Nat) (n : Nat) (σ : St) (hn : ks.length ≤ 200) (h12 : 200 < n) (hc : ∀ k ∈ ks, callN T n cf ([dInts k] ++ [.ptr o1 0]) σ = some (.bool (p k), σ)) :
    callN T (n + 2) 29 [.sl (rows ks) o, .func cf [.ptr o1 0]] σ = some (.bool (ks.any p), σ) := by
  rw [← idxG_ge p ks 0 (Int.le_refl _)]
  refine call_of (m := m29) rfl rfl (by decide) (k_start ?_)
  unfold m29
  refine k_seq ?_
  refine rv (D.bool false) ?_
  refine k_done (k_skip_seq (k_seq ?_))
  refine rv (D.sl (rows ks) none) ?_
  refine rv (D.func cf [D.ptr o1 (0 : Nat)]) ?_
  refine runs_call_st ([D.sl (rows ks) none, D.func cf [D.ptr o1 (0 : Nat)]]) (by kernel_rfl) (by kernel_rfl) (by kernel_rfl) (by kernel_rfl) (indexR_ok p cf o1 ks _ n _ hn h12 hc) ?_
  refine rv (D.bool (decide (idxG p ks (0 : Int) ≥ (0 : Int)))) ?_
  refine ra0 (D.bool (decide (idxG p ks (0 : Int) ≥ (0 : Int)))) ?_
  refine k_done (k_skip_seq (k_ret ?_))
  exact ⟨.inr rfl, by kernel_rfl, by kernel_rfl⟩

def wrongB (vars v : Int) : Bool := decide (v = 0) || decide (v > vars) || decide (v < 0 - vars)
def wrongC (vars : Int) (c : List Int) : Bool := c.any (wrongB vars)
def checkC (l : List (List Int)) (vars : Int) : Int := if vars < 0 ∨ vars > 20000 ∨ l.any (wrongC vars) = true then 1 else 0
def P0 (vars : Int) : Obj := .cells [.int .i64 vars]
def P1 : Obj := .cells [.func 35 [.ptr 0 0]]
theorem wrong_ok (n : Nat) (vars v : Int) (hv : 0 ≤ vars ∧ vars ≤ 20000) : callN T (n + 1) 35 [.int .i64 v, .ptr 0 0] [P0 vars, P1] = some (.bool (wrongB vars v), [P0 vars, P1]) := by
  refine call_of (m := m35) rfl rfl (by decide) (k_start ?_)
  unfold m35
  unfold wrongB
  by_cases c1 : v = 0
  · rw [decide_eq_true c1]
    refine k_seq ?_
    refine rv (D.bool false) ?_
    refine k_done (k_skip_seq (k_seq ?_))
    refine rv (D.int IntKind.i64 v) ?_
    refine rv (D.bool (v == (0 : Int))) ?_
    refine rv (D.bool (v == (0 : Int))) ?_
    refine rkn 6 (v == (0 : Int)) true (decide_eq_true (by assumption)) ?_
    refine rno (rno (rno ?_))
    refine rv (D.bool true) ?_
    refine rv (D.bool true) ?_
    refine rno (rno (rno (rno ?_)))
    refine rv (D.bool true) ?_
    refine ra0 (D.bool true) ?_
    refine k_done (k_skip_seq (k_ret ?_))
    exact ⟨.inr rfl, by kernel_rfl, by kernel_rfl⟩
  by_cases c2 : v > vars
  · rw [decide_eq_false c1, decide_eq_true c2]
    refine k_seq ?_
    refine rv (D.bool false) ?_
    refine k_done (k_skip_seq (k_seq ?_))
    refine rv (D.int IntKind.i64 v) ?_
    refine rv (D.bool (v == (0 : Int))) ?_
    refine rv (D.bool (v == (0 : Int))) ?_
    refine rkn 6 (v == (0 : Int)) false (decide_eq_false (by assumption)) ?_
    refine rv (D.int IntKind.i64 v) ?_
    refine rv (D.int IntKind.i64 vars) ?_
    refine rv (D.bool (decide (v > vars))) ?_
    refine rv (D.bool (decide (v > vars))) ?_
    refine rv (D.bool (decide (v > vars))) ?_
    refine rkn 11 (decide (v > vars)) true (decide_eq_true (by assumption)) ?_
    refine rno (rno (rno (rno ?_)))
    refine rv (D.bool true) ?_
    refine ra0 (D.bool true) ?_
    refine k_done (k_skip_seq (k_ret ?_))
    exact ⟨.inr rfl, by kernel_rfl, by kernel_rfl⟩
  · rw [decide_eq_false c1, decide_eq_false c2]
    refine k_seq ?_
    refine rv (D.bool false) ?_
    refine k_done (k_skip_seq (k_seq ?_))
    refine rv (D.int IntKind.i64 v) ?_
    refine rv (D.bool (v == (0 : Int))) ?_
    refine rv (D.bool (v == (0 : Int))) ?_
    refine rkn 6 (v == (0 : Int)) false (decide_eq_false (by assumption)) ?_
    refine rv (D.int IntKind.i64 v) ?_
    refine rv (D.int IntKind.i64 vars) ?_
    refine rv (D.bool (decide (v > vars))) ?_
    refine rv (D.bool (decide (v > vars))) ?_
    refine rv (D.bool (decide (v > vars))) ?_
    refine rkn 11 (decide (v > vars)) false (decide_eq_false (by assumption)) ?_
    refine rv (D.int IntKind.i64 v) ?_
    refine rv (D.int IntKind.i64 vars) ?_
    refine rve (D.int IntKind.i64 (IntKind.wrap IntKind.i64 ((0 : Int) - vars))) (.int IntKind.i64 ((0 : Int) - vars)) (congrArg (D.int IntKind.i64) (show IntKind.wrap IntKind.i64 ((0 : Int) - vars) = ((0 : Int) - vars) from wrap_eq (by omega) (by omega) (by omega))) ?_
    refine rv (D.bool (decide (v < (0 : Int) - vars))) ?_
    refine rv (D.bool (decide (v < (0 : Int) - vars))) ?_
    refine ra0 (D.bool (decide (v < (0 : Int) - vars))) ?_
    refine k_done (k_skip_seq (k_ret ?_))
    exact ⟨.inr rfl, by kernel_rfl, by kernel_rfl⟩
theorem wrongs_ok (n : Nat) (vars : Int) (c : List Int) (h12 : c.length ≤ 200) (hn : 200 < n) (hv : 0 ≤ vars ∧ vars ≤ 20000) : callN T (n + 4) 36 [dInts c, .ptr 1 0] [P0 vars, P1] = some (.bool (wrongC vars c), [P0 vars, P1]) := by
  have hcon := containsI_ok (wrongB vars) 35 0 c none (n + 1) [P0 vars, P1] h12 (by omega) (fun v _ => wrong_ok n vars v hv)
  have hm : wrongC vars c = c.any (wrongB vars) := rfl
  rw [hm]
  refine call_of (m := m36) rfl rfl (by decide) (k_start ?_)
  unfold m36
  refine k_seq ?_
  refine rv (D.bool false) ?_
  refine k_done (k_skip_seq (k_seq ?_))
  refine rv (D.sl (ints c) none) ?_
  refine rv (D.func (35 : Nat) [D.ptr (0 : Nat) (0 : Nat)]) ?_
  refine runs_call_st ([D.sl (ints c) none, D.func (35 : Nat) [D.ptr (0 : Nat) (0 : Nat)]]) (by kernel_rfl) (by kernel_rfl) (by kernel_rfl) (by kernel_rfl) (hcon) ?_
  refine ra0 (D.bool (List.any c (wrongB vars))) ?_
  refine k_done (k_skip_seq (k_ret ?_))
  exact ⟨.inr rfl, by kernel_rfl, by kernel_rfl⟩
theorem check_ok (n : Nat) (l : List (List Int)) (vars : Int) (o : Option Nat) (hn : 200 < n) (hl : l.length ≤ 200) (hc : ∀ c ∈ l, c.length ≤ 200) :
    ∃ σ, callN T (n + 7) 24 [.sl (rows l) o, .int .i64 vars] [] = some (.int .i64 (checkC l vars), σ) := by
  by_cases c1 : vars < 0
  · rw [show checkC l vars = 1 from if_pos (.inl c1)]
    refine ⟨[P0 vars], ?_⟩
    refine call_of (m := m24) rfl rfl (by decide) (k_start ?_)
    unfold m24
    refine k_seq ?_
    refine rgf (D.lptr (3 : Nat) (0 : Nat)) ([]) ?_
    refine rv (D.int IntKind.i64 (0 : Int)) ?_
    refine k_done (k_skip_seq (k_seq ?_))
    refine rgf (D.func (35 : Nat) [D.ptr (0 : Nat) (0 : Nat)]) ([Obj.cells [D.int IntKind.i64 vars]]) ?_
    refine rgf (D.lptr (5 : Nat) (0 : Nat)) ([Obj.cells [D.int IntKind.i64 vars]]) ?_
    refine rgf (D.junk) ([Obj.cells [D.int IntKind.i64 vars]]) ?_
    refine k_done (k_skip_seq (k_seq (k_seq ?_)))
    refine rv (D.int IntKind.i64 vars) ?_
    refine rv (D.bool (decide (vars < (0 : Int)))) ?_
    refine rv (D.bool (decide (vars < (0 : Int)))) ?_
    refine rkn 9 (decide (vars < (0 : Int))) true (decide_eq_true (by assumption)) ?_
    refine rno (rno ?_)
    refine rv (D.bool true) ?_
    refine rv (D.bool true) ?_
    refine rno (rno (rno ?_))
    refine rv (D.bool true) ?_
    refine k_done (k_skip_seq (kct (k_seq ?_)))
    refine rv (D.int IntKind.i64 (1 : Int)) ?_
    refine k_done (k_skip_seq (k_ret ?_))
    exact ⟨.inr rfl, by kernel_rfl, by kernel_rfl⟩
  by_cases c2 : vars > 20000
  · rw [show checkC l vars = 1 from if_pos (.inr (.inl c2))]
    refine ⟨[P0 vars], ?_⟩
    refine call_of (m := m24) rfl rfl (by decide) (k_start ?_)
    unfold m24
    refine k_seq ?_
    refine rgf (D.lptr (3 : Nat) (0 : Nat)) ([]) ?_
    refine rv (D.int IntKind.i64 (0 : Int)) ?_
    refine k_done (k_skip_seq (k_seq ?_))
    refine rgf (D.func (35 : Nat) [D.ptr (0 : Nat) (0 : Nat)]) ([Obj.cells [D.int IntKind.i64 vars]]) ?_
    refine rgf (D.lptr (5 : Nat) (0 : Nat)) ([Obj.cells [D.int IntKind.i64 vars]]) ?_
    refine rgf (D.junk) ([Obj.cells [D.int IntKind.i64 vars]]) ?_
    refine k_done (k_skip_seq (k_seq (k_seq ?_)))
    refine rv (D.int IntKind.i64 vars) ?_
    refine rv (D.bool (decide (vars < (0 : Int)))) ?_
    refine rv (D.bool (decide (vars < (0 : Int)))) ?_
    refine rkn 9 (decide (vars < (0 : Int))) false (decide_eq_false (by assumption)) ?_
    refine rv (D.int IntKind.i64 vars) ?_
    refine rv (D.bool (decide (vars > (20000 : Int)))) ?_
    refine rv (D.bool (decide (vars > (20000 : Int)))) ?_
    refine rv (D.bool (decide (vars > (20000 : Int)))) ?_
    refine rkn 13 (decide (vars > (20000 : Int))) true (decide_eq_true (by assumption)) ?_
    refine rno (rno (rno ?_))
    refine rv (D.bool true) ?_
    refine k_done (k_skip_seq (kct (k_seq ?_)))
    refine rv (D.int IntKind.i64 (1 : Int)) ?_
    refine k_done (k_skip_seq (k_ret ?_))
    exact ⟨.inr rfl, by kernel_rfl, by kernel_rfl⟩
  have hcon := containsR_ok (wrongC vars) 36 1 l none (n + 4) [P0 vars, P1] hl (by omega) (fun c h => wrongs_ok n vars c (hc c h) hn (by omega))
  refine ⟨[P0 vars, P1], ?_⟩
  refine call_of (m := m24) rfl rfl (by decide) (k_start ?_)
  unfold m24
  by_cases c3 : l.any (wrongC vars) = true
  · rw [show checkC l vars = 1 from if_pos (.inr (.inr c3))]
    rw [c3] at hcon
    refine k_seq ?_
    refine rgf (D.lptr (3 : Nat) (0 : Nat)) ([]) ?_
    refine rv (D.int IntKind.i64 (0 : Int)) ?_
    refine k_done (k_skip_seq (k_seq ?_))
    refine rgf (D.func (35 : Nat) [D.ptr (0 : Nat) (0 : Nat)]) ([Obj.cells [D.int IntKind.i64 vars]]) ?_
    refine rgf (D.lptr (5 : Nat) (0 : Nat)) ([Obj.cells [D.int IntKind.i64 vars]]) ?_
    refine rgf (D.junk) ([Obj.cells [D.int IntKind.i64 vars]]) ?_
    refine k_done (k_skip_seq (k_seq (k_seq ?_)))
    refine rv (D.int IntKind.i64 vars) ?_
    refine rv (D.bool (decide (vars < (0 : Int)))) ?_
    refine rv (D.bool (decide (vars < (0 : Int)))) ?_
    refine rkn 9 (decide (vars < (0 : Int))) false (decide_eq_false (by assumption)) ?_
    refine rv (D.int IntKind.i64 vars) ?_
    refine rv (D.bool (decide (vars > (20000 : Int)))) ?_
    refine rv (D.bool (decide (vars > (20000 : Int)))) ?_
    refine rv (D.bool (decide (vars > (20000 : Int)))) ?_
    refine rkn 13 (decide (vars > (20000 : Int))) false (decide_eq_false (by assumption)) ?_
    refine rv (D.sl (rows l) none) ?_
    refine rgf (D.func (36 : Nat) [D.ptr (1 : Nat) (0 : Nat)]) ([Obj.cells [D.int IntKind.i64 vars], Obj.cells [D.func (35 : Nat) [D.ptr (0 : Nat) (0 : Nat)]]]) ?_
    refine runs_call_st ([D.sl (rows l) none, D.func (36 : Nat) [D.ptr (1 : Nat) (0 : Nat)]]) (by kernel_rfl) (by kernel_rfl) (by kernel_rfl) (by kernel_rfl) (hcon) ?_
    refine rv (D.bool true) ?_
    refine k_done (k_skip_seq (kct (k_seq ?_)))
    refine rv (D.int IntKind.i64 (1 : Int)) ?_
    refine k_done (k_skip_seq (k_ret ?_))
    exact ⟨.inr rfl, by kernel_rfl, by kernel_rfl⟩
  · rw [show checkC l vars = 0 from if_neg (fun h => h.elim c1 (fun h => h.elim c2 c3))]
    have c3' : l.any (wrongC vars) = false := by simpa using c3
    rw [c3'] at hcon
    refine k_seq ?_
    refine rgf (D.lptr (3 : Nat) (0 : Nat)) ([]) ?_
    refine rv (D.int IntKind.i64 (0 : Int)) ?_
    refine k_done (k_skip_seq (k_seq ?_))
    refine rgf (D.func (35 : Nat) [D.ptr (0 : Nat) (0 : Nat)]) ([Obj.cells [D.int IntKind.i64 vars]]) ?_
    refine rgf (D.lptr (5 : Nat) (0 : Nat)) ([Obj.cells [D.int IntKind.i64 vars]]) ?_
    refine rgf (D.junk) ([Obj.cells [D.int IntKind.i64 vars]]) ?_
    refine k_done (k_skip_seq (k_seq (k_seq ?_)))
    refine rv (D.int IntKind.i64 vars) ?_
    refine rv (D.bool (decide (vars < (0 : Int)))) ?_
    refine rv (D.bool (decide (vars < (0 : Int)))) ?_
    refine rkn 9 (decide (vars < (0 : Int))) false (decide_eq_false (by assumption)) ?_
    refine rv (D.int IntKind.i64 vars) ?_
    refine rv (D.bool (decide (vars > (20000 : Int)))) ?_
    refine rv (D.bool (decide (vars > (20000 : Int)))) ?_
    refine rv (D.bool (decide (vars > (20000 : Int)))) ?_
    refine rkn 13 (decide (vars > (20000 : Int))) false (decide_eq_false (by assumption)) ?_
    refine rv (D.sl (rows l) none) ?_
    refine rgf (D.func (36 : Nat) [D.ptr (1 : Nat) (0 : Nat)]) ([Obj.cells [D.int IntKind.i64 vars], Obj.cells [D.func (35 : Nat) [D.ptr (0 : Nat) (0 : Nat)]]]) ?_
    refine runs_call_st ([D.sl (rows l) none, D.func (36 : Nat) [D.ptr (1 : Nat) (0 : Nat)]]) (by kernel_rfl) (by kernel_rfl) (by kernel_rfl) (by kernel_rfl) (hcon) ?_
    refine rv (D.bool false) ?_
    refine k_done (k_skip_seq (kcf (k_skip_seq (k_seq ?_))))
    refine rv (D.int IntKind.i64 (0 : Int)) ?_
    refine k_done (k_skip_seq (k_ret ?_))
    exact ⟨.inr rfl, by kernel_rfl, by kernel_rfl⟩

theorem any_take {α : Type} {p : α → Bool} {c : List α} {i : Nat} (h : i < c.length) : (c.take (i + 1)).any p = ((c.take i).any p || p c[i]) := by
  rw [List.take_succ_eq_append_getElem h, List.any_append]
  simp only [List.any_cons, List.any_nil, Bool.or_false]
theorem any_true {α : Type} {p : α → Bool} {c : List α} {i : Nat} (h : i < c.length) (hp : p c[i] = true) : c.any p = true :=
  List.any_eq_true.2 ⟨c[i], List.getElem_mem h, hp⟩
def f25 (l : List (List Int)) (vars : Int) (i : Int) (k : D) : Fr := Fr.mk ([.sl (rows l) none, .int .i64 vars, .junk, .junk, .int .i64 0, .int .i64 i, k] ++ List.replicate 52 .junk) (List.replicate 59 none) []
theorem refCheck20_ok (n : Nat) (l : List (List Int)) (vars : Int) (o : Option Nat) (σ : St) (hn : 200 < n) (hl : l.length ≤ 200) (hc : ∀ c ∈ l, c.length ≤ 200) :
    callN T (n + 1) 25 [.sl (rows l) o, .int .i64 vars] σ = some (.int .i64 (checkC l vars), σ) := by
  refine call_of (m := m25) rfl rfl (by decide) (k_start ?_)
  unfold m25
  by_cases c1 : vars < 0
  · rw [show checkC l vars = 1 from if_pos (.inl c1)]
    refine k_seq ?_
    refine rv (D.int IntKind.i64 (0 : Int)) ?_
    refine k_done (k_skip_seq (k_seq (k_seq ?_)))
    refine rv (D.int IntKind.i64 vars) ?_
    refine rv (D.bool (decide (vars < (0 : Int)))) ?_
    refine rv (D.bool (decide (vars < (0 : Int)))) ?_
    refine rkn 9 (decide (vars < (0 : Int))) true (decide_eq_true (by assumption)) ?_
    refine rno (rno ?_)
    refine rv (D.bool true) ?_
    refine k_done (k_skip_seq (kct (k_seq ?_)))
    refine rv (D.int IntKind.i64 (1 : Int)) ?_
    refine k_done (k_skip_seq (k_ret ?_))
    exact ⟨.inr rfl, by kernel_rfl, by kernel_rfl⟩
  by_cases c2 : vars > 20000
  · rw [show checkC l vars = 1 from if_pos (.inr (.inl c2))]
    refine k_seq ?_
    refine rv (D.int IntKind.i64 (0 : Int)) ?_
    refine k_done (k_skip_seq (k_seq (k_seq ?_)))
    refine rv (D.int IntKind.i64 vars) ?_
    refine rv (D.bool (decide (vars < (0 : Int)))) ?_
    refine rv (D.bool (decide (vars < (0 : Int)))) ?_
    refine rkn 9 (decide (vars < (0 : Int))) false (decide_eq_false (by assumption)) ?_
    refine rv (D.int IntKind.i64 vars) ?_
    refine rv (D.bool (decide (vars > (20000 : Int)))) ?_
    refine rv (D.bool (decide (vars > (20000 : Int)))) ?_
    refine k_done (k_skip_seq ?_)
    refine rkn 12 (decide (vars > (20000 : Int))) true (decide_eq_true (by assumption)) ?_
    refine kct (k_seq ?_)
    refine rv (D.int IntKind.i64 (1 : Int)) ?_
    refine k_done (k_skip_seq (k_ret ?_))
    exact ⟨.inr rfl, by kernel_rfl, by kernel_rfl⟩
  refine k_seq ?_
  refine rv (D.int IntKind.i64 (0 : Int)) ?_
  refine k_done (k_skip_seq (k_seq (k_seq ?_)))
  refine rv (D.int IntKind.i64 vars) ?_
  refine rv (D.bool (decide (vars < (0 : Int)))) ?_
  refine rv (D.bool (decide (vars < (0 : Int)))) ?_
  refine rkn 9 (decide (vars < (0 : Int))) false (decide_eq_false (by assumption)) ?_
  refine rv (D.int IntKind.i64 vars) ?_
  refine rv (D.bool (decide (vars > (20000 : Int)))) ?_
  refine rv (D.bool (decide (vars > (20000 : Int)))) ?_
  refine k_done (k_skip_seq ?_)
  refine rkn 12 (decide (vars > (20000 : Int))) false (decide_eq_false (by assumption)) ?_
  refine kcf (k_skip_seq (k_seq (k_seq ?_)))
  refine rv (D.int IntKind.i64 (0 : Int)) ?_
  refine k_done (k_skip_seq (k_block ?_))
  refine k_loop (S := Nat × D) (fun s => f25 l vars s.1 s.2) (fun _ => σ) (fun s => s.1 ≤ l.length ∧ ((∃ b, s.2 = .int .i64 b) ∨ s.2 = .junk) ∧ (l.take s.1).any (wrongC vars) = false) (fun s => l.length - s.1) (0, .junk) (by kernel_rfl) rfl ⟨by simp, .inr rfl, by simp⟩ (by intro s hs; omega) ?_
  rintro ⟨i, kd⟩ ⟨hi, hk, hno⟩
  simp only [] at hi hk hno
  by_cases hlt : i < l.length
  · have hlc := hc l[i] (List.getElem_mem hlt)
    have hta := any_take (p := wrongC vars) hlt
    refine k_seq (k_seq ?_)
    refine rv (D.int IntKind.i64 (↑i : Int)) ?_
    refine rv (D.sl (rows l) none) ?_
    refine rve (D.int IntKind.i64 (↑(List.length (rows l)) : Int)) (.int IntKind.i64 ((↑(List.length l) : Int))) (by simp only [ints, eInt, rows, eInts, bools, eBool, trips, eTrip, List.length_map]) ?_
    refine rv (D.bool (decide ((↑i : Int) < (↑(List.length l) : Int)))) ?_
    refine k_done (k_skip_seq ?_)
    refine rkn 16 (decide ((↑i : Int) < (↑(List.length l) : Int))) true (decide_eq_true (by omega)) ?_
    refine kct (k_skip_seq (k_seq (k_block (k_seq ?_))))
    refine rv (D.int IntKind.i64 (0 : Int)) ?_
    refine k_done (k_skip_seq (k_block ?_))
    refine k_loop (fun k : Nat => f25 l vars i (.int .i64 k)) (fun _ => σ) (fun k => k ≤ l[i].length ∧ (l[i].take k).any (wrongB vars) = false) (fun k => l[i].length - k) 0 (by kernel_rfl) rfl ⟨by simp, by simp⟩ (by intro s hs; omega) ?_
    rintro k ⟨hk2, hno2⟩
    by_cases hlk : k < l[i].length
    · have htb := any_take (p := wrongB vars) hlk
      have bad : wrongB vars l[i][k] = true → checkC l vars = 1 := fun h => if_pos (.inr (.inr (any_true hlt (any_true hlk h))))
      by_cases q1 : l[i][k] = 0
      · rw [bad (by unfold wrongB; rw [decide_eq_true q1]; rfl)]
        refine k_seq (k_seq ?_)
        refine rv (D.int IntKind.i64 (↑k : Int)) ?_
        refine rv (D.sl (rows l) none) ?_
        refine rv (D.int IntKind.i64 (↑i : Int)) ?_
        refine runs_index (l) (eInts) (o := none) (kd := IntKind.i64) (i) (by kernel_rfl) (by kernel_rfl) (by kernel_rfl) (by assumption) (by kernel_rfl) ?_
        refine rv (D.sl (ints l[i]) none) ?_
        refine rve (D.int IntKind.i64 (↑(List.length (ints l[i])) : Int)) (.int IntKind.i64 ((↑(List.length l[i]) : Int))) (by simp only [ints, eInt, rows, eInts, bools, eBool, trips, eTrip, List.length_map]) ?_
        refine rv (D.bool (decide ((↑k : Int) < (↑(List.length l[i]) : Int)))) ?_
        refine k_done (k_skip_seq ?_)
        refine rkn 25 (decide ((↑k : Int) < (↑(List.length l[i]) : Int))) true (decide_eq_true (by omega)) ?_
        refine kct (k_skip_seq (k_seq (k_block (k_seq ?_))))
        refine rv (D.sl (rows l) none) ?_
        refine rv (D.int IntKind.i64 (↑i : Int)) ?_
        refine runs_index (l) (eInts) (o := none) (kd := IntKind.i64) (i) (by kernel_rfl) (by kernel_rfl) (by kernel_rfl) (by assumption) (by kernel_rfl) ?_
        refine rv (D.sl (ints l[i]) none) ?_
        refine rv (D.int IntKind.i64 (↑k : Int)) ?_
        refine runs_index (l[i]) (eInt) (o := none) (kd := IntKind.i64) (k) (by kernel_rfl) (by kernel_rfl) (by kernel_rfl) (by assumption) (by kernel_rfl) ?_
        refine rv (D.int IntKind.i64 l[i][k]) ?_
        refine rv (D.bool (l[i][k] == (0 : Int))) ?_
        refine rv (D.bool (l[i][k] == (0 : Int))) ?_
        refine rkn 36 (l[i][k] == (0 : Int)) true (decide_eq_true (by assumption)) ?_
        refine rno (rno (rno (rno (rno (rno (rno (rno (rno ?_))))))))
        refine rv (D.bool true) ?_
        refine rv (D.bool true) ?_
        refine rno (rno (rno (rno (rno (rno (rno (rno (rno (rno ?_)))))))))
        refine rv (D.bool true) ?_
        refine k_done (k_skip_seq (kct (k_seq ?_)))
        refine rv (D.int IntKind.i64 (1 : Int)) ?_
        refine k_done (k_skip_seq (k_ret ?_))
        exact ⟨.inr rfl, by kernel_rfl, by kernel_rfl⟩
      by_cases q2 : l[i][k] > vars
      · rw [bad (by unfold wrongB; rw [decide_eq_true q2]; simp)]
        refine k_seq (k_seq ?_)
        refine rv (D.int IntKind.i64 (↑k : Int)) ?_
        refine rv (D.sl (rows l) none) ?_
        refine rv (D.int IntKind.i64 (↑i : Int)) ?_
        refine runs_index (l) (eInts) (o := none) (kd := IntKind.i64) (i) (by kernel_rfl) (by kernel_rfl) (by kernel_rfl) (by assumption) (by kernel_rfl) ?_
        refine rv (D.sl (ints l[i]) none) ?_
        refine rve (D.int IntKind.i64 (↑(List.length (ints l[i])) : Int)) (.int IntKind.i64 ((↑(List.length l[i]) : Int))) (by simp only [ints, eInt, rows, eInts, bools, eBool, trips, eTrip, List.length_map]) ?_
        refine rv (D.bool (decide ((↑k : Int) < (↑(List.length l[i]) : Int)))) ?_
        refine k_done (k_skip_seq ?_)
        refine rkn 25 (decide ((↑k : Int) < (↑(List.length l[i]) : Int))) true (decide_eq_true (by omega)) ?_
        refine kct (k_skip_seq (k_seq (k_block (k_seq ?_))))
        refine rv (D.sl (rows l) none) ?_
        refine rv (D.int IntKind.i64 (↑i : Int)) ?_
        refine runs_index (l) (eInts) (o := none) (kd := IntKind.i64) (i) (by kernel_rfl) (by kernel_rfl) (by kernel_rfl) (by assumption) (by kernel_rfl) ?_
        refine rv (D.sl (ints l[i]) none) ?_
        refine rv (D.int IntKind.i64 (↑k : Int)) ?_
        refine runs_index (l[i]) (eInt) (o := none) (kd := IntKind.i64) (k) (by kernel_rfl) (by kernel_rfl) (by kernel_rfl) (by assumption) (by kernel_rfl) ?_
        refine rv (D.int IntKind.i64 l[i][k]) ?_
        refine rv (D.bool (l[i][k] == (0 : Int))) ?_
        refine rv (D.bool (l[i][k] == (0 : Int))) ?_
        refine rkn 36 (l[i][k] == (0 : Int)) false (decide_eq_false (by assumption)) ?_
        refine rv (D.sl (rows l) none) ?_
        refine rv (D.int IntKind.i64 (↑i : Int)) ?_
        refine runs_index (l) (eInts) (o := none) (kd := IntKind.i64) (i) (by kernel_rfl) (by kernel_rfl) (by kernel_rfl) (by assumption) (by kernel_rfl) ?_
        refine rv (D.sl (ints l[i]) none) ?_
        refine rv (D.int IntKind.i64 (↑k : Int)) ?_
        refine runs_index (l[i]) (eInt) (o := none) (kd := IntKind.i64) (k) (by kernel_rfl) (by kernel_rfl) (by kernel_rfl) (by assumption) (by kernel_rfl) ?_
        refine rv (D.int IntKind.i64 l[i][k]) ?_
        refine rv (D.int IntKind.i64 vars) ?_
        refine rv (D.bool (decide (l[i][k] > vars))) ?_
        refine rv (D.bool (decide (l[i][k] > vars))) ?_
        refine rv (D.bool (decide (l[i][k] > vars))) ?_
        refine rkn 47 (decide (l[i][k] > vars)) true (decide_eq_true (by assumption)) ?_
        refine rno (rno (rno (rno (rno (rno (rno (rno (rno (rno ?_)))))))))
        refine rv (D.bool true) ?_
        refine k_done (k_skip_seq (kct (k_seq ?_)))
        refine rv (D.int IntKind.i64 (1 : Int)) ?_
        refine k_done (k_skip_seq (k_ret ?_))
        exact ⟨.inr rfl, by kernel_rfl, by kernel_rfl⟩
      by_cases q3 : l[i][k] < 0 - vars
      · rw [bad (by unfold wrongB; rw [decide_eq_true q3]; simp)]
        refine k_seq (k_seq ?_)
        refine rv (D.int IntKind.i64 (↑k : Int)) ?_
        refine rv (D.sl (rows l) none) ?_
        refine rv (D.int IntKind.i64 (↑i : Int)) ?_
        refine runs_index (l) (eInts) (o := none) (kd := IntKind.i64) (i) (by kernel_rfl) (by kernel_rfl) (by kernel_rfl) (by assumption) (by kernel_rfl) ?_
        refine rv (D.sl (ints l[i]) none) ?_
        refine rve (D.int IntKind.i64 (↑(List.length (ints l[i])) : Int)) (.int IntKind.i64 ((↑(List.length l[i]) : Int))) (by simp only [ints, eInt, rows, eInts, bools, eBool, trips, eTrip, List.length_map]) ?_
        refine rv (D.bool (decide ((↑k : Int) < (↑(List.length l[i]) : Int)))) ?_
        refine k_done (k_skip_seq ?_)
        refine rkn 25 (decide ((↑k : Int) < (↑(List.length l[i]) : Int))) true (decide_eq_true (by omega)) ?_
        refine kct (k_skip_seq (k_seq (k_block (k_seq ?_))))
        refine rv (D.sl (rows l) none) ?_
        refine rv (D.int IntKind.i64 (↑i : Int)) ?_
        refine runs_index (l) (eInts) (o := none) (kd := IntKind.i64) (i) (by kernel_rfl) (by kernel_rfl) (by kernel_rfl) (by assumption) (by kernel_rfl) ?_
        refine rv (D.sl (ints l[i]) none) ?_
        refine rv (D.int IntKind.i64 (↑k : Int)) ?_
        refine runs_index (l[i]) (eInt) (o := none) (kd := IntKind.i64) (k) (by kernel_rfl) (by kernel_rfl) (by kernel_rfl) (by assumption) (by kernel_rfl) ?_
        refine rv (D.int IntKind.i64 l[i][k]) ?_
        refine rv (D.bool (l[i][k] == (0 : Int))) ?_
        refine rv (D.bool (l[i][k] == (0 : Int))) ?_
        refine rkn 36 (l[i][k] == (0 : Int)) false (decide_eq_false (by assumption)) ?_
        refine rv (D.sl (rows l) none) ?_
        refine rv (D.int IntKind.i64 (↑i : Int)) ?_
        refine runs_index (l) (eInts) (o := none) (kd := IntKind.i64) (i) (by kernel_rfl) (by kernel_rfl) (by kernel_rfl) (by assumption) (by kernel_rfl) ?_
        refine rv (D.sl (ints l[i]) none) ?_
        refine rv (D.int IntKind.i64 (↑k : Int)) ?_
        refine runs_index (l[i]) (eInt) (o := none) (kd := IntKind.i64) (k) (by kernel_rfl) (by kernel_rfl) (by kernel_rfl) (by assumption) (by kernel_rfl) ?_
        refine rv (D.int IntKind.i64 l[i][k]) ?_
        refine rv (D.int IntKind.i64 vars) ?_
        refine rv (D.bool (decide (l[i][k] > vars))) ?_
        refine rv (D.bool (decide (l[i][k] > vars))) ?_
        refine rv (D.bool (decide (l[i][k] > vars))) ?_
        refine rkn 47 (decide (l[i][k] > vars)) false (decide_eq_false (by assumption)) ?_
        refine rv (D.sl (rows l) none) ?_
        refine rv (D.int IntKind.i64 (↑i : Int)) ?_
        refine runs_index (l) (eInts) (o := none) (kd := IntKind.i64) (i) (by kernel_rfl) (by kernel_rfl) (by kernel_rfl) (by assumption) (by kernel_rfl) ?_
        refine rv (D.sl (ints l[i]) none) ?_
        refine rv (D.int IntKind.i64 (↑k : Int)) ?_
        refine runs_index (l[i]) (eInt) (o := none) (kd := IntKind.i64) (k) (by kernel_rfl) (by kernel_rfl) (by kernel_rfl) (by assumption) (by kernel_rfl) ?_
        refine rv (D.int IntKind.i64 l[i][k]) ?_
        refine rv (D.int IntKind.i64 vars) ?_
        refine rve (D.int IntKind.i64 (IntKind.wrap IntKind.i64 ((0 : Int) - vars))) (.int IntKind.i64 ((0 : Int) - vars)) (congrArg (D.int IntKind.i64) (show IntKind.wrap IntKind.i64 ((0 : Int) - vars) = ((0 : Int) - vars) from wrap_eq (by omega) (by omega) (by omega))) ?_
        refine rv (D.bool (decide (l[i][k] < (0 : Int) - vars))) ?_
        refine rv (D.bool (decide (l[i][k] < (0 : Int) - vars))) ?_
        refine k_done (k_skip_seq ?_)
        refine rkn 58 (decide (l[i][k] < (0 : Int) - vars)) true (decide_eq_true (by assumption)) ?_
        refine kct (k_seq ?_)
        refine rv (D.int IntKind.i64 (1 : Int)) ?_
        refine k_done (k_skip_seq (k_ret ?_))
        exact ⟨.inr rfl, by kernel_rfl, by kernel_rfl⟩
      · refine k_seq (k_seq ?_)
        refine rv (D.int IntKind.i64 (↑k : Int)) ?_
        refine rv (D.sl (rows l) none) ?_
        refine rv (D.int IntKind.i64 (↑i : Int)) ?_
        refine runs_index (l) (eInts) (o := none) (kd := IntKind.i64) (i) (by kernel_rfl) (by kernel_rfl) (by kernel_rfl) (by assumption) (by kernel_rfl) ?_
        refine rv (D.sl (ints l[i]) none) ?_
        refine rve (D.int IntKind.i64 (↑(List.length (ints l[i])) : Int)) (.int IntKind.i64 ((↑(List.length l[i]) : Int))) (by simp only [ints, eInt, rows, eInts, bools, eBool, trips, eTrip, List.length_map]) ?_
        refine rv (D.bool (decide ((↑k : Int) < (↑(List.length l[i]) : Int)))) ?_
        refine k_done (k_skip_seq ?_)
        refine rkn 25 (decide ((↑k : Int) < (↑(List.length l[i]) : Int))) true (decide_eq_true (by omega)) ?_
        refine kct (k_skip_seq (k_seq (k_block (k_seq ?_))))
        refine rv (D.sl (rows l) none) ?_
        refine rv (D.int IntKind.i64 (↑i : Int)) ?_
        refine runs_index (l) (eInts) (o := none) (kd := IntKind.i64) (i) (by kernel_rfl) (by kernel_rfl) (by kernel_rfl) (by assumption) (by kernel_rfl) ?_
        refine rv (D.sl (ints l[i]) none) ?_
        refine rv (D.int IntKind.i64 (↑k : Int)) ?_
        refine runs_index (l[i]) (eInt) (o := none) (kd := IntKind.i64) (k) (by kernel_rfl) (by kernel_rfl) (by kernel_rfl) (by assumption) (by kernel_rfl) ?_
        refine rv (D.int IntKind.i64 l[i][k]) ?_
        refine rv (D.bool (l[i][k] == (0 : Int))) ?_
        refine rv (D.bool (l[i][k] == (0 : Int))) ?_
        refine rkn 36 (l[i][k] == (0 : Int)) false (decide_eq_false (by assumption)) ?_
        refine rv (D.sl (rows l) none) ?_
        refine rv (D.int IntKind.i64 (↑i : Int)) ?_
        refine runs_index (l) (eInts) (o := none) (kd := IntKind.i64) (i) (by kernel_rfl) (by kernel_rfl) (by kernel_rfl) (by assumption) (by kernel_rfl) ?_
        refine rv (D.sl (ints l[i]) none) ?_
        refine rv (D.int IntKind.i64 (↑k : Int)) ?_
        refine runs_index (l[i]) (eInt) (o := none) (kd := IntKind.i64) (k) (by kernel_rfl) (by kernel_rfl) (by kernel_rfl) (by assumption) (by kernel_rfl) ?_
        refine rv (D.int IntKind.i64 l[i][k]) ?_
        refine rv (D.int IntKind.i64 vars) ?_
        refine rv (D.bool (decide (l[i][k] > vars))) ?_
        refine rv (D.bool (decide (l[i][k] > vars))) ?_
        refine rv (D.bool (decide (l[i][k] > vars))) ?_
        refine rkn 47 (decide (l[i][k] > vars)) false (decide_eq_false (by assumption)) ?_
        refine rv (D.sl (rows l) none) ?_
        refine rv (D.int IntKind.i64 (↑i : Int)) ?_
        refine runs_index (l) (eInts) (o := none) (kd := IntKind.i64) (i) (by kernel_rfl) (by kernel_rfl) (by kernel_rfl) (by assumption) (by kernel_rfl) ?_
        refine rv (D.sl (ints l[i]) none) ?_
        refine rv (D.int IntKind.i64 (↑k : Int)) ?_
        refine runs_index (l[i]) (eInt) (o := none) (kd := IntKind.i64) (k) (by kernel_rfl) (by kernel_rfl) (by kernel_rfl) (by assumption) (by kernel_rfl) ?_
        refine rv (D.int IntKind.i64 l[i][k]) ?_
        refine rv (D.int IntKind.i64 vars) ?_
        refine rve (D.int IntKind.i64 (IntKind.wrap IntKind.i64 ((0 : Int) - vars))) (.int IntKind.i64 ((0 : Int) - vars)) (congrArg (D.int IntKind.i64) (show IntKind.wrap IntKind.i64 ((0 : Int) - vars) = ((0 : Int) - vars) from wrap_eq (by omega) (by omega) (by omega))) ?_
        refine rv (D.bool (decide (l[i][k] < (0 : Int) - vars))) ?_
        refine rv (D.bool (decide (l[i][k] < (0 : Int) - vars))) ?_
        refine k_done (k_skip_seq ?_)
        refine rkn 58 (decide (l[i][k] < (0 : Int) - vars)) false (decide_eq_false (by assumption)) ?_
        refine kcf (k_skip_block (k_skip_seq ?_))
        refine rv (D.int IntKind.i64 (↑k : Int)) ?_
        refine rve (D.int IntKind.i64 (IntKind.wrap IntKind.i64 ((↑k : Int) + (1 : Int)))) (.int IntKind.i64 ((k + 1 : Nat) : Int)) (congrArg (D.int IntKind.i64) (show IntKind.wrap IntKind.i64 ((↑k : Int) + (1 : Int)) = ((k + 1 : Nat) : Int) from wrap_eq (by omega) (by omega) (by omega))) ?_
        refine ra0 (D.int IntKind.i64 (↑(k + (1 : Nat)) : Int)) ?_
        refine k_done (k_skip_back ?_)
        refine ⟨k + 1, ⟨hlk, ?_⟩, by omega, by kernel_rfl, rfl⟩
        rw [htb, hno2]
        unfold wrongB
        rw [decide_eq_false q1, decide_eq_false q2, decide_eq_false q3]
        rfl
    · refine k_seq (k_seq ?_)
      refine rv (D.int IntKind.i64 (↑k : Int)) ?_
      refine rv (D.sl (rows l) none) ?_
      refine rv (D.int IntKind.i64 (↑i : Int)) ?_
      refine runs_index (l) (eInts) (o := none) (kd := IntKind.i64) (i) (by kernel_rfl) (by kernel_rfl) (by kernel_rfl) (by assumption) (by kernel_rfl) ?_
      refine rv (D.sl (ints l[i]) none) ?_
      refine rve (D.int IntKind.i64 (↑(List.length (ints l[i])) : Int)) (.int IntKind.i64 ((↑(List.length l[i]) : Int))) (by simp only [ints, eInt, rows, eInts, bools, eBool, trips, eTrip, List.length_map]) ?_
      refine rv (D.bool (decide ((↑k : Int) < (↑(List.length l[i]) : Int)))) ?_
      refine k_done (k_skip_seq ?_)
      refine rkn 25 (decide ((↑k : Int) < (↑(List.length l[i]) : Int))) false (decide_eq_false (by omega)) ?_
      refine kcf (k_exit_seq (k_exit_back (k_exit_hit rfl (k_skip_block (k_skip_seq ?_)))))
      refine rv (D.int IntKind.i64 (↑i : Int)) ?_
      refine rve (D.int IntKind.i64 (IntKind.wrap IntKind.i64 ((↑i : Int) + (1 : Int)))) (.int IntKind.i64 ((i + 1 : Nat) : Int)) (congrArg (D.int IntKind.i64) (show IntKind.wrap IntKind.i64 ((↑i : Int) + (1 : Int)) = ((i + 1 : Nat) : Int) from wrap_eq (by omega) (by omega) (by omega))) ?_
      refine ra0 (D.int IntKind.i64 (↑(i + (1 : Nat)) : Int)) ?_
      refine k_done (k_skip_back ?_)
      refine ⟨(i + 1, .int .i64 k), ⟨hlt, .inl ⟨k, rfl⟩, ?_⟩, by simp only []; omega, by kernel_rfl, rfl⟩
      rw [List.take_of_length_le (by omega)] at hno2
      rw [hta, hno]
      exact hno2
  · rw [List.take_of_length_le (by omega)] at hno
    rw [show checkC l vars = 0 from if_neg (fun h => h.elim c1 (fun h => h.elim c2 (fun h => by rw [hno] at h; cases h)))]
    refine k_seq (k_seq ?_)
    refine rv (D.int IntKind.i64 (↑i : Int)) ?_
    refine rv (D.sl (rows l) none) ?_
    refine rve (D.int IntKind.i64 (↑(List.length (rows l)) : Int)) (.int IntKind.i64 ((↑(List.length l) : Int))) (by simp only [ints, eInt, rows, eInts, bools, eBool, trips, eTrip, List.length_map]) ?_
    refine rv (D.bool (decide ((↑i : Int) < (↑(List.length l) : Int)))) ?_
    refine k_done (k_skip_seq ?_)
    refine rkn 16 (decide ((↑i : Int) < (↑(List.length l) : Int))) false (decide_eq_false (by omega)) ?_
    refine kcf (k_exit_seq (k_exit_back (k_exit_hit rfl (k_skip_seq (k_seq ?_)))))
    refine rv (D.int IntKind.i64 (0 : Int)) ?_
    refine k_done (k_skip_seq (k_ret ?_))
    exact ⟨.inr rfl, by kernel_rfl, by kernel_rfl⟩

theorem awake20_ok : callN T 5000 22 [] [] = some (.bool true, []) := by kernel_rfl
def f23 (l : List (List Int)) (i : Int) : Fr := Fr.mk ([.sl (rows l) none, .junk, .bool false, .int .i64 i] ++ List.replicate 15 .junk) (List.replicate 19 none) []
theorem tidy20_ok (n : Nat) (l : List (List Int)) (o : Option Nat) (σ : St) (hn : 60 < n) :
    callN T (n + 1) 23 [.sl (rows l) o] σ = some (.bool (tidyB l), σ) := by
  refine call_of (m := m23) rfl rfl (by decide) (k_start ?_)
  unfold m23
  by_cases h0 : l.length ≤ 60
  · refine k_seq ?_
    refine rv (D.bool false) ?_
    refine k_done (k_skip_seq (k_seq (k_seq ?_)))
    refine rv (D.sl (rows l) none) ?_
    refine rve (D.int IntKind.i64 (↑(List.length (rows l)) : Int)) (.int IntKind.i64 ((↑(List.length l) : Int))) (by simp only [ints, eInt, rows, eInts, bools, eBool, trips, eTrip, List.length_map]) ?_
    refine rv (D.bool (decide ((↑(List.length l) : Int) > (60 : Int)))) ?_
    refine k_done (k_skip_seq ?_)
    refine rkn 6 (decide ((↑(List.length l) : Int) > (60 : Int))) false (decide_eq_false (by omega)) ?_
    refine kcf (k_skip_seq (k_seq (k_seq ?_)))
    refine rv (D.int IntKind.i64 (0 : Int)) ?_
    refine k_done (k_skip_seq (k_block ?_))
    refine k_loop (fun i : Nat => f23 l i) (fun _ => σ) (fun i => i ≤ l.length ∧ ∀ c ∈ l.take i, c.length ≤ 12) (fun i => l.length - i) 0 (by kernel_rfl) rfl (by simp) (by omega) ?_
    rintro i ⟨hi, hv⟩
    by_cases hlt : i < l.length
    · by_cases h1 : l[i].length ≤ 12
      · refine k_seq (k_seq ?_)
        refine rv (D.int IntKind.i64 (↑i : Int)) ?_
        refine rv (D.sl (rows l) none) ?_
        refine rve (D.int IntKind.i64 (↑(List.length (rows l)) : Int)) (.int IntKind.i64 ((↑(List.length l) : Int))) (by simp only [ints, eInt, rows, eInts, bools, eBool, trips, eTrip, List.length_map]) ?_
        refine rv (D.bool (decide ((↑i : Int) < (↑(List.length l) : Int)))) ?_
        refine k_done (k_skip_seq ?_)
        refine rkn 10 (decide ((↑i : Int) < (↑(List.length l) : Int))) true (decide_eq_true (by omega)) ?_
        refine kct (k_skip_seq (k_seq (k_block (k_seq ?_))))
        refine rv (D.sl (rows l) none) ?_
        refine rv (D.int IntKind.i64 (↑i : Int)) ?_
        refine runs_index (l) (eInts) (o := none) (kd := IntKind.i64) (i) (by kernel_rfl) (by kernel_rfl) (by kernel_rfl) (by assumption) (by kernel_rfl) ?_
        refine rv (D.sl (ints l[i]) none) ?_
        refine rve (D.int IntKind.i64 (↑(List.length (ints l[i])) : Int)) (.int IntKind.i64 ((↑(List.length l[i]) : Int))) (by simp only [ints, eInt, rows, eInts, bools, eBool, trips, eTrip, List.length_map]) ?_
        refine rv (D.bool (decide ((↑(List.length l[i]) : Int) > (12 : Int)))) ?_
        refine k_done (k_skip_seq ?_)
        refine rkn 18 (decide ((↑(List.length l[i]) : Int) > (12 : Int))) false (decide_eq_false (by omega)) ?_
        refine kcf (k_skip_block (k_skip_seq ?_))
        refine rv (D.int IntKind.i64 (↑i : Int)) ?_
        refine rve (D.int IntKind.i64 (IntKind.wrap IntKind.i64 ((↑i : Int) + (1 : Int)))) (.int IntKind.i64 ((i + 1 : Nat) : Int)) (congrArg (D.int IntKind.i64) (show IntKind.wrap IntKind.i64 ((↑i : Int) + (1 : Int)) = ((i + 1 : Nat) : Int) from wrap_eq (by omega) (by omega) (by omega))) ?_
        refine ra0 (D.int IntKind.i64 (↑(i + (1 : Nat)) : Int)) ?_
        refine k_done (k_skip_back ?_)
        refine ⟨i + 1, ⟨hlt, ?_⟩, by omega, by kernel_rfl, rfl⟩
        rw [List.take_succ_eq_append_getElem hlt]
        intro c hc
        rcases List.mem_append.1 hc with hc | hc
        · exact hv c hc
        · simp only [List.mem_singleton] at hc
          rw [hc]
          exact h1
      · refine k_seq (k_seq ?_)
        refine rv (D.int IntKind.i64 (↑i : Int)) ?_
        refine rv (D.sl (rows l) none) ?_
        refine rve (D.int IntKind.i64 (↑(List.length (rows l)) : Int)) (.int IntKind.i64 ((↑(List.length l) : Int))) (by simp only [ints, eInt, rows, eInts, bools, eBool, trips, eTrip, List.length_map]) ?_
        refine rv (D.bool (decide ((↑i : Int) < (↑(List.length l) : Int)))) ?_
        refine k_done (k_skip_seq ?_)
        refine rkn 10 (decide ((↑i : Int) < (↑(List.length l) : Int))) true (decide_eq_true (by omega)) ?_
        refine kct (k_skip_seq (k_seq (k_block (k_seq ?_))))
        refine rv (D.sl (rows l) none) ?_
        refine rv (D.int IntKind.i64 (↑i : Int)) ?_
        refine runs_index (l) (eInts) (o := none) (kd := IntKind.i64) (i) (by kernel_rfl) (by kernel_rfl) (by kernel_rfl) (by assumption) (by kernel_rfl) ?_
        refine rv (D.sl (ints l[i]) none) ?_
        refine rve (D.int IntKind.i64 (↑(List.length (ints l[i])) : Int)) (.int IntKind.i64 ((↑(List.length l[i]) : Int))) (by simp only [ints, eInt, rows, eInts, bools, eBool, trips, eTrip, List.length_map]) ?_
        refine rv (D.bool (decide ((↑(List.length l[i]) : Int) > (12 : Int)))) ?_
        refine k_done (k_skip_seq ?_)
        refine rkn 18 (decide ((↑(List.length l[i]) : Int) > (12 : Int))) true (decide_eq_true (by omega)) ?_
        refine kct (k_seq ?_)
        refine rv (D.bool false) ?_
        refine k_done (k_skip_seq (k_ret ?_))
        have : tidyB l = false := by
          unfold tidyB
          have : (l.all fun c => decide (c.length ≤ 12)) = false := by
            rw [Bool.eq_false_iff]
            intro h
            have := List.all_eq_true.1 h l[i] (List.getElem_mem hlt)
            simp only [decide_eq_true_eq] at this
            exact h1 this
          rw [this, Bool.and_false]
        rw [this]
        exact ⟨.inr rfl, by kernel_rfl, by kernel_rfl⟩
    · refine k_seq (k_seq ?_)
      refine rv (D.int IntKind.i64 (↑i : Int)) ?_
      refine rv (D.sl (rows l) none) ?_
      refine rve (D.int IntKind.i64 (↑(List.length (rows l)) : Int)) (.int IntKind.i64 ((↑(List.length l) : Int))) (by simp only [ints, eInt, rows, eInts, bools, eBool, trips, eTrip, List.length_map]) ?_
      refine rv (D.bool (decide ((↑i : Int) < (↑(List.length l) : Int)))) ?_
      refine k_done (k_skip_seq ?_)
      refine rkn 10 (decide ((↑i : Int) < (↑(List.length l) : Int))) false (decide_eq_false (by omega)) ?_
      refine kcf (k_exit_seq (k_exit_back (k_exit_hit rfl (k_skip_seq (k_seq ?_)))))
      refine rv (D.bool true) ?_
      refine k_done (k_skip_seq (k_ret ?_))
      have : tidyB l = true := by
        unfold tidyB
        rw [List.take_of_length_le (by omega)] at hv
        rw [decide_eq_true h0, Bool.true_and, List.all_eq_true]
        exact fun c hc => decide_eq_true (hv c hc)
      rw [this]
      exact ⟨.inr rfl, by kernel_rfl, by kernel_rfl⟩
  · have : tidyB l = false := by
      unfold tidyB
      rw [decide_eq_false h0, Bool.false_and]
    rw [this]
    refine k_seq ?_
    refine rv (D.bool false) ?_
    refine k_done (k_skip_seq (k_seq (k_seq ?_)))
    refine rv (D.sl (rows l) none) ?_
    refine rve (D.int IntKind.i64 (↑(List.length (rows l)) : Int)) (.int IntKind.i64 ((↑(List.length l) : Int))) (by simp only [ints, eInt, rows, eInts, bools, eBool, trips, eTrip, List.length_map]) ?_
    refine rv (D.bool (decide ((↑(List.length l) : Int) > (60 : Int)))) ?_
    refine k_done (k_skip_seq ?_)
    refine rkn 6 (decide ((↑(List.length l) : Int) > (60 : Int))) true (decide_eq_true (by omega)) ?_
    refine kct (k_seq ?_)
    refine rv (D.bool false) ?_
    refine k_done (k_skip_seq (k_ret ?_))
    exact ⟨.inr rfl, by kernel_rfl, by kernel_rfl⟩
theorem lawChecks20_ok (l : List (List Int)) (vars : Int) (o : Option Nat) : ∃ σ, callN T 5001 6 [.sl (rows l) o, .int .i64 vars] [] = some (.bool true, σ) := by
  refine ⟨[], ?_⟩
  have htd := tidy20_ok 4999 l none [] (by omega)
  refine call_of (m := m6) rfl rfl (by decide) (k_start ?_)
  unfold m6
  by_cases h1 : tidyB l = true
  · rw [h1] at htd
    obtain ⟨g1, g2⟩ := tidy_iff h1
    obtain ⟨σ1, e1⟩ := check_ok 4993 l vars none (by omega) (by omega) (fun c hc => by have := g2 c hc; omega)
    have e2 := refCheck20_ok 4999 l vars none [] (by omega) (by omega) (fun c hc => by have := g2 c hc; omega)
    generalize checkC l vars = m at *
    refine k_seq ?_
    refine rv (D.bool false) ?_
    refine k_done (k_skip_seq (k_seq ?_))
    refine runs_call ([]) (by kernel_rfl) (by kernel_rfl) (by kernel_rfl) (by kernel_rfl) (awake20_ok) (by kernel_rfl) ?_
    refine ra0 (D.bool true) ?_
    refine k_done (k_skip_seq (k_seq (k_seq ?_)))
    refine rv (D.bool true) ?_
    refine rv (D.bool false) ?_
    refine k_done (k_skip_seq (kcf (k_skip_seq (k_seq ?_))))
    refine rv (D.sl (rows l) none) ?_
    refine runs_call ([D.sl (rows l) none]) (by kernel_rfl) (by kernel_rfl) (by kernel_rfl) (by kernel_rfl) (htd) (by kernel_rfl) ?_
    refine ra0 (D.bool true) ?_
    refine k_done (k_skip_seq (k_seq (k_seq ?_)))
    refine rv (D.bool true) ?_
    refine rv (D.bool false) ?_
    refine k_done (k_skip_seq (kcf (k_skip_seq (k_seq ?_))))
    refine rv (D.sl (rows l) none) ?_
    refine rv (D.int IntKind.i64 vars) ?_
    refine runs_call ([D.sl (rows l) none, D.int IntKind.i64 vars]) (by kernel_rfl) (by kernel_rfl) (by kernel_rfl) (by kernel_rfl) (e1) (by kernel_rfl) ?_
    refine rv (D.sl (rows l) none) ?_
    refine rv (D.int IntKind.i64 vars) ?_
    refine runs_call ([D.sl (rows l) none, D.int IntKind.i64 vars]) (by kernel_rfl) (by kernel_rfl) (by kernel_rfl) (by kernel_rfl) (e2) (by kernel_rfl) ?_
    refine rv (D.bool (m == m)) ?_
    refine ra0 (D.bool (m == m)) ?_
    refine k_done (k_skip_seq (k_ret ?_))
    refine ⟨.inr rfl, by kernel_rfl, ?_⟩
    have q1 : (m == m) = true := by simp
    exact Eq.trans (b := some (D.bool (m == m), [])) (by show _ = _; kernel_rfl) (by rw [q1])
  · have h1' : tidyB l = false := by simpa using h1
    rw [h1'] at htd
    refine k_seq ?_
    refine rv (D.bool false) ?_
    refine k_done (k_skip_seq (k_seq ?_))
    refine runs_call ([]) (by kernel_rfl) (by kernel_rfl) (by kernel_rfl) (by kernel_rfl) (awake20_ok) (by kernel_rfl) ?_
    refine ra0 (D.bool true) ?_
    refine k_done (k_skip_seq (k_seq (k_seq ?_)))
    refine rv (D.bool true) ?_
    refine rv (D.bool false) ?_
    refine k_done (k_skip_seq (kcf (k_skip_seq (k_seq ?_))))
    refine rv (D.sl (rows l) none) ?_
    refine runs_call ([D.sl (rows l) none]) (by kernel_rfl) (by kernel_rfl) (by kernel_rfl) (by kernel_rfl) (htd) (by kernel_rfl) ?_
    refine ra0 (D.bool false) ?_
    refine k_done (k_skip_seq (k_seq (k_seq ?_)))
    refine rv (D.bool false) ?_
    refine rv (D.bool true) ?_
    refine k_done (k_skip_seq (kct (k_seq ?_)))
    refine rv (D.bool true) ?_
    refine k_done (k_skip_seq (k_ret ?_))
    exact ⟨.inr rfl, by kernel_rfl, by kernel_rfl⟩
end Go.Abs.B
