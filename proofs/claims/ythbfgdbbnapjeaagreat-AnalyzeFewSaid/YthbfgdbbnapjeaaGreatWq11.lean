/-
  A part of AnalyzeFew's proof.
-/
import Derived.Test.YthbfgdbbnapjeaaGreatWs8
import Derived.Test.YthbfgdbbnapjeaaGreatWhC0
set_option linter.unusedVariables false
set_option linter.unusedSimpArgs false
namespace Go.Abs.W
open Go Go.Abs
set_option maxRecDepth 8000
attribute [local irreducible] callN runC evalOp
def idxG {α : Type} (p : α → Bool) : List α → Int → Int
 | [], _ => -1
 | k :: ks, i => if p k then i else idxG p ks (i + 1)
theorem idxG_at {α : Type} (p : α → Bool) : ∀ (c : List α) (i : Nat) (j : Int) (h : i < c.length), (∀ x ∈ c.take i, p x = false) → p c[i] = true → idxG p c j = j + i
 | x :: xs, 0, j, _, _, h => by
  simp only [List.getElem_cons_zero] at h
  simp [idxG, h]
 | x :: xs, i + 1, j, hl, hn, h => by
  simp only [List.getElem_cons_succ] at h
  have h0 := hn x (by simp)
  have := idxG_at p xs i (j + 1) (by simpa using hl) (fun y hy => hn y (by simp [hy])) h
  simp only [idxG, h0, Bool.false_eq_true, if_false, this]
  omega
theorem idxG_none {α : Type} (p : α → Bool) : ∀ (c : List α) (j : Int), (∀ x ∈ c, p x = false) → idxG p c j = -1
 | [], _, _ => rfl
 | x :: xs, j, h => by
  simp only [idxG, h x (by simp), Bool.false_eq_true, if_false]
  exact idxG_none p xs (j + 1) (fun y hy => h y (by simp [hy]))
theorem idxG_ge {α : Type} (p : α → Bool) : ∀ (c : List α) (j : Int), 0 ≤ j → decide (idxG p c j ≥ 0) = c.any p
 | [], _, _ => rfl
 | x :: xs, j, h => by
  simp only [idxG, List.any_cons]
  by_cases hp : p x = true
  ·simp [hp, h]
  ·have hp' : p x = false := by simpa using hp
   simp only [hp', Bool.false_eq_true, if_false, Bool.false_or]
   exact idxG_ge p xs (j + 1) om
theorem take_noG {α : Type} {p : α → Bool} {c : List α} {i : Nat} (h : i < c.length) (hn : ∀ x ∈ c.take i, p x = false) (hp : p c[i] = false) : ∀ x ∈ c.take (i + 1), p x = false := by
 rw [List.take_succ_eq_append_getElem h]
 intro x hx
 rcases List.mem_append.1 hx with hx | hx
 ·exact hn x hx
 ·simp only [List.mem_singleton] at hx
  rw [hx]
  exact hp
def fIdx (ks : D) (len : Int) (fn : D) (i : Int) : Fr := Fr.mk ([ks, fn, .junk, .junk, .int .i64 0, .junk, .junk, .int .i64 len, .int .i64 i] ++ List.replicate 10 .junk) (List.replicate 19 none) []
def dInt (v : Int) : D := .int .i64 v
def dInts (c : List Int) : D := .sl (ints c) none
theorem indexI_ok (p : Int → Bool) (cf o1 : Nat) (ks : List Int) (o : Option Nat) (n : Nat) (σ : St) (hn : ks.length ≤ 1000) (h12 : 1000 < n) (hc : ∀ k ∈ ks, callN T n cf ([dInt k] ++ [.ptr o1 0]) σ = some (.bool (p k), σ)) :
  callN T (n + 1) 86 [.sl (ints ks) o, .func cf [.ptr o1 0]] σ = some (.int .i64 (idxG p ks 0), σ) := by
 refine call_of (m := m86) rfl rfl (by decide) (k_start ?_)
 unfold m86
 refine kq <| rn 1 ?_
 refine kD (k_skip_seq (kq (kq ?_)))
 refine rn 1 <| rve (.int .i64 (↑(List.length (ints ks)) : Int)) (.int IntKind.i64 ((↑(List.length ks) : Int))) (by simp only [ints, eInt, rows, eInts, bools, eBool, trips, eTrip, i8s, u16s, u8s, acts, List.length_map]) <| rn 1 ?_
 refine kD (k_skip_seq (kZ ?_))
 refine k_loop (fun i : Nat => fIdx (.sl (ints ks) none) ks.length (.func cf [.ptr o1 0]) i) (fun _ => σ) (fun i => i ≤ ks.length ∧ ∀ x ∈ ks.take i, p x = false) (fun i => ks.length - i) 0 kr rfl (by simp) (by intro s hs; omega) ?_
 rintro i ⟨hi, hno⟩
 by_cases hlt : i < ks.length
 ·have hcall := hc ks[i] (List.getElem_mem hlt)
  by_cases hp : p ks[i] = true
  ·rw [hp] at hcall
   refine kq <| rn 1 ?_
   refine kD (k_skip_seq (kq ?_))
   refine rkn 9 (decide ((↑i : Int) < (↑(List.length ks) : Int))) true (decide_eq_true om) ?_
   refine kct (k_skip_seq (kq (kZ (kq ?_))))
   refine rn 2 ?_
   refine kD (k_skip_seq (kq ?_))
   refine rn 3 <| runs_index (ks) (eInt) (o := none) (kd := IntKind.i64) (i) kr kr kr asm kr <| rn 1 <| runs_callv_st (cf) ([.ptr o1 0]) ([.int .i64 ks[i]]) ([.int .i64 ks[i], .ptr o1 0]) kr kr kr kr kr kr (hcall) ?_
   refine kD (k_skip_seq (kct (kq ?_)))
   refine rn 2 ?_
   refine kD (k_skip_seq (k_ret ?_))
   refine ⟨.inr rfl, kr, ?_⟩
   rw [idxG_at p ks i 0 hlt hno hp, Int.zero_add]
   show _ = _
   kernel_rfl
  ·have hp' : p ks[i] = false := by simpa using hp
   rw [hp'] at hcall
   refine kq <| rn 1 ?_
   refine kD (k_skip_seq (kq ?_))
   refine rkn 9 (decide ((↑i : Int) < (↑(List.length ks) : Int))) true (decide_eq_true om) ?_
   refine kct (k_skip_seq (kq (kZ (kq ?_))))
   refine rn 2 ?_
   refine kD (k_skip_seq (kq ?_))
   refine rn 3 <| runs_index (ks) (eInt) (o := none) (kd := IntKind.i64) (i) kr kr kr asm kr <| rn 1 <| runs_callv_st (cf) ([.ptr o1 0]) ([.int .i64 ks[i]]) ([.int .i64 ks[i], .ptr o1 0]) kr kr kr kr kr kr (hcall) ?_
   refine kD (k_skip_seq (kcf (kY (k_skip_seq ?_))))
   refine rvW ((↑i : Int) + 1) ((i + 1 : Nat) : Int) wE <| rn 1 <| kD <| kR ?_
   exact ⟨i + 1, ⟨hlt, take_noG hlt hno hp'⟩, om, kr, rfl⟩
 ·rw [List.take_of_length_le om] at hno
  rw [idxG_none p ks 0 hno]
  refine kq <| rn 1 ?_
  refine kD (k_skip_seq (kq ?_))
  refine rkn 9 (decide ((↑i : Int) < (↑(List.length ks) : Int))) false (decide_eq_false om) ?_
  refine kcf (k_exit_seq (k_exit_back (k_exit_hit rfl (k_skip_seq (kq ?_)))))
  refine rn 1 ?_
  refine kD (k_skip_seq (k_ret ?_))
  exact ⟨.inr rfl, kr, kr⟩
theorem containsI_ok (p : Int → Bool) (cf o1 : Nat) (ks : List Int) (o : Option Nat) (n : Nat) (σ : St) (hn : ks.length ≤ 1000) (h12 : 1000 < n) (hc : ∀ k ∈ ks, callN T n cf ([dInt k] ++ [.ptr o1 0]) σ = some (.bool (p k), σ)) :
  callN T (n + 2) 58 [.sl (ints ks) o, .func cf [.ptr o1 0]] σ = some (.bool (ks.any p), σ) := by
 rw [← idxG_ge p ks 0 (Int.le_refl _)]
 refine call_of (m := m58) rfl rfl (by decide) (k_start ?_)
 unfold m58
 refine kq <| rn 1 ?_
 refine kD (k_skip_seq (kq ?_))
 refine rn 2 <| rcs ([.sl (ints ks) none, .func cf [.ptr o1 0]]) kr kr kr kr (indexI_ok p cf o1 ks _ n _ hn h12 hc) <| rn 2 ?_
 refine kD (k_skip_seq (k_ret ?_))
 exact ⟨.inr rfl, kr, kr⟩
theorem indexR_ok (p : (List Int) → Bool) (cf o1 : Nat) (ks : List (List Int)) (o : Option Nat) (n : Nat) (σ : St) (hn : ks.length ≤ 1000) (h12 : 1000 < n) (hc : ∀ k ∈ ks, callN T n cf ([dInts k] ++ [.ptr o1 0]) σ = some (.bool (p k), σ)) :
  callN T (n + 1) 85 [.sl (rows ks) o, .func cf [.ptr o1 0]] σ = some (.int .i64 (idxG p ks 0), σ) := by
 refine call_of (m := m85) rfl rfl (by decide) (k_start ?_)
 unfold m85
 refine kq <| rn 1 ?_
 refine kD (k_skip_seq (kq (kq ?_)))
 refine rn 1 <| rve (.int .i64 (↑(List.length (rows ks)) : Int)) (.int IntKind.i64 ((↑(List.length ks) : Int))) (by simp only [ints, eInt, rows, eInts, bools, eBool, trips, eTrip, i8s, u16s, u8s, acts, List.length_map]) <| rn 1 ?_
 refine kD (k_skip_seq (kZ ?_))
 refine k_loop (fun i : Nat => fIdx (.sl (rows ks) none) ks.length (.func cf [.ptr o1 0]) i) (fun _ => σ) (fun i => i ≤ ks.length ∧ ∀ x ∈ ks.take i, p x = false) (fun i => ks.length - i) 0 kr rfl (by simp) (by intro s hs; omega) ?_
 rintro i ⟨hi, hno⟩
 by_cases hlt : i < ks.length
 ·have hcall := hc ks[i] (List.getElem_mem hlt)
  by_cases hp : p ks[i] = true
  ·rw [hp] at hcall
   refine kq <| rn 1 ?_
   refine kD (k_skip_seq (kq ?_))
   refine rkn 9 (decide ((↑i : Int) < (↑(List.length ks) : Int))) true (decide_eq_true om) ?_
   refine kct (k_skip_seq (kq (kZ (kq ?_))))
   refine rn 2 ?_
   refine kD (k_skip_seq (kq ?_))
   refine rn 3 <| runs_index (ks) (eInts) (o := none) (kd := IntKind.i64) (i) kr kr kr asm kr <| rn 1 <| runs_callv_st (cf) ([.ptr o1 0]) ([.sl (ints ks[i]) none]) ([.sl (ints ks[i]) none, .ptr o1 0]) kr kr kr kr kr kr (hcall) ?_
   refine kD (k_skip_seq (kct (kq ?_)))
   refine rn 2 ?_
   refine kD (k_skip_seq (k_ret ?_))
   refine ⟨.inr rfl, kr, ?_⟩
   rw [idxG_at p ks i 0 hlt hno hp, Int.zero_add]
   show _ = _
   kernel_rfl
  ·have hp' : p ks[i] = false := by simpa using hp
   rw [hp'] at hcall
   refine kq <| rn 1 ?_
   refine kD (k_skip_seq (kq ?_))
   refine rkn 9 (decide ((↑i : Int) < (↑(List.length ks) : Int))) true (decide_eq_true om) ?_
   refine kct (k_skip_seq (kq (kZ (kq ?_))))
   refine rn 2 ?_
   refine kD (k_skip_seq (kq ?_))
   refine rn 3 <| runs_index (ks) (eInts) (o := none) (kd := IntKind.i64) (i) kr kr kr asm kr <| rn 1 <| runs_callv_st (cf) ([.ptr o1 0]) ([.sl (ints ks[i]) none]) ([.sl (ints ks[i]) none, .ptr o1 0]) kr kr kr kr kr kr (hcall) ?_
   refine kD (k_skip_seq (kcf (kY (k_skip_seq ?_))))
   refine rvW ((↑i : Int) + 1) ((i + 1 : Nat) : Int) wE <| rn 1 <| kD <| kR ?_
   exact ⟨i + 1, ⟨hlt, take_noG hlt hno hp'⟩, om, kr, rfl⟩
 ·rw [List.take_of_length_le om] at hno
  rw [idxG_none p ks 0 hno]
  refine kq <| rn 1 ?_
  refine kD (k_skip_seq (kq ?_))
  refine rkn 9 (decide ((↑i : Int) < (↑(List.length ks) : Int))) false (decide_eq_false om) ?_
  refine kcf (k_exit_seq (k_exit_back (k_exit_hit rfl (k_skip_seq (kq ?_)))))
  refine rn 1 ?_
  refine kD (k_skip_seq (k_ret ?_))
  exact ⟨.inr rfl, kr, kr⟩
theorem containsR_ok (p : (List Int) → Bool) (cf o1 : Nat) (ks : List (List Int)) (o : Option Nat) (n : Nat) (σ : St) (hn : ks.length ≤ 1000) (h12 : 1000 < n) (hc : ∀ k ∈ ks, callN T n cf ([dInts k] ++ [.ptr o1 0]) σ = some (.bool (p k), σ)) :
  callN T (n + 2) 56 [.sl (rows ks) o, .func cf [.ptr o1 0]] σ = some (.bool (ks.any p), σ) := by
 rw [← idxG_ge p ks 0 (Int.le_refl _)]
 refine call_of (m := m56) rfl rfl (by decide) (k_start ?_)
 unfold m56
 refine kq <| rn 1 ?_
 refine kD (k_skip_seq (kq ?_))
 refine rn 2 <| rcs ([.sl (rows ks) none, .func cf [.ptr o1 0]]) kr kr kr kr (indexR_ok p cf o1 ks _ n _ hn h12 hc) <| rn 2 ?_
 refine kD (k_skip_seq (k_ret ?_))
 exact ⟨.inr rfl, kr, kr⟩
def wrongB (vars v : Int) : Bool := decide (v = 0) || decide (v > vars) || decide (v < 0 - vars)
def wrongC (vars : Int) (c : List Int) : Bool := c.any (wrongB vars)
def checkC (l : List (List Int)) (vars : Int) : Int := if vars < 0 ∨ vars > 20000 ∨ l.any (wrongC vars) = true then 1 else 0
def P0 (vars : Int) : Obj := .cells [.int .i64 vars]
def P1 : Obj := .cells [.func 55 [.ptr 0 0]]
theorem wrong_ok (n : Nat) (vars v : Int) (hv : 0 ≤ vars ∧ vars ≤ 100000) : callN T (n + 1) 55 [.int .i64 v, .ptr 0 0] [P0 vars, P1] = some (.bool (wrongB vars v), [P0 vars, P1]) := by
 refine call_of (m := m55) rfl rfl (by decide) (k_start ?_)
 unfold m55
 unfold wrongB
 by_cases c1 : v = 0
 ·rw [decide_eq_true c1]
  refine kq <| rn 1 ?_
  refine kD (k_skip_seq (kq ?_))
  refine rve (.int .i64 v) (.int IntKind.i64 (0 : Int)) (congrArg (D.int IntKind.i64) (show v = 0 from c1)) <| rn 2 ?_
  refine rno (rno (rno ?_))
  refine rn 2 ?_
  refine rno (rno (rno (rno ?_)))
  refine rn 2 ?_
  refine kD (k_skip_seq (k_ret ?_))
  exact ⟨.inr rfl, kr, kr⟩
 by_cases c2 : v > vars
 ·rw [decide_eq_false c1, decide_eq_true c2]
  refine kq <| rn 1 ?_
  refine kD (k_skip_seq (kq ?_))
  refine rn 3 <| rkn 6 (v == 0) false (decide_eq_false asm) <| rn 5 <| rkn 11 (decide (v > vars)) true (decide_eq_true asm) ?_
  refine rno (rno (rno (rno ?_)))
  refine rn 2 ?_
  refine kD (k_skip_seq (k_ret ?_))
  exact ⟨.inr rfl, kr, kr⟩
 ·rw [decide_eq_false c1, decide_eq_false c2]
  refine kq <| rn 1 ?_
  refine kD (k_skip_seq (kq ?_))
  refine rn 3 <| rkn 6 (v == 0) false (decide_eq_false asm) <| rn 5 <| rkn 11 (decide (v > vars)) false (decide_eq_false asm) <| rn 2 <| rvw ((0 : Int) - vars) wE <| rn 3 ?_
  refine kD (k_skip_seq (k_ret ?_))
  exact ⟨.inr rfl, kr, kr⟩
theorem wrongs_ok (n : Nat) (vars : Int) (c : List Int) (h12 : c.length ≤ 1000) (hn : 1000 < n) (hv : 0 ≤ vars ∧ vars ≤ 100000) : callN T (n + 4) 57 [dInts c, .ptr 1 0] [P0 vars, P1] = some (.bool (wrongC vars c), [P0 vars, P1]) := by
 have hcon := containsI_ok (wrongB vars) 55 0 c none (n + 1) [P0 vars, P1] h12 om (fun v _ => wrong_ok n vars v hv)
 have hm : wrongC vars c = c.any (wrongB vars) := rfl
 rw [hm]
 refine call_of (m := m57) rfl rfl (by decide) (k_start ?_)
 unfold m57
 refine kq <| rn 1 ?_
 refine kD (k_skip_seq (kq ?_))
 refine rn 2 <| rcs ([.sl (ints c) none, .func 55 [.ptr 0 0]]) kr kr kr kr (hcon) <| rn 1 ?_
 refine kD (k_skip_seq (k_ret ?_))
 exact ⟨.inr rfl, kr, kr⟩
theorem check_ok (n : Nat) (l : List (List Int)) (vars : Int) (o : Option Nat) (hn : 1000 < n) (hl : l.length ≤ 1000) (hc : ∀ c ∈ l, c.length ≤ 1000) :
  ∃ σ, callN T (n + 7) 33 [.sl (rows l) o, .int .i64 vars] [] = some (.int .i64 (checkC l vars), σ) := by
 by_cases c1 : vars < 0
 ·rw [show checkC l vars = 1 from if_pos (.inl c1)]
  refine ⟨[P0 vars], ?_⟩
  refine call_of (m := m33) rfl rfl (by decide) (k_start ?_)
  unfold m33
  refine kq <| rn 2 ?_
  refine kD (k_skip_seq (kq ?_))
  refine rgf (.func 55 [.ptr 0 0]) ([Obj.cells [.int .i64 vars]]) <| rn 2 ?_
  refine kD (k_skip_seq (kq (kq ?_)))
  refine rn 3 <| rkn 9 (decide (vars < 0)) true (decide_eq_true asm) ?_
  refine rno (rno ?_)
  refine rn 2 ?_
  refine rno (rno (rno ?_))
  refine rn 1 ?_
  refine kD (k_skip_seq (kct (kq ?_)))
  refine rn 1 ?_
  refine kD (k_skip_seq (k_ret ?_))
  exact ⟨.inr rfl, kr, kr⟩
 by_cases c2 : vars > 20000
 ·rw [show checkC l vars = 1 from if_pos (.inr (.inl c2))]
  refine ⟨[P0 vars], ?_⟩
  refine call_of (m := m33) rfl rfl (by decide) (k_start ?_)
  unfold m33
  refine kq <| rn 2 ?_
  refine kD (k_skip_seq (kq ?_))
  refine rgf (.func 55 [.ptr 0 0]) ([Obj.cells [.int .i64 vars]]) <| rn 2 ?_
  refine kD (k_skip_seq (kq (kq ?_)))
  refine rn 3 <| rkn 9 (decide (vars < 0)) false (decide_eq_false asm) <| rn 4 <| rkn 13 (decide (vars > 20000)) true (decide_eq_true asm) ?_
  refine rno (rno (rno ?_))
  refine rn 1 ?_
  refine kD (k_skip_seq (kct (kq ?_)))
  refine rn 1 ?_
  refine kD (k_skip_seq (k_ret ?_))
  exact ⟨.inr rfl, kr, kr⟩
 have hcon := containsR_ok (wrongC vars) 57 1 l none (n + 4) [P0 vars, P1] hl om (fun c h => wrongs_ok n vars c (hc c h) hn om)
 refine ⟨[P0 vars, P1], ?_⟩
 refine call_of (m := m33) rfl rfl (by decide) (k_start ?_)
 unfold m33
 by_cases c3 : l.any (wrongC vars) = true
 ·rw [show checkC l vars = 1 from if_pos (.inr (.inr c3))]
  rw [c3] at hcon
  refine kq <| rn 2 ?_
  refine kD (k_skip_seq (kq ?_))
  refine rgf (.func 55 [.ptr 0 0]) ([Obj.cells [.int .i64 vars]]) <| rn 2 ?_
  refine kD (k_skip_seq (kq (kq ?_)))
  refine rn 3 <| rkn 9 (decide (vars < 0)) false (decide_eq_false asm) <| rn 4 <| rkn 13 (decide (vars > 20000)) false (decide_eq_false asm) <| rn 1 <| rgf (.func 57 [.ptr 1 0]) ([Obj.cells [.int .i64 vars], Obj.cells [.func 55 [.ptr 0 0]]]) <| rcs ([.sl (rows l) none, .func 57 [.ptr 1 0]]) kr kr kr kr (hcon) <| rn 1 ?_
  refine kD (k_skip_seq (kct (kq ?_)))
  refine rn 1 ?_
  refine kD (k_skip_seq (k_ret ?_))
  exact ⟨.inr rfl, kr, kr⟩
 ·rw [show checkC l vars = 0 from if_neg (fun h => h.elim c1 (fun h => h.elim c2 c3))]
  have c3' : l.any (wrongC vars) = false := by simpa using c3
  rw [c3'] at hcon
  refine kq <| rn 2 ?_
  refine kD (k_skip_seq (kq ?_))
  refine rgf (.func 55 [.ptr 0 0]) ([Obj.cells [.int .i64 vars]]) <| rn 2 ?_
  refine kD (k_skip_seq (kq (kq ?_)))
  refine rn 3 <| rkn 9 (decide (vars < 0)) false (decide_eq_false asm) <| rn 4 <| rkn 13 (decide (vars > 20000)) false (decide_eq_false asm) <| rn 1 <| rgf (.func 57 [.ptr 1 0]) ([Obj.cells [.int .i64 vars], Obj.cells [.func 55 [.ptr 0 0]]]) <| rcs ([.sl (rows l) none, .func 57 [.ptr 1 0]]) kr kr kr kr (hcon) <| rn 1 ?_
  refine kD (k_skip_seq (kcf (k_skip_seq (kq ?_))))
  refine rn 1 ?_
  refine kD (k_skip_seq (k_ret ?_))
  exact ⟨.inr rfl, kr, kr⟩
end Go.Abs.W

namespace Go.Abs.W
open Go Go.Abs
set_option maxRecDepth 8000
attribute [local irreducible] callN runC evalOp
def s0R (l : List (List Int)) (V : Nat) (left : Int) : Sv := ⟨List.replicate (V + 1) 0, l, [], [], left, 0⟩
def solveR (l : List (List Int)) (V : Nat) (left : Int) : Int × Int × Sv := tryR (V + 1) l.length (V + 1) (s0R l V left)
def truthsR (a : List Int) (n : Nat) : List Bool := (List.range n).map fun k => decide (a.getD (k + 1) 0 > 0)
def stepsR (r : Int × Int × Sv) : List (Int × Int × Int) := if r.1 = 2 then r.2.2.steps else []
def metR (r : Int × Int × Sv) (V : Nat) : List Bool := if r.1 = 1 then truthsR r.2.2.a V else []
def okI (l : List (List Int)) (V : Nat) : Prop := V ≤ 399 ∧ l.length ≤ 1000 ∧ ∀ c ∈ l, okC (V + 1) c ∧ c.length ≤ 2 * (V + 1) + 100
theorem pre0 {l : List (List Int)} {V : Nat} {left : Int} (h : okI l V) (hl : 0 ≤ left ∧ left ≤ 1000) : Pre (V + 1) l.length (V + 1) (s0R l V left) := by
 obtain ⟨h1, h2, h3⟩ := h
 refine ⟨wf_nil _, h3, Nat.le_refl _, fun f hf => (List.not_mem_nil hf).elim, by show V + 1 ≤ 0 + (V + 1); omega, ?_, ?_, Int.le_refl _, ?_, hl.1, om⟩
 ·show (l.length : Int) + 402 * (2 * left + 3) ≤ _
  omega
 ·show ((0 : Nat) : Int) + 402 * (2 * left + 3) ≤ _
  omega
 ·show (0 : Int) + left ≤ _
  omega
theorem truths_snoc (a : List Int) (n : Nat) : truthsR a (n + 1) = truthsR a n ++ [decide (a.getD (n + 1) 0 > 0)] := by simp [truthsR, List.range_succ]
def f26 (l : List (List Int)) (V : Nat) (b : Int) (kind tried : Int) (tr : List Bool) (v : Int) : Fr :=
 (Fr.mk ([.sl (rows l) none, .int .i64 V, .int .i64 b, .junk, .junk, .junk, .lptr 6 0, .ptr 1 0, .junk, .junk, .lptr 10 0, .int .i64 v] ++ List.replicate 13 .junk ++ [.ptr 1 0] ++ List.replicate 49 .junk)
  (((List.replicate 75 none).set 6 (some [.int .i64 0, .sl [] (some 4), .sl [] (some 210), .int .i64 0])).set 10 (some [.int .i64 kind, .sl (bools tr) (some 4), .sl [] (some 210), .int .i64 tried])) []).clear [10, 7, 11, 1, 6, 25]
theorem solve_ok (fu : Nat) (l : List (List Int)) (V : Nat) (b : Int) (o : Option Nat) (hI : okI l V) (hb : -1000000000000 ≤ b ∧ b ≤ 1000) (hc : checkC l V = 0) (hf : 30000 < fu) :
  ∃ σ', callN T (fu + 1) 34 [.sl (rows l) o, .int .i64 V, .int .i64 b] [] = some (.agg [.int .i64 (solveR l V (if 0 > b then 0 else b)).1, .sl (bools (metR (solveR l V (if 0 > b then 0 else b)) V)) none, .sl (trips (stepsR (solveR l V (if 0 > b then 0 else b)))) none, .int .i64 (solveR l V (if 0 > b then 0 else b)).2.2.tried], σ') := by
 obtain ⟨fu, rfl⟩ : ∃ k, fu = k + 10 := ⟨fu - 10, om⟩
 have hV := hI.1
 have h60 := hI.2.1
 obtain ⟨σc, c24⟩ := check_ok (fu + 3) l V none om om (fun c hc => by have := (hI.2.2 c hc).2; omega)
 rw [hc] at c24
 have hleft : 0 ≤ (if 0 > b then 0 else b) ∧ (if 0 > b then 0 else b) ≤ 1000 := by split <;> omega
 have hpre := pre0 (left := if 0 > b then 0 else b) hI hleft
 obtain ⟨TR', ρ', c38, _, _⟩ := try_ok (V + 1) l.length om om om (V + 1) _ (.sl [] (some 207)) [] (fu + 10) hpre (.inl ⟨rfl, rfl⟩) om
 have hpost := try_post om (V + 1) _ hpre
 unfold solveR
 generalize tryR (V + 1) l.length (V + 1) (s0R l V (if 0 > b then 0 else b)) = r at *
 have hal := hpost.wf.len
 have htb := hpost.t0
 refine call_ofE (m := m34) rfl rfl (by decide) (k_start ?_)
 unfold m34
 by_cases k1 : r.1 = 1
 ·have hk2 : ¬ r.1 = 2 := by omega
  have e1 : metR r V = truthsR r.2.2.a V := if_pos k1
  have e2 : stepsR r = [] := if_neg hk2
  rw [e1, e2, k1]
  refine kq <| rn 1 ?_
  refine kD (k_skip_seq (kq (kq ?_)))
  refine rn 2 <| rca ([.sl (rows l) none, .int .i64 (↑V : Int)]) kr kr kr kr (c24) kr <| rn 1 ?_
  refine kD (k_skip_seq (kcf (k_skip_seq (kq ?_))))
  refine rn 1 <| rve (.int .i64 (↑(List.length (rows l)) : Int)) (.int IntKind.i64 ((↑(List.length l) : Int))) (by simp only [ints, eInt, rows, eInts, bools, eBool, trips, eTrip, i8s, u16s, u8s, acts, List.length_map]) <| rn 1 <| rvW ((↑V : Int) + 1) ((V + 1 : Nat) : Int) wE <| runs_make (V + 1) (ils (List.replicate (V + 1) 0)) kr kr kr om (ils_new (V + 1)) <| rn 5 ?_
  refine kD (k_skip_seq (kq ?_))
  refine rn 4 <| rgf (.sl [] (some 133)) ([Obj.cells (ils (List.replicate (V + 1) (0 : Int)))]) <| rn 1 <| runs_append ([]) (rows l) (rows l) kr kr kr (by simp [ints, eInt, rows, eInts, bools, eBool, trips, eTrip, i8s, u16s, u8s, acts]) (by simp [ints, eInt, rows, eInts, bools, eBool, trips, eTrip, i8s, u16s, u8s, acts, room]; omega) (List.nil_append _) <| rn 2 <| rgf .junk ([Obj.cells (ils (List.replicate (V + 1) (0 : Int)))]) ?_
  refine kD (k_skip_seq (kq ?_))
  refine rn 1 <| runs_prom ([.ptr 1 0]) ([Obj.cells (ils (List.replicate (V + 1) (0 : Int))), Obj.cells [.sl (rows l) (some 133), .int .i64 (↑(List.length l) : Int), .msl 0 0 (V + 1) 1, .sl [] (some 207), .sl [] (some 210), .int .i64 (if (0 : Int) > b then (0 : Int) else b), .int .i64 0]]) kr kr kr kr <| rcs ([.ptr 1 0]) kr kr kr kr (c38) <| rn 1 <| rve (.int .i64 r.1) (.int IntKind.i64 (1 : Int)) (congrArg (D.int IntKind.i64) (show Prod.fst r = 1 from k1)) <| rn 3 ?_
  refine kD (k_skip_seq (kq ?_))
  refine rn 8 ?_
  refine kD (k_skip_seq (kq (kq ?_)))
  refine rn 1 ?_
  refine kD (k_skip_seq (kZ (kq ?_)))
  refine rn 2 ?_
  refine kD (k_skip_seq (kct (kq ?_)))
  refine rn 1 ?_
  refine kD (k_skip_seq (kZ ?_))
  refine k_loop (fun i : Nat => f26 l V b 1 r.2.2.tried (truthsR r.2.2.a i) ((i + 1 : Nat) : Int)) (fun _ => ST r.2.2 l.length (V + 1) TR' ρ') (fun i => i ≤ V) (fun i => V - i) 0 kr rfl (by simp) (by intro s hs; omega) ?_
  intro i hi
  have hsn := truths_snoc r.2.2.a i
  have htl : (truthsR r.2.2.a i).length = i := by simp [truthsR]
  by_cases hlt : i < V
  ·have hget : (ils r.2.2.a)[(0 : Nat) + (i + (1 : Nat)) * (1 : Nat)]? = some (.int .i64 (r.2.2.a.getD (i + 1) 0)) := by
    have e : (0 : Nat) + (i + 1) * 1 = i + 1 := by omega
    rw [e, ils_get om, List.getD_eq_getElem?_getD, List.getElem?_eq_getElem om]
    rfl
   generalize truthsR r.2.2.a i = tr at *
   generalize r.2.2.a.getD (i + 1) 0 = x at *
   refine kq <| kq <| rn 3 <| kD <| k_skip_seq <| rkn 51 (decide ((↑(i + 1) : Int) ≤ (↑V : Int))) true (decide_eq_true om) ?_
   refine kct (k_skip_seq (kq (kZ ?_)))
   refine rn 1 <| rgf (.sl (bools tr) (some 4)) (Obj.cells (ils (Sv.a r.2.2)) :: Obj.cells [.sl (rows (Sv.l r.2.2)) (some 133), .int .i64 (↑(List.length l) : Int), .msl 0 0 (V + 1) 1, TR', .sl (trips (Sv.steps r.2.2)) (some 210), .int .i64 (Sv.left r.2.2), .int .i64 (Sv.tried r.2.2)] :: ρ') <| rn 5 <| runs_indexM (kd := IntKind.i64) 0 0 (V + 1) (i + 1) kr kr kr om <| rlp 0 ((0 : Nat) + (i + 1) * 1) (ils (Sv.a r.2.2)) _ kr kr kr asm <| rn 2 <| runs_append (bools tr) ([[D.bool (decide (x > 0))]]) (bools (tr ++ [decide (x > 0)])) kr kr kr kr (by simp [ints, eInt, rows, eInts, bools, eBool, trips, eTrip, i8s, u16s, u8s, acts, room]; omega) (by simp [ints, eInt, rows, eInts, bools, eBool, trips, eTrip, i8s, u16s, u8s, acts]) <| rn 1 <| rgf .junk (Obj.cells (ils (Sv.a r.2.2)) :: Obj.cells [.sl (rows (Sv.l r.2.2)) (some 133), .int .i64 (↑(List.length l) : Int), .msl 0 0 (V + 1) 1, TR', .sl (trips (Sv.steps r.2.2)) (some 210), .int .i64 (Sv.left r.2.2), .int .i64 (Sv.tried r.2.2)] :: ρ') ?_
   refine kD (kY (k_skip_seq ?_))
   refine rn 1 <| rvW ((↑(i + 1) : Int) + 1) ((i + 1 + 1 : Nat) : Int) wE <| rn 1 <| kD <| kR ?_
   exact ⟨i + 1, hlt, om, by rw [hsn]; kernel_rfl, rfl⟩
  ·obtain rfl : i = V := by omega
   generalize truthsR r.2.2.a i = tr at *
   refine kq <| kq <| rn 3 <| kD <| k_skip_seq <| rkn 51 (decide ((↑(i + 1) : Int) ≤ (↑i : Int))) false (decide_eq_false om) ?_
   refine kcf (k_exit_seq (k_exit_back (k_exit_hit rfl (kY (k_skip_seq (kq ?_))))))
   refine rn 1 <| rgf .junk (Obj.cells (ils (Sv.a r.2.2)) :: Obj.cells [.sl (rows (Sv.l r.2.2)) (some 133), .int .i64 (↑(List.length l) : Int), .msl 0 0 (i + 1) 1, TR', .sl (trips (Sv.steps r.2.2)) (some 210), .int .i64 (Sv.left r.2.2), .int .i64 (Sv.tried r.2.2)] :: ρ') ?_
   refine kD (k_skip_seq (k_ret ?_))
   exact ⟨.inr rfl, kr, ST r.2.2 l.length (i + 1) TR' ρ', kr⟩
 ·have e1 : metR r V = [] := if_neg k1
  rw [e1]
  by_cases k2 : r.1 = 2
  ·have e2 : stepsR r = r.2.2.steps := if_pos k2
   rw [e2, k2]
   refine kq <| rn 1 ?_
   refine kD (k_skip_seq (kq (kq ?_)))
   refine rn 2 <| rca ([.sl (rows l) none, .int .i64 (↑V : Int)]) kr kr kr kr (c24) kr <| rn 1 ?_
   refine kD (k_skip_seq (kcf (k_skip_seq (kq ?_))))
   refine rn 1 <| rve (.int .i64 (↑(List.length (rows l)) : Int)) (.int IntKind.i64 ((↑(List.length l) : Int))) (by simp only [ints, eInt, rows, eInts, bools, eBool, trips, eTrip, i8s, u16s, u8s, acts, List.length_map]) <| rn 1 <| rvW ((↑V : Int) + 1) ((V + 1 : Nat) : Int) wE <| runs_make (V + 1) (ils (List.replicate (V + 1) 0)) kr kr kr om (ils_new (V + 1)) <| rn 5 ?_
   refine kD (k_skip_seq (kq ?_))
   refine rn 4 <| rgf (.sl [] (some 133)) ([Obj.cells (ils (List.replicate (V + 1) (0 : Int)))]) <| rn 1 <| runs_append ([]) (rows l) (rows l) kr kr kr (by simp [ints, eInt, rows, eInts, bools, eBool, trips, eTrip, i8s, u16s, u8s, acts]) (by simp [ints, eInt, rows, eInts, bools, eBool, trips, eTrip, i8s, u16s, u8s, acts, room]; omega) (List.nil_append _) <| rn 2 <| rgf .junk ([Obj.cells (ils (List.replicate (V + 1) (0 : Int)))]) ?_
   refine kD (k_skip_seq (kq ?_))
   refine rn 1 <| runs_prom ([.ptr 1 0]) ([Obj.cells (ils (List.replicate (V + 1) (0 : Int))), Obj.cells [.sl (rows l) (some 133), .int .i64 (↑(List.length l) : Int), .msl 0 0 (V + 1) 1, .sl [] (some 207), .sl [] (some 210), .int .i64 (if (0 : Int) > b then (0 : Int) else b), .int .i64 0]]) kr kr kr kr <| rcs ([.ptr 1 0]) kr kr kr kr (c38) <| rn 1 <| rve (.int .i64 r.1) (.int IntKind.i64 (2 : Int)) (congrArg (D.int IntKind.i64) (show Prod.fst r = 2 from k2)) <| rn 3 ?_
   refine kD (k_skip_seq (kq ?_))
   refine rn 8 ?_
   refine kD (k_skip_seq (kq (kq ?_)))
   refine rn 1 ?_
   refine kD (k_skip_seq (kZ (kq ?_)))
   refine rn 2 ?_
   refine kD (k_skip_seq (kcf (kq ?_)))
   refine rn 2 ?_
   refine kD (k_skip_seq (kct ?_))
   refine rn 6 ?_
   refine kD (kY (k_skip_seq (kq ?_)))
   refine rn 2 ?_
   refine kD (k_skip_seq (k_ret ?_))
   exact ⟨.inr rfl, kr, ST r.2.2 l.length (V + 1) TR' ρ', kr⟩
  ·have e2 : stepsR r = [] := if_neg k2
   rw [e2]
   refine kq <| rn 1 ?_
   refine kD (k_skip_seq (kq (kq ?_)))
   refine rn 2 <| rca ([.sl (rows l) none, .int .i64 (↑V : Int)]) kr kr kr kr (c24) kr <| rn 1 ?_
   refine kD (k_skip_seq (kcf (k_skip_seq (kq ?_))))
   refine rn 1 <| rve (.int .i64 (↑(List.length (rows l)) : Int)) (.int IntKind.i64 ((↑(List.length l) : Int))) (by simp only [ints, eInt, rows, eInts, bools, eBool, trips, eTrip, i8s, u16s, u8s, acts, List.length_map]) <| rn 1 <| rvW ((↑V : Int) + 1) ((V + 1 : Nat) : Int) wE <| runs_make (V + 1) (ils (List.replicate (V + 1) 0)) kr kr kr om (ils_new (V + 1)) <| rn 5 ?_
   refine kD (k_skip_seq (kq ?_))
   refine rn 4 <| rgf (.sl [] (some 133)) ([Obj.cells (ils (List.replicate (V + 1) (0 : Int)))]) <| rn 1 <| runs_append ([]) (rows l) (rows l) kr kr kr (by simp [ints, eInt, rows, eInts, bools, eBool, trips, eTrip, i8s, u16s, u8s, acts]) (by simp [ints, eInt, rows, eInts, bools, eBool, trips, eTrip, i8s, u16s, u8s, acts, room]; omega) (List.nil_append _) <| rn 2 <| rgf .junk ([Obj.cells (ils (List.replicate (V + 1) (0 : Int)))]) ?_
   refine kD (k_skip_seq (kq ?_))
   refine rn 1 <| runs_prom ([.ptr 1 0]) ([Obj.cells (ils (List.replicate (V + 1) (0 : Int))), Obj.cells [.sl (rows l) (some 133), .int .i64 (↑(List.length l) : Int), .msl 0 0 (V + 1) 1, .sl [] (some 207), .sl [] (some 210), .int .i64 (if (0 : Int) > b then (0 : Int) else b), .int .i64 0]]) kr kr kr kr <| rcs ([.ptr 1 0]) kr kr kr kr (c38) <| rn 5 ?_
   refine kD (k_skip_seq (kq ?_))
   refine rn 8 ?_
   refine kD (k_skip_seq (kq (kq ?_)))
   refine rn 1 ?_
   refine kD (k_skip_seq (kZ (kq ?_)))
   refine rn 2 <| kD <| k_skip_seq <| rkn 47 (Prod.fst r == 1) false (decide_eq_false asm) <| kcf <| kq <| rn 2 <| kD <| k_skip_seq <| rkn 67 (Prod.fst r == 2) false (decide_eq_false asm) ?_
   refine kcf (kY (k_skip_seq (kq ?_)))
   refine rn 2 ?_
   refine kD (k_skip_seq (k_ret ?_))
   exact ⟨.inr rfl, kr, ST r.2.2 l.length (V + 1) TR' ρ', kr⟩
end Go.Abs.W

namespace Go.Abs.W
open Go Go.Abs
set_option maxRecDepth 100000
abbrev sch1 : List (List D) := [[.str [85], .sl [] none, .sl [] none]]
abbrev sch2 : List (List D) := [[.str [118], .sl [] none, .sl [[.str [85]]] none, .sl [[.str [85]]] none, .sl [[.str [97], .int .i64 3, .str [], .sl [] none, .sl [] none, .bool false]] none]]
abbrev schA2 : List (List D) := [[.str [118], .sl [] none, .sl [[.str [85]]] none, .sl [[.str [85]]] none, .sl [] none]]
theorem bools_same (l : List Bool) : sameDs [.sl (bools l) none] [.sl (bools l) none] = true := by
 have h : ∀ l : List Bool, sameDss (bools l) (bools l) = true := fun l => by
  induction l with
  | nil => rfl
  | cons b l ih =>
   show sameDss (eBool b :: bools l) (eBool b :: bools l) = true
   have hb : sameDs (eBool b) (eBool b) = true := by cases b <;> rfl
   simp only [sameDss, hb, ih, Bool.and_self]
 simp only [sameDs, sameD, h, beq_self_eq_true, Bool.and_self]
abbrev ent0 : List D := [.sl [] none, .int .i64 6, .bool false, .int .i64 0, .str [], .str [], .str [], .sl [] none, .sl [] none]
abbrev reqR (p r : List UInt8) (it nm : List (List D)) : D := .agg [.str [85], .str p, .str [65, 99, 116, 105, 111, 110], .str [118], .str [85], .str r, .int .i64 6, .bool false, .int .i64 0, .str [], .str [], .str [], .sl it none, .sl nm none]
abbrev stoR (p r : List UInt8) : List (List D) := [[.str [65, 99, 116, 105, 111, 110], .str [118]] ++ ent0, [.str [85], .str p] ++ ent0, [.str [85], .str r] ++ ent0]
def nmP (b0 : Bool) : List UInt8 := bif b0 then [120] else [120, 120, 120]
def mdR (b0 b1 : Bool) : D := .tup [reqR (nmP b0) [120, 120, 120, 120] [[.int .i64 1, .bool b1, .int .i64 0, .str [], .str [], .str [], .sl [] none, .sl [] none]] [[.str [97]]], .sl (stoR (nmP b0) [120, 120, 120, 120]) none]
def mdA : D := .tup [reqR [120, 120] [120, 120, 120] [] [], .sl (stoR [120, 120] [120, 120, 120]) none]
end Go.Abs.W

namespace Go.Abs.W
open Go Go.Abs
set_option maxRecDepth 8000
attribute [local irreducible] callN runC evalOp
def promFr (fr : Fr) (σ : St) (t : Nat) : Fr := { fr with slots := fr.slots.map (relinkL t σ.length), boxes := fr.boxes.set t none }
theorem k_prom {cal : Cal} {fuel t : Nat} {fr : Fr} {σ : St} {R : AE → Fr → St → Prop} (cs : List D) (hb : fr.boxAt t = some cs) (hk : Runs (runC cal fuel .skip (promFr fr σ t) (σ ++ [.cells cs])) R) : Runs (runC cal fuel (.nat (promN t)) fr σ) R := by
 obtain ⟨ae, f, s, h1, h2⟩ := hk
 unfold runC at h1
 cases h1
 refine ⟨.normal, _, _, ?_, h2⟩
 unfold runC
 simp only [promN, Fr.promote, hb, Option.map_some, promFr]
def f31 (ps : List Pol) (out : List (List D)) (i : Nat) : Fr := Fr.mk (([.junk, .junk, .junk, .junk, .junk, .junk, .lptr 6 0, .int .i64 0, .ptr 1 0, .lptr 9 0] ++ List.replicate 24 D.junk) ++ [.ptr 1 0, .sl (ePs ps) none, .int .i64 (ePs ps).length, .int .i64 i] ++ List.replicate 163 D.junk)
 (((List.replicate 201 none).set 6 (some [.sl [] (some 69), .sl [] (some 115), .int .i64 0, .int .i64 0, .sl [] (some 69)])).set 9 (some [.sl out (some 69), .sl [] (some 115), .int .i64 0, .int .i64 0, .sl [] (some 69)])) []
theorem runs_fr {cal : Cal} {fuel : Nat} {c : MCode} {fr : Fr} {σ : St} {R : AE → Fr → St → Prop} (fr' : Fr) (h : fr = fr') (hr : Runs (runC cal fuel c fr' σ) R) : Runs (runC cal fuel c fr σ) R := by
 rw [h]
 exact hr
theorem runs_use {cal : Cal} {fuel : Nat} {c : MCode} {fr : Fr} {σ : St} {res : List MRes} {d : D} (h : endR res (runC cal fuel c fr σ) = some d) {k : List KF} :
  Runs (runC cal fuel c fr σ) (kont cal fuel k (fun ae fr σ1 => (ae = .normal ∨ ae = .ret) ∧ fr.defers = [] ∧ ∃ σ', resultOf fr σ1 res = some (d, σ'))) := by
 obtain ⟨fr', σ1, σ', h1, h2, h3⟩ := endR_eq h
 exact ⟨.ret, fr', σ1, h1, kont_ret k ⟨.inr rfl, h2, σ', h3⟩⟩
theorem of31g (ps : List Pol) (fs : List Fm) (hlen : ps.length = fs.length) (hc : ∀ (i : Nat) (h : i < ps.length) (h2 : i < fs.length), callN T 39995 36 [.ptr 1 0, .agg (eP ps[i])] (stG i) = some (.agg (eF fs[i]), stG (i + 1)))
  (hv : sameDss (eFs fs) (eFs fs) = true) (hn : 0 < ps.length) (h60 : ps.length ≤ 60) (o : Option Nat) :
  ∃ σ', callN T 39996 31 [.agg [.sl sch1 none, .sl sch2 none], .agg [.str [85], .str [118], .str [85]], .sl (ePs ps) o] [] = some (ans31 (eFs fs) [at1, at2] axF, σ') := by
 refine call_ofE (m := m31n) rfl rfl (by decide) (k_start ?_)
 unfold m31n m31
 simp only [putP]
 change Runs (runC _ _ (.seq _ (.seq _ (.seq _ (.seq _ rest31)))) _ _) _
 generalize hR : rest31 = R
 have hpl : (ePs ps).length = ps.length := by simp [ePs]
 refine kq <| rn 4 ?_
 refine kD (k_skip_seq (kq (kq ?_)))
 refine rn 2 <| rgs (.map 0) ([Obj.map []]) <| rn 3 <| kD <| k_skip_seq ?_
 refine k_prom [.sl sch1 none, .sl sch2 none, .str [85], .str [118], .str [85], .sl [] (some 115), .map 0, .bool false] kr ?_
 refine k_skip_seq <| kq <| rn 1 ?_
 refine kD (k_skip_seq (kq (kq ?_)))
 refine rn 3 ?_
 refine kD (k_skip_seq (kZ ?_))
 have h0 : fs.take 0 = [] := rfl
 refine k_loop (fun i : Nat => f31 ps (eFs (fs.take i)) i) (fun i => stG i) (fun i => i ≤ ps.length) (fun i => ps.length - i) 0 (by rw [h0]; kernel_rfl) kr (by simp) (by intro s hs; omega) ?_
 intro i hi
 by_cases hlt : i < ps.length
 ·have hp := hc i hlt om
  have hg := pol_at hlt
  have hnx : fs.take (i + 1) = fs.take i ++ [fs[i]'om] := List.take_succ_eq_append_getElem om
  have hsn := eFs_snoc (fs.take i) (fs[i]'om)
  have hol := eFs_length (fs.take i)
  rw [List.length_take] at hol
  unfold l31_2
  generalize fs.take i = out at *
  generalize hσ : stG i = σ1 at *
  generalize hσ2 : stG (i + 1) = σ2 at *
  refine kq <| rn 1 ?_
  refine kD (k_skip_seq (kq ?_))
  refine rkn 38 (decide ((↑i : Int) < (↑(List.length (ePs ps)) : Int))) true (decide_eq_true om) ?_
  refine kct (k_skip_seq (kq (kZ (kq ?_))))
  refine runs_index (ps) (eP) (o := none) (kd := IntKind.i64) (i) kr kr kr asm kr <| rn 3 <| kD <| k_skip_seq ?_
  refine k_alt2 kr ?_
  refine rn 1 <| runs_loadTT kr <| rgf (.sl (eFs out) (some 69)) (σ1) <| rn 2 <| runs_callT kr <| rcs ([.ptr 1 0, .agg [.str (Pol.id ps[i]), .bool (Pol.permit ps[i]), .int .i64 (Scp.kind (Pol.p ps[i])), .str (Scp.ty (Pol.p ps[i])), .str (Scp.uty (Pol.p ps[i])), .str (Scp.uid (Pol.p ps[i])), .bool (Scp.slot (Pol.p ps[i])), .sl (Scp.list (Pol.p ps[i])) none, .int .i64 (Scp.kind (Pol.a ps[i])), .str (Scp.ty (Pol.a ps[i])), .str (Scp.uty (Pol.a ps[i])), .str (Scp.uid (Pol.a ps[i])), .bool (Scp.slot (Pol.a ps[i])), .sl (Scp.list (Pol.a ps[i])) none, .int .i64 (Scp.kind (Pol.r ps[i])), .str (Scp.ty (Pol.r ps[i])), .str (Scp.uty (Pol.r ps[i])), .str (Scp.uid (Pol.r ps[i])), .bool (Scp.slot (Pol.r ps[i])), .sl (Scp.list (Pol.r ps[i])) none, .sl (Pol.conds ps[i]) none]]) kr kr kr kr (hp) <| rn 1 <| runs_append (eFs out) ([[D.int IntKind.i64 (Fm.op fs[i]), D.int IntKind.i64 (Fm.n fs[i]), D.sl (eFs (Fm.kids fs[i])) none]]) (eFs out ++ [[D.int IntKind.i64 (Fm.op fs[i]), D.int IntKind.i64 (Fm.n fs[i]), D.sl (eFs (Fm.kids fs[i])) none]]) kr kr kr kr (by simp [hol, ints, eInt, rows, eInts, bools, eBool, trips, eTrip, i8s, u16s, u8s, acts, room]; omega) rfl <| rn 1 <| rgf .junk (σ2) ?_
  refine kD (kY (k_skip_seq ?_))
  refine rvW ((↑i : Int) + 1) ((i + 1 : Nat) : Int) wE <| rn 1 <| kD <| kR ?_
  exact ⟨i + 1, hlt, om, by rw [hnx, ← hsn]; kernel_rfl, hσ2.symm⟩
 ·unfold l31_2
  obtain rfl : i = ps.length := by omega
  have hw : fs.take ps.length = fs := by rw [hlen]; exact List.take_length
  rw [hw]
  refine kq <| rn 1 ?_
  refine kD (k_skip_seq (kq ?_))
  refine rkn 38 (decide ((↑(List.length ps) : Int) < (↑(List.length (ePs ps)) : Int))) false (decide_eq_false om) ?_
  refine kcf (k_exit_seq (k_exit_back (k_exit_hit rfl (k_skip_seq ?_))))
  rw [← hR]
  have hs : stG ps.length = stF2 := by
   cases hq : ps.length with
   | zero => omega
   | succ k => rfl
  rw [hs]
  refine runs_fr (fE31 (eFs fs) (.sl (ePs ps) none) (.int .i64 (ps.length : Int)) (.int .i64 ((ePs ps).length : Int)) (.bool false)) kr ?_
  exact runs_use (rest31_ok (eFs fs) _ _ _ _ hv)
theorem of31 (l : List Nat) (hl : ∀ i ∈ l, i < 8) (hn : 0 < l.length) (h60 : l.length ≤ 60) (o : Option Nat) :
  ∃ σ', callN T 39996 31 [.agg [.sl sch1 none, .sl sch2 none], .agg [.str [85], .str [118], .str [85]], .sl (ePs (l.map rowP)) o] [] = some (ans31 (eFs (l.map tkF)) [at1, at2] axF, σ') := by
 refine of31g (l.map rowP) (l.map tkF) (by simp) (fun i h h2 => ?_) (tks_same hl) (by simpa using hn) (by simpa using h60) o
 have h' : i < l.length := by simpa using h
 rw [List.getElem_map, List.getElem_map]
 cases i with
 | zero => exact pf0 (hl _ (List.getElem_mem h'))
 | succ k => exact pf2 (hl _ (List.getElem_mem h'))
theorem of31n : ∃ σ', callN T 39996 31 [.agg [.sl sch1 none, .sl sch2 none], .agg [.str [85], .str [118], .str [85]], .sl [] none] [] = some (ans31 [] [] [], σ') := by
 have h : ((callNK T 39996 31 [.agg [.sl sch1 none, .sl sch2 none], .agg [.str [85], .str [118], .str [85]], .sl [] none] []).map (·.1)) = some (ans31 [] [] []) := by kernel_rfl
 rw [Option.map_eq_some_iff] at h
 obtain ⟨⟨d, σ'⟩, h1, h2⟩ := h
 simp only at h2
 subst h2
 exact ⟨σ', callN_of_fast h1⟩
end Go.Abs.W

namespace Go.Abs.W
open Go Go.Abs
set_option maxRecDepth 8000
attribute [local irreducible] callN runC evalOp
def someF (pr : Pol → Bool) (l : List Pol) (fs : List Fm) : Fm := .mk 6 0 (pickF pr l fs)
def allowF (l : List Pol) (fs : List Fm) : Fm := .mk 5 0 [someF (·.permit) l fs, .mk 4 0 [someF (fun x => !x.permit) l fs]]
theorem eFs_two (f g : Fm) : eFs [f, g] = [eF f, eF g] := by simp [eFs_map]
theorem allow_ok (n : Nat) (l : List Pol) (fs : List Fm) (o o2 : Option Nat) (σ : St) (hl : l.length ≤ fs.length) (hn : l.length < n) (h60 : l.length ≤ 60) :
  callN T (n + 2) 12 [.sl (ePs l) o, .sl (eFs fs) o2] σ = some (.agg (eF (allowF l fs)), σ) := by
 obtain ⟨n, rfl⟩ : ∃ m, n = m + 1 := ⟨n - 1, om⟩
 have c1 := some_ok (n + 1) (·.permit) 20 l fs none none [] (fun x _ => permits_ok n x []) hl hn h60
 have c2 := some_ok (n + 1) (fun x => !x.permit) 21 l fs none none [] (fun x _ => forbids_ok n x []) hl hn h60
 have c3 := notA_ok (n + 1) (.mk 6 0 (pickF (fun x => !x.permit) l fs)) []
 have c4 := andA_ok (n + 1) [.mk 6 0 (pickF (·.permit) l fs), .mk 4 0 [.mk 6 0 (pickF (fun x => !x.permit) l fs)]] none []
 rw [eFs_two] at c4
 unfold allowF someF
 generalize Fm.mk 6 0 (pickF (·.permit) l fs) = A at *
 generalize Fm.mk 6 0 (pickF (fun x => !x.permit) l fs) = B at *
 generalize Fm.mk 5 0 [A, .mk 4 0 [B]] = R at *
 generalize Fm.mk 4 0 [B] = C at *
 refine call_of (m := m12) rfl rfl (by decide) (k_start ?_)
 unfold m12
 refine kq <| rn 1 ?_
 refine kD (k_skip_seq (kq ?_))
 refine rn 2 <| rca ([.sl (ePs l) none, .sl (eFs fs) none, .func 20 []]) kr kr kr kr (c1) kr <| rn 2 <| rca ([.sl (ePs l) none, .sl (eFs fs) none, .func 21 []]) kr kr kr kr (c2) kr <| rca ([.agg [.int .i64 B.op, .int .i64 B.n, .sl (eFs B.kids) none]]) kr kr kr kr (c3) kr <| rn 1 <| rca ([.sl [[.int .i64 A.op, .int .i64 A.n, .sl (eFs A.kids) none], [.int .i64 C.op, .int .i64 C.n, .sl (eFs C.kids) none]] none]) kr kr kr kr (c4) kr <| rn 1 ?_
 refine kD (k_skip_seq (k_ret ?_))
 exact ⟨.inr rfl, kr, kr⟩
def bothF (l : List Pol) (fs : List Fm) : Fm := .mk 5 0 [someF (·.permit) l fs, someF (fun x => !x.permit) l fs]
def differF (p q : List Pol) (fs : List Fm) : Fm :=
 .mk 6 0 [.mk 5 0 [allowF p (fs.take p.length), .mk 4 0 [allowF q (fs.drop p.length)]], .mk 5 0 [allowF q (fs.drop p.length), .mk 4 0 [allowF p (fs.take p.length)]]]
theorem differ_ok (n : Nat) (p q : List Pol) (fs : List Fm) (o : Option Nat) (σ : St) (pp qq : Nat) (hp : σ[pp]? = some (.cells [.sl (ePs p) none])) (hq : σ[qq]? = some (.cells [.sl (ePs q) none])) (hl : fs.length = p.length + q.length) (hn : p.length + q.length < n) (h60 : p.length + q.length ≤ 60) :
  callN T (n + 4) 11 [.sl (eFs fs) o, .ptr pp 0, .ptr qq 0] σ = some (.agg (eF (differF p q fs)), σ) := by
 have hpl : (ePs p).length = p.length := by simp [ePs]
 have hfl := eFs_length fs
 have hal := eFs_all fs
 have ht : ((eFs fs).drop 0).take ((ePs p).length - 0) = eFs (fs.take p.length) := by simp [eFs_map, hpl, List.map_take]
 have hd : ((eFs fs).drop (ePs p).length).take ((eFs fs).length - (ePs p).length) = eFs (fs.drop p.length) := by
  rw [List.take_of_length_le (by simp)]
  simp [eFs_map, hpl, List.map_drop]
 have c1 := allow_ok (n + 1) p (fs.take p.length) none none [] (by rw [List.length_take]; omega) om om
 have c2 := allow_ok (n + 1) q (fs.drop p.length) none none [] (by rw [List.length_drop]; omega) om om
 have c3 := notA_ok (n + 2) (allowF p (fs.take p.length)) []
 have c4 := notA_ok (n + 2) (allowF q (fs.drop p.length)) []
 have c5 := andA_ok (n + 2) [allowF p (fs.take p.length), .mk 4 0 [allowF q (fs.drop p.length)]] none []
 have c6 := andA_ok (n + 2) [allowF q (fs.drop p.length), .mk 4 0 [allowF p (fs.take p.length)]] none []
 rw [eFs_two] at c5 c6
 unfold differF
 generalize allowF p (fs.take p.length) = A at *
 generalize allowF q (fs.drop p.length) = B at *
 generalize Fm.mk 5 0 [A, .mk 4 0 [B]] = AB at *
 generalize Fm.mk 5 0 [B, .mk 4 0 [A]] = BA at *
 generalize Fm.mk 4 0 [A] = NA at *
 generalize Fm.mk 4 0 [B] = NB at *
 have e6 : eF (Fm.mk 6 0 [AB, BA]) = [.int .i64 6, .int .i64 0, .sl [eF AB, eF BA] none] := by simp [eF, Fm.op_mk, Fm.n_mk, Fm.kids_mk, eFs_map]
 rw [e6]
 refine call_of (m := m11) rfl rfl (by decide) (k_start ?_)
 unfold m11
 refine kq <| rn 1 ?_
 refine kD (k_skip_seq (kq (k_alt ?_)))
 refine runs_loadPT kr <| rlp (pp) 0 _ _ kr kr (hp) rfl <| rn 1 <| runs_loadPT kr <| rlp (pp) 0 _ _ kr kr (hp) rfl <| rn 1 <| runs_sliceS (eFs fs) _ (o := none) 0 (List.length (ePs p)) kr kr kr (hiD_nat (k := IntKind.i64) kr) om asm asm <| runs_callQ ([.sl (ePs p) none, .sl (eFs (List.take (List.length p) fs)) none]) kr kr kr kr (c1) kr <| runs_loadPT kr <| rlp (qq) 0 _ _ kr kr (hq) rfl <| rn 1 <| runs_loadPT kr <| rlp (pp) 0 _ _ kr kr (hp) rfl <| rn 1 <| runs_sliceS (eFs fs) _ (o := none) (List.length (ePs p)) (List.length (eFs fs)) kr kr (loD_nat (k := IntKind.i64) kr) kr om asm asm <| runs_callQ ([.sl (ePs q) none, .sl (eFs (List.drop (List.length p) fs)) none]) kr kr kr kr (c2) kr <| runs_allocR kr <| rn 1 <| runs_allocR kr <| rn 1 <| runs_storeR kr <| rgf .junk (σ) <| runs_storeR kr <| rgf .junk (σ) ?_
 refine kD (k_skip_seq (kq (k_alt ?_)))
 refine runs_loadL kr <| rn 1 <| runs_loadL kr <| rn 1 <| runs_callT kr <| rca ([.agg [.int .i64 B.op, .int .i64 B.n, .sl (eFs B.kids) none]]) kr kr kr kr (c4) kr <| rn 1 <| runs_callT kr <| rca ([.sl [[.int .i64 A.op, .int .i64 A.n, .sl (eFs A.kids) none], [.int .i64 NB.op, .int .i64 NB.n, .sl (eFs NB.kids) none]] none]) kr kr kr kr (c5) kr <| runs_loadL kr <| rn 1 <| runs_loadL kr <| rn 1 <| runs_callT kr <| rca ([.agg [.int .i64 A.op, .int .i64 A.n, .sl (eFs A.kids) none]]) kr kr kr kr (c3) kr <| rn 1 <| runs_callT kr <| rca ([.sl [[.int .i64 B.op, .int .i64 B.n, .sl (eFs B.kids) none], [.int .i64 NA.op, .int .i64 NA.n, .sl (eFs NA.kids) none]] none]) kr kr kr kr (c6) kr <| rn 3 ?_
 refine kD (k_skip_seq (k_ret ?_))
 refine ⟨.inr rfl, kr, ?_⟩
 show _ = _
 kernel_rfl
theorem conflict_ok (n : Nat) (p : List Pol) (fs : List Fm) (o : Option Nat) (σ : St) (pp : Nat) (hp : σ[pp]? = some (.cells [.sl (ePs p) none])) (hl : p.length ≤ fs.length) (hn : p.length < n) (h60 : p.length ≤ 60) :
  callN T (n + 2) 18 [.sl (eFs fs) o, .ptr pp 0] σ = some (.agg (eF (bothF p fs)), σ) := by
 obtain ⟨n, rfl⟩ : ∃ m, n = m + 1 := ⟨n - 1, om⟩
 have c1 := some_ok (n + 1) (·.permit) 20 p fs none none [] (fun x _ => permits_ok n x []) hl hn h60
 have c2 := some_ok (n + 1) (fun x => !x.permit) 21 p fs none none [] (fun x _ => forbids_ok n x []) hl hn h60
 have c4 := andA_ok (n + 1) [.mk 6 0 (pickF (·.permit) p fs), .mk 6 0 (pickF (fun x => !x.permit) p fs)] none []
 rw [eFs_two] at c4
 unfold bothF someF
 generalize Fm.mk 6 0 (pickF (·.permit) p fs) = A at *
 generalize Fm.mk 6 0 (pickF (fun x => !x.permit) p fs) = B at *
 generalize Fm.mk 5 0 [A, B] = R at *
 refine call_of (m := m18) rfl rfl (by decide) (k_start ?_)
 unfold m18
 refine kq <| rn 1 ?_
 refine kD (k_skip_seq (kq ?_))
 refine k_alt2 kr ?_
 refine rlp (pp) 0 _ _ kr kr (hp) rfl <| rn 1 <| runs_callQ ([.sl (ePs p) none, .sl (eFs fs) none, .func 20 []]) kr kr kr kr (c1) kr <| rlp (pp) 0 _ _ kr kr (hp) rfl <| rn 1 <| runs_callQ ([.sl (ePs p) none, .sl (eFs fs) none, .func 21 []]) kr kr kr kr (c2) kr <| rn 1 <| runs_callQ ([.sl [[.int .i64 A.op, .int .i64 A.n, .sl (eFs A.kids) none], [.int .i64 B.op, .int .i64 B.n, .sl (eFs B.kids) none]] none]) kr kr kr kr (c4) kr <| rn 1 ?_
 refine kD (k_skip_seq (k_ret ?_))
 exact ⟨.inr rfl, kr, kr⟩
end Go.Abs.W

namespace Go.Abs.W
open Go Go.Abs
set_option maxRecDepth 8000
attribute [local irreducible] callN runC evalOp
theorem ask2_no (n : Nat) (s1 s2 pl at_ : List (List D)) (e1 e2 e3 : List UInt8) (gf : Nat) (pp qq : Nat) (b : Int) (σ σ1 σ2 σ3 σ4 : St) (tk : List Fm) (ax g : Fm) (cl : List (List Int)) (V : Int) (tried : Int) (tr : List Bool) (st : List (Int × Int × Int))
  (c1 : callN T n 31 [.agg [.sl s1 none, .sl s2 none], .agg [.str e1, .str e2, .str e3], .sl pl none] [] = some (.tup [.agg [.sl (eFs tk) none, .sl at_ none, .int .i64 ax.op, .int .i64 ax.n, .sl (eFs ax.kids) none], .int .i64 0], σ1))
  (c2 : callN T n gf ([.sl (eFs tk) none] ++ [.ptr pp 0, .ptr qq 0]) σ = some (.agg (eF g), σ))
  (c3 : callN T n 32 [.agg (eF (.mk 5 0 [g, ax])), .int .i64 at_.length] [] = some (.tup [.sl (rows cl) none, .int .i64 V], σ2))
  (c4 : callN T n 33 [.sl (rows cl) none, .int .i64 V] [] = some (.int .i64 0, σ3))
  (c5 : callN T n 34 [.sl (rows cl) none, .int .i64 V, .int .i64 b] [] = some (.agg [.int .i64 2, .sl (bools tr) none, .sl (trips st) none, .int .i64 tried], σ4)) :
  callN T (n + 1) 29 [.agg [.sl s1 none, .sl s2 none, .sl pl none, .func gf [.ptr pp 0, .ptr qq 0], .int .i64 b], .agg [.str e1, .str e2, .str e3]] σ = some (.agg [.int .i64 2, .bool false, .str [], .str [], .str [], .str [], .str [], .str [], .int .i64 0, .bool false, .int .i64 0, .str [], .str [], .str [], .sl [] none, .sl [] none, .sl [] none], σ) := by
 have e6 : eF (Fm.mk 5 0 [g, ax]) = [.int .i64 5, .int .i64 0, .sl [eF g, eF ax] none] := by simp [eF, Fm.op_mk, Fm.n_mk, Fm.kids_mk, eFs_map]
 rw [e6] at c3
 refine call_of (m := m29) rfl rfl (by decide) (k_start ?_)
 unfold m29
 refine kq <| rn 3 ?_
 refine kD (k_skip_seq (kq ?_))
 refine rn 5 <| rca ([.agg [.sl s1 none, .sl s2 none], .agg [.str e1, .str e2, .str e3], .sl pl none]) kr kr kr kr (c1) kr <| rn 6 ?_
 refine kD (k_skip_seq (kq (kq ?_)))
 refine rn 2 ?_
 refine kD (k_skip_seq (kcf (k_skip_seq (kq (k_alt ?_)))))
 refine rn 1 <| runs_loadOB kr kr <| rn 2 <| runs_loadOB kr kr <| rn 1 <| runs_callvT kr <| runs_callv_st (gf) ([.ptr pp 0, .ptr qq 0]) ([.sl (eFs tk) none]) ([.sl (eFs tk) none, .ptr pp 0, .ptr qq 0]) kr kr kr kr kr kr (c2) <| rn 1 <| runs_loadOB kr kr <| rn 3 <| runs_allocR kr <| rn 1 <| runs_storeR kr <| rgf .junk (σ) ?_
 refine kD (k_skip_seq (kq ?_))
 refine rn 4 <| rca ([.agg [.int .i64 5, .int .i64 0, .sl [[.int .i64 g.op, .int .i64 g.n, .sl (eFs g.kids) none], [.int .i64 ax.op, .int .i64 ax.n, .sl (eFs ax.kids) none]] none], .int .i64 (↑(List.length at_) : Int)]) kr kr kr kr (c3) kr <| rn 5 ?_
 refine kD (k_skip_seq (kq (kq ?_)))
 refine rn 2 <| rca ([.sl (rows cl) none, .int .i64 V]) kr kr kr kr (c4) kr <| rn 1 ?_
 refine kD (k_skip_seq (kcf (k_skip_seq (kq (kq ?_)))))
 refine rn 4 <| rca ([.sl (rows cl) none, .int .i64 V, .int .i64 b]) kr kr kr kr (c5) kr <| rn 2 ?_
 refine kD (k_skip_seq (kq ?_))
 refine rn 2 ?_
 refine kD (k_skip_seq (kZ (kq ?_)))
 refine rn 2 ?_
 refine kD (k_skip_seq (kct (kq ?_)))
 refine rn 2 ?_
 refine kD (k_skip_seq (k_ret ?_))
 exact ⟨.inr rfl, kr, kr⟩
theorem ask1_no (n : Nat) (s1 s2 pl at_ : List (List D)) (e1 e2 e3 : List UInt8) (gf : Nat) (pp : Nat) (b : Int) (σ σ1 σ2 σ3 σ4 : St) (tk : List Fm) (ax g : Fm) (cl : List (List Int)) (V : Int) (tried : Int) (tr : List Bool) (st : List (Int × Int × Int))
  (c1 : callN T n 31 [.agg [.sl s1 none, .sl s2 none], .agg [.str e1, .str e2, .str e3], .sl pl none] [] = some (.tup [.agg [.sl (eFs tk) none, .sl at_ none, .int .i64 ax.op, .int .i64 ax.n, .sl (eFs ax.kids) none], .int .i64 0], σ1))
  (c2 : callN T n gf ([.sl (eFs tk) none] ++ [.ptr pp 0]) σ = some (.agg (eF g), σ))
  (c3 : callN T n 32 [.agg (eF (.mk 5 0 [g, ax])), .int .i64 at_.length] [] = some (.tup [.sl (rows cl) none, .int .i64 V], σ2))
  (c4 : callN T n 33 [.sl (rows cl) none, .int .i64 V] [] = some (.int .i64 0, σ3))
  (c5 : callN T n 34 [.sl (rows cl) none, .int .i64 V, .int .i64 b] [] = some (.agg [.int .i64 2, .sl (bools tr) none, .sl (trips st) none, .int .i64 tried], σ4)) :
  callN T (n + 1) 29 [.agg [.sl s1 none, .sl s2 none, .sl pl none, .func gf [.ptr pp 0], .int .i64 b], .agg [.str e1, .str e2, .str e3]] σ = some (.agg [.int .i64 2, .bool false, .str [], .str [], .str [], .str [], .str [], .str [], .int .i64 0, .bool false, .int .i64 0, .str [], .str [], .str [], .sl [] none, .sl [] none, .sl [] none], σ) := by
 have e6 : eF (Fm.mk 5 0 [g, ax]) = [.int .i64 5, .int .i64 0, .sl [eF g, eF ax] none] := by simp [eF, Fm.op_mk, Fm.n_mk, Fm.kids_mk, eFs_map]
 rw [e6] at c3
 refine call_of (m := m29) rfl rfl (by decide) (k_start ?_)
 unfold m29
 refine kq <| rn 3 ?_
 refine kD (k_skip_seq (kq ?_))
 refine rn 5 <| rca ([.agg [.sl s1 none, .sl s2 none], .agg [.str e1, .str e2, .str e3], .sl pl none]) kr kr kr kr (c1) kr <| rn 6 ?_
 refine kD (k_skip_seq (kq (kq ?_)))
 refine rn 2 ?_
 refine kD (k_skip_seq (kcf (k_skip_seq (kq (k_alt ?_)))))
 refine rn 1 <| runs_loadOB kr kr <| rn 2 <| runs_loadOB kr kr <| rn 1 <| runs_callvT kr <| runs_callv_st (gf) ([.ptr pp 0]) ([.sl (eFs tk) none]) ([.sl (eFs tk) none, .ptr pp 0]) kr kr kr kr kr kr (c2) <| rn 1 <| runs_loadOB kr kr <| rn 3 <| runs_allocR kr <| rn 1 <| runs_storeR kr <| rgf .junk (σ) ?_
 refine kD (k_skip_seq (kq ?_))
 refine rn 4 <| rca ([.agg [.int .i64 5, .int .i64 0, .sl [[.int .i64 g.op, .int .i64 g.n, .sl (eFs g.kids) none], [.int .i64 ax.op, .int .i64 ax.n, .sl (eFs ax.kids) none]] none], .int .i64 (↑(List.length at_) : Int)]) kr kr kr kr (c3) kr <| rn 5 ?_
 refine kD (k_skip_seq (kq (kq ?_)))
 refine rn 2 <| rca ([.sl (rows cl) none, .int .i64 V]) kr kr kr kr (c4) kr <| rn 1 ?_
 refine kD (k_skip_seq (kcf (k_skip_seq (kq (kq ?_)))))
 refine rn 4 <| rca ([.sl (rows cl) none, .int .i64 V, .int .i64 b]) kr kr kr kr (c5) kr <| rn 2 ?_
 refine kD (k_skip_seq (kq ?_))
 refine rn 2 ?_
 refine kD (k_skip_seq (kZ (kq ?_)))
 refine rn 2 ?_
 refine kD (k_skip_seq (kct (kq ?_)))
 refine rn 2 ?_
 refine kD (k_skip_seq (k_ret ?_))
 exact ⟨.inr rfl, kr, kr⟩
theorem ask2_yes (n : Nat) (s1 s2 pl at_ : List (List D)) (e1 e2 e3 : List UInt8) (gf : Nat) (pp qq : Nat) (b : Int) (σ σ1 σ2 σ3 σ4 : St) (tk : List Fm) (ax g : Fm) (cl : List (List Int)) (V : Int) (tried : Int) (tr : List Bool) (st : List (Int × Int × Int))
  (c1 : callN T n 31 [.agg [.sl s1 none, .sl s2 none], .agg [.str e1, .str e2, .str e3], .sl pl none] [] = some (.tup [.agg [.sl (eFs tk) none, .sl at_ none, .int .i64 ax.op, .int .i64 ax.n, .sl (eFs ax.kids) none], .int .i64 0], σ1))
  (c2 : callN T n gf ([.sl (eFs tk) none] ++ [.ptr pp 0, .ptr qq 0]) σ = some (.agg (eF g), σ))
  (c3 : callN T n 32 [.agg (eF (.mk 5 0 [g, ax])), .int .i64 at_.length] [] = some (.tup [.sl (rows cl) none, .int .i64 V], σ2))
  (c4 : callN T n 33 [.sl (rows cl) none, .int .i64 V] [] = some (.int .i64 0, σ3))
  (c5 : callN T n 34 [.sl (rows cl) none, .int .i64 V, .int .i64 b] [] = some (.agg [.int .i64 1, .sl (bools tr) none, .sl (trips st) none, .int .i64 tried], σ4)) (r1 r2 r3 r4 r5 r6 : List UInt8) (i1 i2 : Int) (bb : Bool) (r7 r8 r9 : List UInt8) (it nm so : List (List D)) (σ5 : St)
  (rm : D) (hfz6 : callN T n 35 [.agg [.sl s1 none, .sl s2 none], .agg [.str e1, .str e2, .str e3], .sl at_ none, .sl (bools tr) none] [] = some (rm, σ5) ∧ freeze σ5 rm = some (.tup [.agg [.str r1, .str r2, .str r3, .str r4, .str r5, .str r6, .int .i64 i1, .bool bb, .int .i64 i2, .str r7, .str r8, .str r9, .sl it none, .sl nm none], .sl so none])) :
  callN T (n + 1) 29 [.agg [.sl s1 none, .sl s2 none, .sl pl none, .func gf [.ptr pp 0, .ptr qq 0], .int .i64 b], .agg [.str e1, .str e2, .str e3]] σ = some (.agg [.int .i64 1, .bool true, .str r1, .str r2, .str r3, .str r4, .str r5, .str r6, .int .i64 i1, .bool bb, .int .i64 i2, .str r7, .str r8, .str r9, .sl it none, .sl nm none, .sl so none], σ) := by
 have e6 : eF (Fm.mk 5 0 [g, ax]) = [.int .i64 5, .int .i64 0, .sl [eF g, eF ax] none] := by simp [eF, Fm.op_mk, Fm.n_mk, Fm.kids_mk, eFs_map]
 rw [e6] at c3
 refine call_of (m := m29) rfl rfl (by decide) (k_start ?_)
 unfold m29
 refine kq <| rn 3 ?_
 refine kD (k_skip_seq (kq ?_))
 refine rn 5 <| rca ([.agg [.sl s1 none, .sl s2 none], .agg [.str e1, .str e2, .str e3], .sl pl none]) kr kr kr kr (c1) kr <| rn 6 ?_
 refine kD (k_skip_seq (kq (kq ?_)))
 refine rn 2 ?_
 refine kD (k_skip_seq (kcf (k_skip_seq (kq (k_alt ?_)))))
 refine rn 1 <| runs_loadOB kr kr <| rn 2 <| runs_loadOB kr kr <| rn 1 <| runs_callvT kr <| runs_callv_st (gf) ([.ptr pp 0, .ptr qq 0]) ([.sl (eFs tk) none]) ([.sl (eFs tk) none, .ptr pp 0, .ptr qq 0]) kr kr kr kr kr kr (c2) <| rn 1 <| runs_loadOB kr kr <| rn 3 <| runs_allocR kr <| rn 1 <| runs_storeR kr <| rgf .junk (σ) ?_
 refine kD (k_skip_seq (kq ?_))
 refine rn 4 <| rca ([.agg [.int .i64 5, .int .i64 0, .sl [[.int .i64 g.op, .int .i64 g.n, .sl (eFs g.kids) none], [.int .i64 ax.op, .int .i64 ax.n, .sl (eFs ax.kids) none]] none], .int .i64 (↑(List.length at_) : Int)]) kr kr kr kr (c3) kr <| rn 5 ?_
 refine kD (k_skip_seq (kq (kq ?_)))
 refine rn 2 <| rca ([.sl (rows cl) none, .int .i64 V]) kr kr kr kr (c4) kr <| rn 1 ?_
 refine kD (k_skip_seq (kcf (k_skip_seq (kq (kq ?_)))))
 refine rn 4 <| rca ([.sl (rows cl) none, .int .i64 V, .int .i64 b]) kr kr kr kr (c5) kr <| rn 2 ?_
 refine kD (k_skip_seq (kq ?_))
 refine rn 2 ?_
 refine kD (k_skip_seq (kZ (kq ?_)))
 refine rn 2 ?_
 refine kD (k_skip_seq (kcf (kq ?_)))
 refine rn 2 ?_
 refine kD (k_skip_seq (kct (kq ?_)))
 refine rn 3 ?_
 refine kD (k_skip_seq (kq ?_))
 refine rn 7 <| runs_callF ([.agg [.sl s1 none, .sl s2 none], .agg [.str e1, .str e2, .str e3], .sl at_ none, .sl (bools tr) none]) kr kr kr kr (hfz6.1) (hfz6.2) <| rn 7 ?_
 refine kD (k_skip_seq (kq ?_))
 refine rn 2 ?_
 refine kD (k_skip_seq (k_ret ?_))
 exact ⟨.inr rfl, kr, kr⟩
theorem ask1_yes (n : Nat) (s1 s2 pl at_ : List (List D)) (e1 e2 e3 : List UInt8) (gf : Nat) (pp : Nat) (b : Int) (σ σ1 σ2 σ3 σ4 : St) (tk : List Fm) (ax g : Fm) (cl : List (List Int)) (V : Int) (tried : Int) (tr : List Bool) (st : List (Int × Int × Int))
  (c1 : callN T n 31 [.agg [.sl s1 none, .sl s2 none], .agg [.str e1, .str e2, .str e3], .sl pl none] [] = some (.tup [.agg [.sl (eFs tk) none, .sl at_ none, .int .i64 ax.op, .int .i64 ax.n, .sl (eFs ax.kids) none], .int .i64 0], σ1))
  (c2 : callN T n gf ([.sl (eFs tk) none] ++ [.ptr pp 0]) σ = some (.agg (eF g), σ))
  (c3 : callN T n 32 [.agg (eF (.mk 5 0 [g, ax])), .int .i64 at_.length] [] = some (.tup [.sl (rows cl) none, .int .i64 V], σ2))
  (c4 : callN T n 33 [.sl (rows cl) none, .int .i64 V] [] = some (.int .i64 0, σ3))
  (c5 : callN T n 34 [.sl (rows cl) none, .int .i64 V, .int .i64 b] [] = some (.agg [.int .i64 1, .sl (bools tr) none, .sl (trips st) none, .int .i64 tried], σ4)) (r1 r2 r3 r4 r5 r6 : List UInt8) (i1 i2 : Int) (bb : Bool) (r7 r8 r9 : List UInt8) (it nm so : List (List D)) (σ5 : St)
  (rm : D) (hfz6 : callN T n 35 [.agg [.sl s1 none, .sl s2 none], .agg [.str e1, .str e2, .str e3], .sl at_ none, .sl (bools tr) none] [] = some (rm, σ5) ∧ freeze σ5 rm = some (.tup [.agg [.str r1, .str r2, .str r3, .str r4, .str r5, .str r6, .int .i64 i1, .bool bb, .int .i64 i2, .str r7, .str r8, .str r9, .sl it none, .sl nm none], .sl so none])) :
  callN T (n + 1) 29 [.agg [.sl s1 none, .sl s2 none, .sl pl none, .func gf [.ptr pp 0], .int .i64 b], .agg [.str e1, .str e2, .str e3]] σ = some (.agg [.int .i64 1, .bool true, .str r1, .str r2, .str r3, .str r4, .str r5, .str r6, .int .i64 i1, .bool bb, .int .i64 i2, .str r7, .str r8, .str r9, .sl it none, .sl nm none, .sl so none], σ) := by
 have e6 : eF (Fm.mk 5 0 [g, ax]) = [.int .i64 5, .int .i64 0, .sl [eF g, eF ax] none] := by simp [eF, Fm.op_mk, Fm.n_mk, Fm.kids_mk, eFs_map]
 rw [e6] at c3
 refine call_of (m := m29) rfl rfl (by decide) (k_start ?_)
 unfold m29
 refine kq <| rn 3 ?_
 refine kD (k_skip_seq (kq ?_))
 refine rn 5 <| rca ([.agg [.sl s1 none, .sl s2 none], .agg [.str e1, .str e2, .str e3], .sl pl none]) kr kr kr kr (c1) kr <| rn 6 ?_
 refine kD (k_skip_seq (kq (kq ?_)))
 refine rn 2 ?_
 refine kD (k_skip_seq (kcf (k_skip_seq (kq (k_alt ?_)))))
 refine rn 1 <| runs_loadOB kr kr <| rn 2 <| runs_loadOB kr kr <| rn 1 <| runs_callvT kr <| runs_callv_st (gf) ([.ptr pp 0]) ([.sl (eFs tk) none]) ([.sl (eFs tk) none, .ptr pp 0]) kr kr kr kr kr kr (c2) <| rn 1 <| runs_loadOB kr kr <| rn 3 <| runs_allocR kr <| rn 1 <| runs_storeR kr <| rgf .junk (σ) ?_
 refine kD (k_skip_seq (kq ?_))
 refine rn 4 <| rca ([.agg [.int .i64 5, .int .i64 0, .sl [[.int .i64 g.op, .int .i64 g.n, .sl (eFs g.kids) none], [.int .i64 ax.op, .int .i64 ax.n, .sl (eFs ax.kids) none]] none], .int .i64 (↑(List.length at_) : Int)]) kr kr kr kr (c3) kr <| rn 5 ?_
 refine kD (k_skip_seq (kq (kq ?_)))
 refine rn 2 <| rca ([.sl (rows cl) none, .int .i64 V]) kr kr kr kr (c4) kr <| rn 1 ?_
 refine kD (k_skip_seq (kcf (k_skip_seq (kq (kq ?_)))))
 refine rn 4 <| rca ([.sl (rows cl) none, .int .i64 V, .int .i64 b]) kr kr kr kr (c5) kr <| rn 2 ?_
 refine kD (k_skip_seq (kq ?_))
 refine rn 2 ?_
 refine kD (k_skip_seq (kZ (kq ?_)))
 refine rn 2 ?_
 refine kD (k_skip_seq (kcf (kq ?_)))
 refine rn 2 ?_
 refine kD (k_skip_seq (kct (kq ?_)))
 refine rn 3 ?_
 refine kD (k_skip_seq (kq ?_))
 refine rn 7 <| runs_callF ([.agg [.sl s1 none, .sl s2 none], .agg [.str e1, .str e2, .str e3], .sl at_ none, .sl (bools tr) none]) kr kr kr kr (hfz6.1) (hfz6.2) <| rn 7 ?_
 refine kD (k_skip_seq (kq ?_))
 refine rn 2 ?_
 refine kD (k_skip_seq (k_ret ?_))
 exact ⟨.inr rfl, kr, kr⟩
end Go.Abs.W

namespace Go.Abs.W
open Go Go.Abs
set_option maxRecDepth 8000
attribute [local irreducible] callN runC evalOp
abbrev noR : List D := [.int .i64 2, .bool false, .str [], .str [], .str [], .str [], .str [], .str [], .int .i64 0, .bool false, .int .i64 0, .str [], .str [], .str [], .sl [] none, .sl [] none, .sl [] none]
abbrev yesR (k : Int) (r1 r2 r3 r4 r5 r6 : List UInt8) (i1 i2 : Int) (bb : Bool) (r7 r8 r9 : List UInt8) (it nm so : List (List D)) : List D := [.int .i64 k, .bool true, .str r1, .str r2, .str r3, .str r4, .str r5, .str r6, .int .i64 i1, .bool bb, .int .i64 i2, .str r7, .str r8, .str r9, .sl it none, .sl nm none, .sl so none]
abbrev zR (k : Int) : List D := [.int .i64 k, .bool false, .str [], .str [], .str [], .str [], .str [], .str [], .int .i64 0, .bool false, .int .i64 0, .str [], .str [], .str [], .sl [] (some 46), .sl [] (some 9), .sl [] (some 157)]
def f17 (Q : List D) (e1 e2 e3 : List UInt8) (i : Nat) : Fr :=
 Fr.mk ([.junk, .lptr 1 0, .lptr 2 0, .lptr 3 0, .junk, .junk, .junk, .junk, .junk, .junk, .sl [[.str e1, .str e2, .str e3]] none, .int .i64 1, .int .i64 i] ++ List.replicate 16 .junk)
  ((((List.replicate 29 none).set 1 (some Q)).set 2 (some (zR 0))).set 3 (some (zR 2))) []
theorem all2_no (n : Nat) (s1 s2 pl : List (List D)) (e1 e2 e3 : List UInt8) (gf : Nat) (pp qq : Nat) (b : Int) (σ σ1 : St)  (hn : 2 < n)
  (c1 : callN T n 28 [.agg [.sl s1 none, .sl s2 none]] [] = some (.sl [[.str e1, .str e2, .str e3]] none, σ1))
  (c2 : callN T n 29 [.agg [.sl s1 none, .sl s2 none, .sl pl none, .func gf [.ptr pp 0, .ptr qq 0], .int .i64 b], .agg [.str e1, .str e2, .str e3]] σ = some (.agg noR, σ)) :
  callN T (n + 1) 17 [.agg [.sl s1 none, .sl s2 none, .sl pl none, .func gf [.ptr pp 0, .ptr qq 0], .int .i64 b]] σ = some (.agg noR, σ) := by
 obtain ⟨n, rfl⟩ : ∃ m, n = m + 2 := ⟨n - 2, om⟩
 refine call_of (m := m17) rfl rfl (by decide) (k_start ?_)
 unfold m17
 refine kq <| rn 2 ?_
 refine kD (k_skip_seq (kq ?_))
 refine rn 3 ?_
 refine kD (k_skip_seq (kq (kq ?_)))
 refine rn 2 <| rca ([.agg [.sl s1 none, .sl s2 none]]) kr kr kr kr (c1) kr <| rn 2 ?_
 refine kD (k_skip_seq (kZ ?_))
 refine k_loop (fun i : Nat => f17 [.sl s1 none, .sl s2 none, .sl pl none, .func gf [.ptr pp 0, .ptr qq 0], .int .i64 b] e1 e2 e3 i) (fun _ => σ) (fun i => i ≤ 1) (fun i => 1 - i) 0 kr rfl (by simp) (by intro s hs; omega) ?_
 intro i hi
 obtain rfl | rfl : i = 0 ∨ i = 1 := by omega
 ·refine kq <| rn 1 ?_
  refine kD (k_skip_seq (kq (kct (k_skip_seq (kq (kZ (kq ?_)))))))
  refine rn 4 ?_
  refine kD (k_skip_seq (kq ?_))
  refine rn 2 <| rcs ([.agg [.sl s1 none, .sl s2 none, .sl pl none, .func gf [.ptr pp 0, .ptr qq 0], .int .i64 b], .agg [.str e1, .str e2, .str e3]]) kr kr kr kr (c2) <| rn 2 ?_
  refine kD (k_skip_seq (kq ?_))
  refine rn 2 ?_
  refine kD (k_skip_seq (kZ (kq ?_)))
  refine rn 2 ?_
  refine kD (k_skip_seq (kcf (kq ?_)))
  refine rn 2 ?_
  refine kD (k_skip_seq (kcf (kY (kY (k_skip_seq ?_)))))
  refine rn 2 <| kD <| kR ?_
  exact ⟨1, om, om, kr, rfl⟩
 ·refine kq <| rn 1 ?_
  refine kD (k_skip_seq (kq (kcf (k_exit_seq (k_exit_back (k_exit_hit rfl (k_skip_seq (kq ?_))))))))
  refine rn 2 ?_
  refine kD (k_skip_seq (k_ret ?_))
  exact ⟨.inr rfl, kr, kr⟩
theorem all1_no (n : Nat) (s1 s2 pl : List (List D)) (e1 e2 e3 : List UInt8) (gf : Nat) (pp : Nat) (b : Int) (σ σ1 : St)  (hn : 2 < n)
  (c1 : callN T n 28 [.agg [.sl s1 none, .sl s2 none]] [] = some (.sl [[.str e1, .str e2, .str e3]] none, σ1))
  (c2 : callN T n 29 [.agg [.sl s1 none, .sl s2 none, .sl pl none, .func gf [.ptr pp 0], .int .i64 b], .agg [.str e1, .str e2, .str e3]] σ = some (.agg noR, σ)) :
  callN T (n + 1) 17 [.agg [.sl s1 none, .sl s2 none, .sl pl none, .func gf [.ptr pp 0], .int .i64 b]] σ = some (.agg noR, σ) := by
 obtain ⟨n, rfl⟩ : ∃ m, n = m + 2 := ⟨n - 2, om⟩
 refine call_of (m := m17) rfl rfl (by decide) (k_start ?_)
 unfold m17
 refine kq <| rn 2 ?_
 refine kD (k_skip_seq (kq ?_))
 refine rn 3 ?_
 refine kD (k_skip_seq (kq (kq ?_)))
 refine rn 2 <| rca ([.agg [.sl s1 none, .sl s2 none]]) kr kr kr kr (c1) kr <| rn 2 ?_
 refine kD (k_skip_seq (kZ ?_))
 refine k_loop (fun i : Nat => f17 [.sl s1 none, .sl s2 none, .sl pl none, .func gf [.ptr pp 0], .int .i64 b] e1 e2 e3 i) (fun _ => σ) (fun i => i ≤ 1) (fun i => 1 - i) 0 kr rfl (by simp) (by intro s hs; omega) ?_
 intro i hi
 obtain rfl | rfl : i = 0 ∨ i = 1 := by omega
 ·refine kq <| rn 1 ?_
  refine kD (k_skip_seq (kq (kct (k_skip_seq (kq (kZ (kq ?_)))))))
  refine rn 4 ?_
  refine kD (k_skip_seq (kq ?_))
  refine rn 2 <| rcs ([.agg [.sl s1 none, .sl s2 none, .sl pl none, .func gf [.ptr pp 0], .int .i64 b], .agg [.str e1, .str e2, .str e3]]) kr kr kr kr (c2) <| rn 2 ?_
  refine kD (k_skip_seq (kq ?_))
  refine rn 2 ?_
  refine kD (k_skip_seq (kZ (kq ?_)))
  refine rn 2 ?_
  refine kD (k_skip_seq (kcf (kq ?_)))
  refine rn 2 ?_
  refine kD (k_skip_seq (kcf (kY (kY (k_skip_seq ?_)))))
  refine rn 2 <| kD <| kR ?_
  exact ⟨1, om, om, kr, rfl⟩
 ·refine kq <| rn 1 ?_
  refine kD (k_skip_seq (kq (kcf (k_exit_seq (k_exit_back (k_exit_hit rfl (k_skip_seq (kq ?_))))))))
  refine rn 2 ?_
  refine kD (k_skip_seq (k_ret ?_))
  exact ⟨.inr rfl, kr, kr⟩
theorem all2_yes (n : Nat) (s1 s2 pl : List (List D)) (e1 e2 e3 : List UInt8) (gf : Nat) (pp qq : Nat) (b : Int) (σ σ1 : St) (r1 r2 r3 r4 r5 r6 : List UInt8) (i1 i2 : Int) (bb : Bool) (r7 r8 r9 : List UInt8) (it nm so : List (List D)) (hn : 2 < n)
  (c1 : callN T n 28 [.agg [.sl s1 none, .sl s2 none]] [] = some (.sl [[.str e1, .str e2, .str e3]] none, σ1))
  (c2 : callN T n 29 [.agg [.sl s1 none, .sl s2 none, .sl pl none, .func gf [.ptr pp 0, .ptr qq 0], .int .i64 b], .agg [.str e1, .str e2, .str e3]] σ = some (.agg (yesR 1 r1 r2 r3 r4 r5 r6 i1 i2 bb r7 r8 r9 it nm so), σ)) :
  callN T (n + 1) 17 [.agg [.sl s1 none, .sl s2 none, .sl pl none, .func gf [.ptr pp 0, .ptr qq 0], .int .i64 b]] σ = some (.agg (yesR 1 r1 r2 r3 r4 r5 r6 i1 i2 bb r7 r8 r9 it nm so), σ) := by
 obtain ⟨n, rfl⟩ : ∃ m, n = m + 2 := ⟨n - 2, om⟩
 refine call_of (m := m17) rfl rfl (by decide) (k_start ?_)
 unfold m17
 refine kq <| rn 2 ?_
 refine kD (k_skip_seq (kq ?_))
 refine rn 3 ?_
 refine kD (k_skip_seq (kq (kq ?_)))
 refine rn 2 <| rca ([.agg [.sl s1 none, .sl s2 none]]) kr kr kr kr (c1) kr <| rn 2 ?_
 refine kD (k_skip_seq (kZ ?_))
 refine k_loop (fun i : Nat => f17 [.sl s1 none, .sl s2 none, .sl pl none, .func gf [.ptr pp 0, .ptr qq 0], .int .i64 b] e1 e2 e3 i) (fun _ => σ) (fun i => i ≤ 0) (fun i => 1 - i) 0 kr rfl (by simp) (by intro s hs; omega) ?_
 intro i hi
 obtain rfl : i = 0 := by omega
 refine kq <| rn 1 ?_
 refine kD (k_skip_seq (kq (kct (k_skip_seq (kq (kZ (kq ?_)))))))
 refine rn 4 ?_
 refine kD (k_skip_seq (kq ?_))
 refine rn 2 <| rcs ([.agg [.sl s1 none, .sl s2 none, .sl pl none, .func gf [.ptr pp 0, .ptr qq 0], .int .i64 b], .agg [.str e1, .str e2, .str e3]]) kr kr kr kr (c2) <| rn 2 ?_
 refine kD (k_skip_seq (kq ?_))
 refine rn 2 ?_
 refine kD (k_skip_seq (kZ (kq ?_)))
 refine rn 2 ?_
 refine kD (k_skip_seq (kct (kq ?_)))
 refine rn 2 ?_
 refine kD (k_skip_seq (k_ret ?_))
 exact ⟨.inr rfl, kr, kr⟩
theorem all1_yes (n : Nat) (s1 s2 pl : List (List D)) (e1 e2 e3 : List UInt8) (gf : Nat) (pp : Nat) (b : Int) (σ σ1 : St) (r1 r2 r3 r4 r5 r6 : List UInt8) (i1 i2 : Int) (bb : Bool) (r7 r8 r9 : List UInt8) (it nm so : List (List D)) (hn : 2 < n)
  (c1 : callN T n 28 [.agg [.sl s1 none, .sl s2 none]] [] = some (.sl [[.str e1, .str e2, .str e3]] none, σ1))
  (c2 : callN T n 29 [.agg [.sl s1 none, .sl s2 none, .sl pl none, .func gf [.ptr pp 0], .int .i64 b], .agg [.str e1, .str e2, .str e3]] σ = some (.agg (yesR 1 r1 r2 r3 r4 r5 r6 i1 i2 bb r7 r8 r9 it nm so), σ)) :
  callN T (n + 1) 17 [.agg [.sl s1 none, .sl s2 none, .sl pl none, .func gf [.ptr pp 0], .int .i64 b]] σ = some (.agg (yesR 1 r1 r2 r3 r4 r5 r6 i1 i2 bb r7 r8 r9 it nm so), σ) := by
 obtain ⟨n, rfl⟩ : ∃ m, n = m + 2 := ⟨n - 2, om⟩
 refine call_of (m := m17) rfl rfl (by decide) (k_start ?_)
 unfold m17
 refine kq <| rn 2 ?_
 refine kD (k_skip_seq (kq ?_))
 refine rn 3 ?_
 refine kD (k_skip_seq (kq (kq ?_)))
 refine rn 2 <| rca ([.agg [.sl s1 none, .sl s2 none]]) kr kr kr kr (c1) kr <| rn 2 ?_
 refine kD (k_skip_seq (kZ ?_))
 refine k_loop (fun i : Nat => f17 [.sl s1 none, .sl s2 none, .sl pl none, .func gf [.ptr pp 0], .int .i64 b] e1 e2 e3 i) (fun _ => σ) (fun i => i ≤ 0) (fun i => 1 - i) 0 kr rfl (by simp) (by intro s hs; omega) ?_
 intro i hi
 obtain rfl : i = 0 := by omega
 refine kq <| rn 1 ?_
 refine kD (k_skip_seq (kq (kct (k_skip_seq (kq (kZ (kq ?_)))))))
 refine rn 4 ?_
 refine kD (k_skip_seq (kq ?_))
 refine rn 2 <| rcs ([.agg [.sl s1 none, .sl s2 none, .sl pl none, .func gf [.ptr pp 0], .int .i64 b], .agg [.str e1, .str e2, .str e3]]) kr kr kr kr (c2) <| rn 2 ?_
 refine kD (k_skip_seq (kq ?_))
 refine rn 2 ?_
 refine kD (k_skip_seq (kZ (kq ?_)))
 refine rn 2 ?_
 refine kD (k_skip_seq (kct (kq ?_)))
 refine rn 2 ?_
 refine kD (k_skip_seq (k_ret ?_))
 exact ⟨.inr rfl, kr, kr⟩
end Go.Abs.W

namespace Go.Abs.W
open Go Go.Abs
set_option maxRecDepth 8000
attribute [local irreducible] callN runC evalOp
theorem turned_no (n : Nat) (σ : St) : callN T (n + 1) 15 [.agg noR] σ = some (.agg [.int .i64 1, .bool false, .str [], .str [], .str [], .str [], .str [], .str [], .int .i64 0, .bool false, .int .i64 0, .str [], .str [], .str [], .sl [] none, .sl [] none, .sl [] none], σ) := by
 refine call_of (m := m15) rfl rfl (by decide) (k_start ?_)
 unfold m15
 refine kq <| rn 2 ?_
 refine kD (k_skip_seq (kq (kq ?_)))
 refine rn 2 ?_
 refine kD (k_skip_seq (kZ (kq ?_)))
 refine rn 2 ?_
 refine kD (k_skip_seq (kcf (kq ?_)))
 refine rn 2 ?_
 refine kD (k_skip_seq (kct ?_))
 refine rn 2 ?_
 refine kD (kY (k_skip_seq (kq ?_)))
 refine rn 2 ?_
 refine kD (k_skip_seq (k_ret ?_))
 exact ⟨.inr rfl, kr, kr⟩
theorem turned_yes (n : Nat) (σ : St) (r1 r2 r3 r4 r5 r6 : List UInt8) (i1 i2 : Int) (bb : Bool) (r7 r8 r9 : List UInt8) (it nm so : List (List D)) : callN T (n + 1) 15 [.agg (yesR 1 r1 r2 r3 r4 r5 r6 i1 i2 bb r7 r8 r9 it nm so)] σ = some (.agg (yesR 2 r1 r2 r3 r4 r5 r6 i1 i2 bb r7 r8 r9 it nm so), σ) := by
 refine call_of (m := m15) rfl rfl (by decide) (k_start ?_)
 unfold m15
 refine kq <| rn 2 ?_
 refine kD (k_skip_seq (kq (kq ?_)))
 refine rn 2 ?_
 refine kD (k_skip_seq (kZ (kq ?_)))
 refine rn 2 ?_
 refine kD (k_skip_seq (kct ?_))
 refine rn 2 ?_
 refine kD (kY (k_skip_seq (kq ?_)))
 refine rn 2 ?_
 refine kD (k_skip_seq (k_ret ?_))
 exact ⟨.inr rfl, kr, kr⟩
theorem equiv_no (n : Nat) (s1 s2 : List (List D)) (p q : List Pol) (b : Int) (o1 o2 : Option Nat)
  (cc : callN T (n + 2) 16 [.sl [[.sl (ePs p) none], [.sl (ePs q) none]] none] [] = some (.sl (ePs (p ++ q)) none, []))
  (ca : ∀ σ : St, σ = [.cells [.sl (ePs p) none], .cells [.sl (ePs q) none]] → callN T (n + 2) 17 [.agg [.sl s1 none, .sl s2 none, .sl (ePs (p ++ q)) none, .func 11 [.ptr 0 0, .ptr 1 0], .int .i64 b]] σ = some (.agg noR, σ)) :
  ∃ σ', callN T (n + 3) 7 [.agg [.sl s1 none, .sl s2 none], .sl (ePs p) o1, .sl (ePs q) o2, .int .i64 b] [] = some (.agg [.int .i64 1, .bool false, .str [], .str [], .str [], .str [], .str [], .str [], .int .i64 0, .bool false, .int .i64 0, .str [], .str [], .str [], .sl [] none, .sl [] none, .sl [] none], σ') := by
 have ct := turned_no (n + 1) []
 have ca := ca _ rfl
 refine call_ofE (m := m7) rfl rfl (by decide) (k_start ?_)
 unfold m7
 refine kq <| rn 4 ?_
 refine kD (k_skip_seq (kq ?_))
 refine rgf (.func 11 [.ptr 0 0, .ptr 1 0]) ([Obj.cells [.sl (ePs p) none], Obj.cells [.sl (ePs q) none]]) <| rn 1 ?_
 refine kD (k_skip_seq (kq ?_))
 refine k_alt2 kr ?_
 refine runs_loadL kr <| rn 4 <| runs_callT kr <| rca ([.sl [[.sl (ePs p) none], [.sl (ePs q) none]] none]) kr kr kr kr (cc) kr <| rn 3 <| runs_callT kr <| rcs ([D.agg [D.sl s1 none, D.sl s2 none, D.sl (ePs (p ++ q)) none, D.func 11 [D.ptr 0 0, D.ptr 1 0], D.int IntKind.i64 b]]) kr kr kr kr (ca) <| runs_callT kr <| rca ([.agg [.int .i64 2, .bool false, .str [], .str [], .str [], .str [], .str [], .str [], .int .i64 0, .bool false, .int .i64 0, .str [], .str [], .str [], .sl [] none, .sl [] none, .sl [] none]]) kr kr kr kr (ct) kr <| rgf .junk ([Obj.cells [.sl (ePs p) none], Obj.cells [.sl (ePs q) none]]) ?_
 refine kD (k_skip_seq (k_ret ?_))
 exact ⟨.inr rfl, kr, [.cells [.sl (ePs p) none], .cells [.sl (ePs q) none]], kr⟩
theorem equiv_yes (n : Nat) (s1 s2 : List (List D)) (p q : List Pol) (b : Int) (o1 o2 : Option Nat) (r1 r2 r3 r4 r5 r6 : List UInt8) (i1 i2 : Int) (bb : Bool) (r7 r8 r9 : List UInt8) (it nm so : List (List D))
  (cc : callN T (n + 2) 16 [.sl [[.sl (ePs p) none], [.sl (ePs q) none]] none] [] = some (.sl (ePs (p ++ q)) none, []))
  (ca : ∀ σ : St, σ = [.cells [.sl (ePs p) none], .cells [.sl (ePs q) none]] → callN T (n + 2) 17 [.agg [.sl s1 none, .sl s2 none, .sl (ePs (p ++ q)) none, .func 11 [.ptr 0 0, .ptr 1 0], .int .i64 b]] σ = some (.agg (yesR 1 r1 r2 r3 r4 r5 r6 i1 i2 bb r7 r8 r9 it nm so), σ)) :
  ∃ σ', callN T (n + 3) 7 [.agg [.sl s1 none, .sl s2 none], .sl (ePs p) o1, .sl (ePs q) o2, .int .i64 b] [] = some (.agg (yesR 2 r1 r2 r3 r4 r5 r6 i1 i2 bb r7 r8 r9 it nm so), σ') := by
 have ct := turned_yes (n + 1) [] r1 r2 r3 r4 r5 r6 i1 i2 bb r7 r8 r9 it nm so
 have ca := ca _ rfl
 refine call_ofE (m := m7) rfl rfl (by decide) (k_start ?_)
 unfold m7
 refine kq <| rn 4 ?_
 refine kD (k_skip_seq (kq ?_))
 refine rgf (.func 11 [.ptr 0 0, .ptr 1 0]) ([Obj.cells [.sl (ePs p) none], Obj.cells [.sl (ePs q) none]]) <| rn 1 ?_
 refine kD (k_skip_seq (kq ?_))
 refine k_alt2 kr ?_
 refine runs_loadL kr <| rn 4 <| runs_callT kr <| rca ([.sl [[.sl (ePs p) none], [.sl (ePs q) none]] none]) kr kr kr kr (cc) kr <| rn 3 <| runs_callT kr <| rcs ([D.agg [D.sl s1 none, D.sl s2 none, D.sl (ePs (p ++ q)) none, D.func 11 [D.ptr 0 0, D.ptr 1 0], D.int IntKind.i64 b]]) kr kr kr kr (ca) <| runs_callT kr <| rca ([.agg [.int .i64 1, .bool true, .str r1, .str r2, .str r3, .str r4, .str r5, .str r6, .int .i64 i1, .bool bb, .int .i64 i2, .str r7, .str r8, .str r9, .sl it none, .sl nm none, .sl so none]]) kr kr kr kr (ct) kr <| rgf .junk ([Obj.cells [.sl (ePs p) none], Obj.cells [.sl (ePs q) none]]) ?_
 refine kD (k_skip_seq (k_ret ?_))
 exact ⟨.inr rfl, kr, [.cells [.sl (ePs p) none], .cells [.sl (ePs q) none]], kr⟩
theorem confl_ok (n : Nat) (s1 s2 : List (List D)) (p : List Pol) (b : Int) (o1 : Option Nat) (k : Int) (sh : Bool) (r1 r2 r3 r4 r5 r6 : List UInt8) (i1 i2 : Int) (bb : Bool) (r7 r8 r9 : List UInt8) (it nm so : List (List D))
  (ca : ∀ σ : St, σ = [.cells [.sl (ePs p) none]] → callN T (n + 2) 17 [.agg [.sl s1 none, .sl s2 none, .sl (ePs p) none, .func 18 [.ptr 0 0], .int .i64 b]] σ = some (.agg [.int .i64 k, .bool sh, .str r1, .str r2, .str r3, .str r4, .str r5, .str r6, .int .i64 i1, .bool bb, .int .i64 i2, .str r7, .str r8, .str r9, .sl it none, .sl nm none, .sl so none], σ)) :
  ∃ σ', callN T (n + 3) 8 [.agg [.sl s1 none, .sl s2 none], .sl (ePs p) o1, .int .i64 b] [] = some (.agg [.int .i64 k, .bool sh, .str r1, .str r2, .str r3, .str r4, .str r5, .str r6, .int .i64 i1, .bool bb, .int .i64 i2, .str r7, .str r8, .str r9, .sl it none, .sl nm none, .sl so none], σ') := by
 have ca := ca _ rfl
 refine call_ofE (m := m8) rfl rfl (by decide) (k_start ?_)
 unfold m8
 refine kq <| rn 3 ?_
 refine kD (k_skip_seq (kq ?_))
 refine rgf (.func 18 [.ptr 0 0]) ([Obj.cells [.sl (ePs p) none]]) <| rn 1 ?_
 refine kD (k_skip_seq (kq ?_))
 refine rn 5 <| rcs ([.agg [.sl s1 none, .sl s2 none, .sl (ePs p) none, .func 18 [.ptr 0 0], .int .i64 b]]) kr kr kr kr (ca) <| rgf .junk ([Obj.cells [.sl (ePs p) none]]) ?_
 refine kD (k_skip_seq (k_ret ?_))
 exact ⟨.inr rfl, kr, [.cells [.sl (ePs p) none]], kr⟩
end Go.Abs.W

namespace Go.Abs.W
open Go Go.Abs
set_option maxRecDepth 8000
attribute [local irreducible] callN runC evalOp
theorem k_nat {cal : Cal} {fuel : Nat} {N : Fr → List Obj → Option (AE × Fr × List Obj)} {fr fr' : Fr} {σ σ' : St} {R : AE → Fr → St → Prop} (h : N fr σ = some (.normal, fr', σ')) (hk : Runs (runC cal fuel .skip fr' σ') R) : Runs (runC cal fuel (.nat N) fr σ) R := by
 obtain ⟨ae, f, s, h1, h2⟩ := hk
 unfold runC at h1
 cases h1
 exact ⟨.normal, fr', σ', by unfold runC; exact h, h2⟩
theorem ng_ok {e B : Nat} {n : Int} {fr : Fr} {σ : St} (hv : fr.val (.tmp 3) = .int .i64 n) (hs : fr.slots.length = 36) (h0 : 0 ≤ n) (h1 : n ≤ (B : Int)) : NG e B fr σ = some (.normal, ((fr.put (some 23) (.int .i64 n)).put (some 24) (.sl [] none)).put (some 6) (.sl [] (some e)), σ) := by
 unfold NG
 rw [hv]
 simp only []
 rw [if_pos ⟨hs, h0, h1⟩]
def szs (p q : List Pol) : Nat → Int
 | 0 => 0
 | 1 => (0 : Int) + ((ePs p).length : Int)
 | _ => ((0 : Int) + ((ePs p).length : Int)) + ((ePs q).length : Int)
def jns (p q : List Pol) : Nat → List (List D)
 | 0 => []
 | 1 => ePs p
 | _ => ePs p ++ ePs q
abbrev two (p q : List Pol) : D := .sl [[.sl (ePs p) none], [.sl (ePs q) none]] none
def f16a (p q : List Pol) (i : Nat) : Fr := Fr.mk ([two p q, .junk, .sl [] (some 65), .int .i64 (szs p q i), .junk, .junk, .junk, .junk, .junk, two p q, .int .i64 2, .int .i64 i] ++ List.replicate 24 .junk) (List.replicate 36 none) []
def f16b (p q : List Pol) (i : Nat) : Fr := Fr.mk ([.junk, .junk, .sl [] (some 65), .junk, .junk, .junk, .sl (jns p q i) (some 65)] ++ List.replicate 18 .junk ++ [two p q, .int .i64 2, .int .i64 i] ++ List.replicate 8 .junk) (List.replicate 36 none) []
theorem concat_ok (n : Nat) (p q : List Pol) (hp : p.length + q.length ≤ 60) (hn : 4 < n) :
  callN T (n + 1) 16 [.sl [[.sl (ePs p) none], [.sl (ePs q) none]] none] [] = some (.sl (ePs (p ++ q)) none, []) := by
 have hpl : (ePs p).length = p.length := by simp [ePs]
 have hql : (ePs q).length = q.length := by simp [ePs]
 refine call_of (m := m16n) rfl rfl (by decide) (k_start ?_)
 unfold m16n m16
 simp only [putAt]
 have hall : ∀ l : List Pol, ((ePs l).all fun y => y.length == 21) = true := fun l => by simp [ePs, List.all_map]
 have ha := hall p
 have hb := hall q
 have happ : ePs p ++ ePs q = ePs (p ++ q) := by simp [ePs]
 have b0 : szs p q 0 = 0 := rfl
 have b1 : szs p q 1 = 0 + ((ePs p).length : Int) := rfl
 have b2 : szs p q 2 = 0 + ((ePs p).length : Int) + ((ePs q).length : Int) := rfl
 refine kq <| rn 1 ?_
 refine kD (k_skip_seq (kq ?_))
 refine rn 1 ?_
 refine kD (k_skip_seq (kq (kq ?_)))
 refine rn 3 ?_
 refine kD (k_skip_seq (kZ ?_))
 refine k_loop (fun i : Nat => f16a p q i) (fun _ => []) (fun i => i ≤ 2) (fun i => 2 - i) 0 kr rfl (by simp) (by intro s hs; omega) ?_
 intro i hi
 obtain rfl | rfl | rfl : i = 0 ∨ i = 1 ∨ i = 2 := by omega
 ·refine kq <| rn 1 ?_
  refine kD (k_skip_seq (kq (kct (k_skip_seq (kq (kZ (kq ?_)))))))
  refine rn 3 ?_
  refine kD (k_skip_seq (kq ?_))
  refine rve (.int .i64 (szs p q 0)) (.int IntKind.i64 (0 : Int)) (congrArg (D.int IntKind.i64) (show szs p q (0 : Nat) = 0 from b0)) <| rn 2 <| rvw ((0 : Int) + (↑(List.length (ePs p)) : Int)) wE <| rn 1 ?_
  refine kD (k_skip_seq (kq ?_))
  refine rn 2 ?_
  refine kD (k_skip_seq (kcf (kY (k_skip_seq ?_))))
  refine rn 2 <| kD <| kR ?_
  exact ⟨1, om, om, kr, rfl⟩
 ·refine kq <| rn 1 ?_
  refine kD (k_skip_seq (kq (kct (k_skip_seq (kq (kZ (kq ?_)))))))
  refine rn 3 ?_
  refine kD (k_skip_seq (kq ?_))
  refine rn 3 <| rvw (szs p q (1 : Nat) + (↑(List.length (ePs q)) : Int)) wE <| rn 1 ?_
  refine kD (k_skip_seq (kq ?_))
  refine rn 2 ?_
  refine kD (k_skip_seq (kcf (kY (k_skip_seq ?_))))
  refine rn 2 <| kD <| kR ?_
  exact ⟨2, om, om, kr, rfl⟩
 ·refine kq <| rn 1 ?_
  refine kD (k_skip_seq (kq (kcf (k_exit_seq (k_exit_back (k_exit_hit rfl (k_skip_seq (kq ?_))))))))
  refine k_nat (ng_ok (n := szs p q 2) kr kr om om) (k_skip_seq ?_)
  refine kq <| kq <| rn 3 ?_
  refine kD (k_skip_seq (kZ ?_))
  refine k_loop (fun i : Nat => f16b p q i) (fun _ => []) (fun i => i ≤ 2) (fun i => 2 - i) 0 kr rfl (by simp) (by intro s hs; omega) ?_
  intro i hi
  obtain rfl | rfl | rfl : i = 0 ∨ i = 1 ∨ i = 2 := by omega
  ·refine kq <| rn 1 ?_
   refine kD (k_skip_seq (kq (kct (k_skip_seq (kq (kZ (kq ?_)))))))
   refine rn 3 <| kD <| k_skip_seq <| runs_steal (.sl [] (some 65)) kr kr <| rn 1 <| runs_append ([]) (ePs p) (ePs p) kr kr kr asm (by simp [ints, eInt, rows, eInts, bools, eBool, trips, eTrip, i8s, u16s, u8s, acts, room]; omega) (List.nil_append _) <| runs_assign (.sl (ePs p) (some 65)) kr kr ?_
   refine kD (kY (k_skip_seq ?_))
   refine rn 2 <| kD <| kR ?_
   exact ⟨1, om, om, kr, rfl⟩
  ·have e2 : (jns p q 1).length = p.length := hpl
   refine kq <| rn 1 ?_
   refine kD (k_skip_seq (kq (kct (k_skip_seq (kq (kZ (kq ?_)))))))
   refine rn 3 <| kD <| k_skip_seq <| runs_steal (.sl (jns p q 1) (some 65)) kr kr <| rn 1 <| runs_append (jns p q 1) (ePs q) (jns p q (1 : Nat) ++ ePs q) kr kr kr asm (by simp [ints, eInt, rows, eInts, bools, eBool, trips, eTrip, i8s, u16s, u8s, acts, room]; omega) rfl <| runs_assign (D.sl (jns p q (1 : Nat) ++ ePs q) (some 65)) kr kr ?_
   refine kD (kY (k_skip_seq ?_))
   refine rn 2 <| kD <| kR ?_
   exact ⟨2, om, om, kr, rfl⟩
  ·have e3 : jns p q 2 = ePs (p ++ q) := happ
   refine kq <| rn 1 ?_
   refine kD (k_skip_seq (kq (kcf (k_exit_seq (k_exit_back (k_exit_hit rfl (k_skip_seq (kq ?_))))))))
   refine rn 2 ?_
   refine kD (k_skip_seq (k_ret ?_))
   refine ⟨.inr rfl, kr, ?_⟩
   rw [← happ]
   kernel_rfl
end Go.Abs.W

namespace Go.Abs.W
open Go Go.Abs
set_option maxRecDepth 8000
attribute [local irreducible] callN runC evalOp
def f20 (f : Fm) (n i : Int) : Fr := Fr.mk ([.junk, .junk, .int .i64 0, .int .i64 n, .junk, .junk, .junk, .junk, .junk, .junk, .junk, .junk, .junk, .sl (eFs f.kids) none, .int .i64 f.kids.length, .int .i64 i] ++ List.replicate 9 .junk) (List.replicate 25 none) []
theorem atoms_ok : ∀ (d : Nat) (f : Fm) (N : Nat) (σ : St), fits d f → d + 70 ≤ N → callN T N 51 [.agg (eF f)] σ = some (.int .i64 (atomsR d f), σ) := by
 intro d
 induction d with
 | zero => intro f N σ h; exact h.elim
 | succ d ih =>
  intro f N σ hfit hN
  obtain ⟨n, rfl⟩ : ∃ n, N = n + 1 := ⟨N - 1, om⟩
  obtain ⟨h12, hkids⟩ := hfit
  refine call_of (m := m51) rfl rfl (by decide) (k_start ?_)
  unfold m51
  by_cases c3 : f.op = 3
  ·have ha0 : atom0 f = if 0 > f.n then 0 else f.n := if_pos c3
   refine kq <| rn 2 ?_
   refine kD (k_skip_seq (kq ?_))
   refine rn 1 ?_
   refine kD (k_skip_seq (kq (kq ?_)))
   refine rn 1 <| rve (.int .i64 f.op) (.int IntKind.i64 (3 : Int)) (congrArg (D.int IntKind.i64) (show Fm.op f = 3 from c3)) <| rn 1 ?_
   refine kD (k_skip_seq (kct ?_))
   refine rn 4 ?_
   refine kD (k_skip_seq (kq (kq ?_)))
   refine rn 2 <| rve (.int .i64 (↑(List.length (eFs f.kids)) : Int)) (.int IntKind.i64 ((↑(List.length f.kids) : Int))) (by simp only [eFs_length]) <| rn 1 ?_
   refine kD (k_skip_seq (kZ ?_))
   refine k_loop (fun i : Nat => f20 f ((f.kids.take i).foldl (fun n k => if atomsR d k > n then atomsR d k else n) (atom0 f)) i) (fun _ => σ) (fun i => i ≤ f.kids.length) (fun i => f.kids.length - i) 0 (by rw [List.take_zero, List.foldl_nil, ha0]; kernel_rfl) rfl (by simp) (by intro s hs; omega) ?_
   intro i hi
   have hft := fun h => foldl_take (g := fun (n : Int) k => if atomsR d k > n then atomsR d k else n) (b := atom0 f) (c := f.kids) (i := i) h
   by_cases hlt : i < f.kids.length
   ·have hg := kid_at hlt
    have hcall := ih f.kids[i] n [] (hkids _ (List.getElem_mem hlt)) om
    generalize (f.kids.take i).foldl (fun n k => if atomsR d k > n then atomsR d k else n) (atom0 f) = m at *
    refine kq <| rn 1 ?_
    refine kD (k_skip_seq (kq ?_))
    refine rkn 16 (decide ((↑i : Int) < (↑(List.length f.kids) : Int))) true (decide_eq_true om) ?_
    refine kct (k_skip_seq (kq (kZ (kq ?_))))
    refine runs_indexL (eFs f.kids) (o := none) (kd := IntKind.i64) (i) _ kr kr kr asm kr <| rn 3 <| kD <| k_skip_seq <| rn 2 <| rca ([.agg [.int .i64 (Fm.op f.kids[i]), .int .i64 (Fm.n f.kids[i]), .sl (eFs (Fm.kids f.kids[i])) none]]) kr kr kr kr (hcall) kr <| rn 2 ?_
    refine kD (kY (k_skip_seq ?_))
    refine rvW ((↑i : Int) + 1) ((i + 1 : Nat) : Int) wE <| rn 1 <| kD <| kR ?_
    exact ⟨i + 1, hlt, om, by rw [hft hlt]; kernel_rfl, rfl⟩
   ·have hw : atomsR (d + 1) f = (f.kids.take i).foldl (fun n k => if atomsR d k > n then atomsR d k else n) (atom0 f) := by
     rw [List.take_of_length_le om]
     rfl
    rw [hw]
    generalize (f.kids.take i).foldl (fun n k => if atomsR d k > n then atomsR d k else n) (atom0 f) = m at *
    refine kq <| rn 1 ?_
    refine kD (k_skip_seq (kq ?_))
    refine rkn 16 (decide ((↑i : Int) < (↑(List.length f.kids) : Int))) false (decide_eq_false om) ?_
    refine kcf (k_exit_seq (k_exit_back (k_exit_hit rfl (k_skip_seq (kq ?_)))))
    refine rn 2 ?_
    refine kD (k_skip_seq (k_ret ?_))
    exact ⟨.inr rfl, kr, kr⟩
  ·have ha0 : atom0 f = 0 := if_neg c3
   refine kq <| rn 2 ?_
   refine kD (k_skip_seq (kq ?_))
   refine rn 1 ?_
   refine kD (k_skip_seq (kq (kq ?_)))
   refine rn 3 <| kD <| k_skip_seq <| rkn 8 (Fm.op f == 3) false (decide_eq_false asm) ?_
   refine kcf (k_skip_seq (kq (kq ?_)))
   refine rn 2 <| rve (.int .i64 (↑(List.length (eFs f.kids)) : Int)) (.int IntKind.i64 ((↑(List.length f.kids) : Int))) (by simp only [eFs_length]) <| rn 1 ?_
   refine kD (k_skip_seq (kZ ?_))
   refine k_loop (fun i : Nat => f20 f ((f.kids.take i).foldl (fun n k => if atomsR d k > n then atomsR d k else n) (atom0 f)) i) (fun _ => σ) (fun i => i ≤ f.kids.length) (fun i => f.kids.length - i) 0 (by rw [List.take_zero, List.foldl_nil, ha0]; kernel_rfl) rfl (by simp) (by intro s hs; omega) ?_
   intro i hi
   have hft := fun h => foldl_take (g := fun (n : Int) k => if atomsR d k > n then atomsR d k else n) (b := atom0 f) (c := f.kids) (i := i) h
   by_cases hlt : i < f.kids.length
   ·have hg := kid_at hlt
    have hcall := ih f.kids[i] n [] (hkids _ (List.getElem_mem hlt)) om
    generalize (f.kids.take i).foldl (fun n k => if atomsR d k > n then atomsR d k else n) (atom0 f) = m at *
    refine kq <| rn 1 ?_
    refine kD (k_skip_seq (kq ?_))
    refine rkn 16 (decide ((↑i : Int) < (↑(List.length f.kids) : Int))) true (decide_eq_true om) ?_
    refine kct (k_skip_seq (kq (kZ (kq ?_))))
    refine runs_indexL (eFs f.kids) (o := none) (kd := IntKind.i64) (i) _ kr kr kr asm kr <| rn 3 <| kD <| k_skip_seq <| rn 2 <| rca ([.agg [.int .i64 (Fm.op f.kids[i]), .int .i64 (Fm.n f.kids[i]), .sl (eFs (Fm.kids f.kids[i])) none]]) kr kr kr kr (hcall) kr <| rn 2 ?_
    refine kD (kY (k_skip_seq ?_))
    refine rvW ((↑i : Int) + 1) ((i + 1 : Nat) : Int) wE <| rn 1 <| kD <| kR ?_
    exact ⟨i + 1, hlt, om, by rw [hft hlt]; kernel_rfl, rfl⟩
   ·have hw : atomsR (d + 1) f = (f.kids.take i).foldl (fun n k => if atomsR d k > n then atomsR d k else n) (atom0 f) := by
     rw [List.take_of_length_le om]
     rfl
    rw [hw]
    generalize (f.kids.take i).foldl (fun n k => if atomsR d k > n then atomsR d k else n) (atom0 f) = m at *
    refine kq <| rn 1 ?_
    refine kD (k_skip_seq (kq ?_))
    refine rkn 16 (decide ((↑i : Int) < (↑(List.length f.kids) : Int))) false (decide_eq_false om) ?_
    refine kcf (k_exit_seq (k_exit_back (k_exit_hit rfl (k_skip_seq (kq ?_)))))
    refine rn 2 ?_
    refine kD (k_skip_seq (k_ret ?_))
    exact ⟨.inr rfl, kr, kr⟩
theorem neg_ok (n : Nat) (k : Fm) (σ : St) (hk : k.op = 4 → ∃ x, k.kids = [x]) : callN T (n + 1) 83 [.agg (eF k)] σ = some (.agg (eF (negR k)), σ) := by
 unfold negR
 by_cases c1 : k.op = 1
 ·rw [if_pos c1, eF_leaf]
  refine call_of (m := m83) rfl rfl (by decide) (k_start ?_)
  unfold m83
  refine kq <| rn 2 ?_
  refine kD (k_skip_seq (kq (kq ?_)))
  refine rn 1 <| rve (.int .i64 k.op) (.int IntKind.i64 (1 : Int)) (congrArg (D.int IntKind.i64) (show Fm.op k = 1 from c1)) ?_
  refine kD (k_skip_seq (kZ (kq ?_)))
  refine rn 2 ?_
  refine kD (k_skip_seq (kct (kq ?_)))
  refine rn 2 ?_
  refine kD (k_skip_seq (k_ret ?_))
  refine ⟨.inr rfl, kr, ?_⟩
  show _ = _
  kernel_rfl
 by_cases c2 : k.op = 2
 ·rw [if_neg c1, if_pos c2, eF_leaf]
  refine call_of (m := m83) rfl rfl (by decide) (k_start ?_)
  unfold m83
  refine kq <| rn 2 ?_
  refine kD (k_skip_seq (kq (kq ?_)))
  refine rn 1 <| rve (.int .i64 k.op) (.int IntKind.i64 (2 : Int)) (congrArg (D.int IntKind.i64) (show Fm.op k = 2 from c2)) ?_
  refine kD (k_skip_seq (kZ (kq ?_)))
  refine rn 2 ?_
  refine kD (k_skip_seq (kcf (kq ?_)))
  refine rn 2 ?_
  refine kD (k_skip_seq (kct (kq ?_)))
  refine rn 2 ?_
  refine kD (k_skip_seq (k_ret ?_))
  refine ⟨.inr rfl, kr, ?_⟩
  show _ = _
  kernel_rfl
 by_cases c4 : k.op = 4
 ·obtain ⟨x, hx⟩ := hk c4
  have hg := kid0_get hx
  rw [if_neg c1, if_neg c2, if_pos c4, hx]
  refine call_of (m := m83) rfl rfl (by decide) (k_start ?_)
  unfold m83
  refine kq <| rn 2 ?_
  refine kD (k_skip_seq (kq (kq ?_)))
  refine rn 1 <| rve (.int .i64 k.op) (.int IntKind.i64 (4 : Int)) (congrArg (D.int IntKind.i64) (show Fm.op k = 4 from c4)) ?_
  refine kD (k_skip_seq (kZ (kq ?_)))
  refine rn 2 ?_
  refine kD (k_skip_seq (kcf (kq ?_)))
  refine rn 2 ?_
  refine kD (k_skip_seq (kcf (kq ?_)))
  refine rn 2 ?_
  refine kD (k_skip_seq (kct (kq ?_)))
  refine rn 2 <| runs_indexL (eFs k.kids) (o := none) (kd := IntKind.i64) 0 _ kr kr kr asm kr <| rn 2 ?_
  refine kD (k_skip_seq (k_ret ?_))
  refine ⟨.inr rfl, kr, ?_⟩
  show _ = _
  kernel_rfl
 ·rw [if_neg c1, if_neg c2, if_neg c4, eF_one]
  refine call_of (m := m83) rfl rfl (by decide) (k_start ?_)
  unfold m83
  refine kq <| rn 2 ?_
  refine kD (k_skip_seq (kq (kq ?_)))
  refine rn 2 ?_
  refine kD (k_skip_seq (kZ (kq ?_)))
  refine rn 2 <| kD <| k_skip_seq <| rkn 5 (Fm.op k == 1) false (decide_eq_false asm) <| kcf <| kq <| rn 2 <| kD <| k_skip_seq <| rkn 8 (Fm.op k == 2) false (decide_eq_false asm) <| kcf <| kq <| rn 2 <| kD <| k_skip_seq <| rkn 11 (Fm.op k == 4) false (decide_eq_false asm) ?_
  refine kcf (kY (k_skip_seq (kq ?_)))
  refine rn 4 ?_
  refine kD (k_skip_seq (k_ret ?_))
  refine ⟨.inr rfl, kr, ?_⟩
  show _ = _
  kernel_rfl
def fA43 (f : Fm) (all one i : Int) (out : List (List D)) : Fr := Fr.mk ([.junk, .int .i64 all, .int .i64 one, .junk, .junk, .junk, .lptr 6 0, .lptr 7 0, .junk, .junk, .junk, .junk, .junk, .junk, .sl (eFs f.kids) none, .int .i64 f.kids.length, .int .i64 i] ++ List.replicate 36 .junk)
 (((List.replicate 53 none).set 6 (some [.int .i64 0, .int .i64 0, .sl [] (some 69)])).set 7 (some [.int .i64 f.op, .int .i64 0, .sl out (some 69)])) []
theorem row_ok (n : Nat) (f : Fm) (S : Fm → Fm) (all one : Int) (σ : St) (hao : all ≠ one) (h12 : f.kids.length ≤ 60) (hn : 60 < n) (hS : ∀ k ∈ f.kids, callN T n 52 [.agg (eF k)] [] = some (.agg (eF (S k)), [])) :
  callN T (n + 1) 84 [.agg (eF f), .int .i64 all, .int .i64 one] σ = some (.agg (eF (rowEnd f.op all one (rowL S all one f.kids []))), σ) := by
 refine call_of (m := m84) rfl rfl (by decide) (k_start ?_)
 unfold m84
 refine kq <| rn 2 ?_
 refine kD (k_skip_seq (kq ?_))
 refine rn 5 ?_
 refine kD (k_skip_seq (kq (kq ?_)))
 refine rn 2 <| rve (.int .i64 (↑(List.length (eFs f.kids)) : Int)) (.int IntKind.i64 ((↑(List.length f.kids) : Int))) (by simp only [eFs_length]) <| rn 1 ?_
 refine kD (k_skip_seq (kZ ?_))
 refine k_loop (S := Nat × List Fm) (fun s => fA43 f all one s.1 (eFs s.2)) (fun _ => σ) (fun s => s.1 ≤ f.kids.length ∧ s.2.length ≤ s.1 ∧ rowL S all one (f.kids.drop s.1) s.2 = rowL S all one f.kids []) (fun s => f.kids.length - s.1) (0, []) kr rfl ⟨by simp, by simp, rfl⟩ (by intro s hs; omega) ?_
 rintro ⟨i, out⟩ ⟨hi, hlen, hrow⟩
 simp only [] at hi hlen hrow
 by_cases hlt : i < f.kids.length
 ·rw [drop_at hlt] at hrow
  simp only [rowL] at hrow
  have hg := kid_at hlt
  have hcall := hS f.kids[i] (List.getElem_mem hlt)
  by_cases c1 : (S f.kids[i]).op = one
  ·rw [if_pos c1] at hrow
   rw [← hrow]
   show Runs _ _
   rw [show rowEnd f.op all one none = .mk one 0 [] from rfl, eF_leaf]
   refine kq <| rn 1 ?_
   refine kD (k_skip_seq (kq ?_))
   refine rkn 17 (decide ((↑i : Int) < (↑(List.length f.kids) : Int))) true (decide_eq_true om) ?_
   refine kct (k_skip_seq (kq (kZ (kq ?_))))
   refine runs_indexL (eFs f.kids) (o := none) (kd := IntKind.i64) (i) _ kr kr kr asm kr <| rn 3 ?_
   refine kD (k_skip_seq (kq ?_))
   refine rn 1 <| rca ([.agg [.int .i64 (Fm.op f.kids[i]), .int .i64 (Fm.n f.kids[i]), .sl (eFs (Fm.kids f.kids[i])) none]]) kr kr kr kr (hcall) kr <| rn 1 ?_
   refine kD (k_skip_seq (kq ?_))
   refine rn 2 ?_
   refine kD (k_skip_seq (kZ (kq ?_)))
   refine rn 3 <| kD <| k_skip_seq <| rkn 30 (Fm.op (S f.kids[i]) == one) true (decide_eq_true asm) <| kct <| kq <| rn 3 ?_
   refine kD (k_skip_seq (k_ret ?_))
   refine ⟨.inr rfl, kr, ?_⟩
   show _ = _
   kernel_rfl
  ·rw [if_neg c1] at hrow
   by_cases c2 : (S f.kids[i]).op = all
   ·rw [if_pos c2] at hrow
    refine kq <| rn 1 ?_
    refine kD (k_skip_seq (kq ?_))
    refine rkn 17 (decide ((↑i : Int) < (↑(List.length f.kids) : Int))) true (decide_eq_true om) ?_
    refine kct (k_skip_seq (kq (kZ (kq ?_))))
    refine runs_indexL (eFs f.kids) (o := none) (kd := IntKind.i64) (i) _ kr kr kr asm kr <| rn 3 ?_
    refine kD (k_skip_seq (kq ?_))
    refine rn 1 <| rca ([.agg [.int .i64 (Fm.op f.kids[i]), .int .i64 (Fm.n f.kids[i]), .sl (eFs (Fm.kids f.kids[i])) none]]) kr kr kr kr (hcall) kr <| rn 1 ?_
    refine kD (k_skip_seq (kq ?_))
    refine rn 2 ?_
    refine kD (k_skip_seq (kZ (kq ?_)))
    refine rn 3 <| kD <| k_skip_seq <| rkn 30 (Fm.op (S f.kids[i]) == one) false (decide_eq_false asm) <| kcf <| kq <| rn 3 <| kD <| k_skip_seq <| rkn 35 (Fm.op (S f.kids[i]) == all) true (decide_eq_true asm) ?_
    refine kct (kY (kY (k_skip_seq ?_)))
    refine rvW ((↑i : Int) + 1) ((i + 1 : Nat) : Int) wE <| rn 1 <| kD <| kR ?_
    exact ⟨(i + 1, out), ⟨hlt, by simp only []; omega, hrow⟩, by simp only []; omega, kr, rfl⟩
   ·rw [if_neg c2] at hrow
    have hsn := eFs_snoc out (S f.kids[i])
    refine kq <| rn 1 ?_
    refine kD (k_skip_seq (kq ?_))
    refine rkn 17 (decide ((↑i : Int) < (↑(List.length f.kids) : Int))) true (decide_eq_true om) ?_
    refine kct (k_skip_seq (kq (kZ (kq ?_))))
    refine runs_indexL (eFs f.kids) (o := none) (kd := IntKind.i64) (i) _ kr kr kr asm kr <| rn 3 ?_
    refine kD (k_skip_seq (kq ?_))
    refine rn 1 <| rca ([.agg [.int .i64 (Fm.op f.kids[i]), .int .i64 (Fm.n f.kids[i]), .sl (eFs (Fm.kids f.kids[i])) none]]) kr kr kr kr (hcall) kr <| rn 1 ?_
    refine kD (k_skip_seq (kq ?_))
    refine rn 2 ?_
    refine kD (k_skip_seq (kZ (kq ?_)))
    refine rn 3 <| kD <| k_skip_seq <| rkn 30 (Fm.op (S f.kids[i]) == one) false (decide_eq_false asm) <| kcf <| kq <| rn 3 <| kD <| k_skip_seq <| rkn 35 (Fm.op (S f.kids[i]) == all) false (decide_eq_false asm) <| kcf <| rn 1 <| rgf (.sl (eFs out) (some 69)) (σ) <| rn 2 <| runs_append (eFs out) ([[D.int IntKind.i64 (Fm.op (S f.kids[i])), D.int IntKind.i64 (Fm.n (S f.kids[i])), D.sl (eFs (Fm.kids (S f.kids[i]))) none]]) (eFs out ++ [[D.int IntKind.i64 (Fm.op (S f.kids[i])), D.int IntKind.i64 (Fm.n (S f.kids[i])), D.sl (eFs (Fm.kids (S f.kids[i]))) none]]) kr kr kr kr (by simp [eFs_length, ints, eInt, rows, eInts, bools, eBool, trips, eTrip, i8s, u16s, u8s, acts, room]; omega) rfl <| rn 1 <| rgf .junk (σ) ?_
    refine kD (kY (kY (k_skip_seq ?_)))
    refine rvW ((↑i : Int) + 1) ((i + 1 : Nat) : Int) wE <| rn 1 <| kD <| kR ?_
    exact ⟨(i + 1, out ++ [S f.kids[i]]), ⟨hlt, by simp; omega, hrow⟩, by simp only []; omega, by simp only []; rw [← hsn]; kernel_rfl, rfl⟩
 ·rw [List.drop_of_length_le om] at hrow
  simp only [rowL] at hrow
  rw [← hrow]
  match out, hlen with
  | [], _ =>
   rw [show rowEnd f.op all one (some []) = .mk all 0 [] from rfl, eF_leaf]
   refine kq <| rn 1 ?_
   refine kD (k_skip_seq (kq ?_))
   refine rkn 17 (decide ((↑i : Int) < (↑(List.length f.kids) : Int))) false (decide_eq_false om) ?_
   refine kcf (k_exit_seq (k_exit_back (k_exit_hit rfl (k_skip_seq (kq (kq ?_))))))
   refine rn 3 ?_
   refine kD (k_skip_seq (kZ (kq ?_)))
   refine rn 2 ?_
   refine kD (k_skip_seq (kct (kq ?_)))
   refine rn 2 <| rgf .junk (σ) ?_
   refine kD (k_skip_seq (k_ret ?_))
   refine ⟨.inr rfl, kr, ?_⟩
   show _ = _
   kernel_rfl
  | [x], _ =>
   rw [show rowEnd f.op all one (some [x]) = x from rfl]
   have hg : (eFs [x])[0]? = some (eF x) := eFs_get rfl
   have h1 : [x].length = 1 := rfl
   generalize [x] = out at *
   refine kq <| rn 1 ?_
   refine kD (k_skip_seq (kq ?_))
   refine rkn 17 (decide ((↑i : Int) < (↑(List.length f.kids) : Int))) false (decide_eq_false om) ?_
   refine kcf (k_exit_seq (k_exit_back (k_exit_hit rfl (k_skip_seq (kq (kq ?_))))))
   refine rn 2 <| rve (.int .i64 (↑(List.length (eFs out)) : Int)) (.int IntKind.i64 ((↑(List.length out) : Int))) (by simp only [eFs_length]) ?_
   refine kD (k_skip_seq (kZ (kq ?_)))
   refine rn 2 <| kD <| k_skip_seq <| rkn 42 ((↑(List.length out) : Int) == 0) false (decide_eq_false om) <| kcf <| kq <| rn 2 <| kD <| k_skip_seq <| rkn 46 ((↑(List.length out) : Int) == 1) true (decide_eq_true om) <| kct <| kq <| rn 2 <| runs_indexL (eFs out) (o := none) (kd := IntKind.i64) 0 _ kr kr kr asm kr <| rn 2 ?_
   refine kD (k_skip_seq (k_ret ?_))
   refine ⟨.inr rfl, kr, ?_⟩
   show _ = _
   kernel_rfl
  | x :: y :: l, hlen =>
   have h2 : (x :: y :: l).length ≥ 2 := by simp
   rw [show rowEnd f.op all one (some (x :: y :: l)) = .mk f.op 0 (x :: y :: l) from rfl]
   generalize x :: y :: l = out at *
   refine kq <| rn 1 ?_
   refine kD (k_skip_seq (kq ?_))
   refine rkn 17 (decide ((↑i : Int) < (↑(List.length f.kids) : Int))) false (decide_eq_false om) ?_
   refine kcf (k_exit_seq (k_exit_back (k_exit_hit rfl (k_skip_seq (kq (kq ?_))))))
   refine rn 2 <| rve (.int .i64 (↑(List.length (eFs out)) : Int)) (.int IntKind.i64 ((↑(List.length out) : Int))) (by simp only [eFs_length]) ?_
   refine kD (k_skip_seq (kZ (kq ?_)))
   refine rn 2 <| kD <| k_skip_seq <| rkn 42 ((↑(List.length out) : Int) == 0) false (decide_eq_false om) <| kcf <| kq <| rn 2 <| kD <| k_skip_seq <| rkn 46 ((↑(List.length out) : Int) == 1) false (decide_eq_false om) ?_
   refine kcf (kY (k_skip_seq (kq ?_)))
   refine rn 2 ?_
   refine kD (k_skip_seq (k_ret ?_))
   refine ⟨.inr rfl, kr, ?_⟩
   show _ = _
   kernel_rfl
theorem simple_ok : ∀ (d : Nat) (f : Fm) (N : Nat) (σ : St), fits d f → mayR d f = true → 2 * d + 70 ≤ N → callN T N 52 [.agg (eF f)] σ = some (.agg (eF (simpleR d f)), σ) := by
 intro d
 induction d with
 | zero => intro f N σ h; exact h.elim
 | succ d ih =>
  intro f N σ hfit hmay hN
  obtain ⟨n, rfl⟩ : ∃ n, N = n + 2 := ⟨N - 2, om⟩
  obtain ⟨h12, hkids⟩ := hfit
  have hm := mayR_parts hmay
  obtain ⟨g1, g2, g3, g4, g5⟩ := hm.1
  have hS : ∀ k ∈ f.kids, ∀ σ, callN T n 52 [.agg (eF k)] σ = some (.agg (eF (simpleR d k)), σ) := fun k hk σ => ih k n σ (hkids k hk) (hm.2 k hk) om
  simp only [simpleR]
  by_cases c4 : f.op = 4
  ·obtain ⟨k, hk⟩ := kid0_of (show f.kids.length = 1 by omega)
   have hkm : k ∈ f.kids := by rw [hk]; simp
   have hg := kid0_get hk
   have hcall := ih k (n + 1) [] (hkids k hkm) (hm.2 k hkm) om
   have hn := simple_nice d k (hkids k hkm) (hm.2 k hkm)
   have hneg := neg_ok n (simpleR d k) [] (fun h4 => by
    have := nice_3 hn om om
    cases d with
    | zero => exact this.elim
    | succ d =>
     rcases this with h | ⟨_, _, x, h3, _⟩ | h
     ·omega
     ·exact ⟨x, h3⟩
     ·omega)
   rw [if_pos c4, hk]
   show callN T (n + 2) 52 [.agg (eF f)] σ = some (.agg (eF (negR (simpleR d k))), σ)
   refine call_of (m := m52) rfl rfl (by decide) (k_start ?_)
   unfold m52
   have h1 : f.kids.length = 1 := by omega
   refine kq <| rn 2 ?_
   refine kD (k_skip_seq (kq (kq ?_)))
   refine rn 1 <| rve (.int .i64 f.op) (.int IntKind.i64 (4 : Int)) (congrArg (D.int IntKind.i64) (show Fm.op f = 4 from c4)) ?_
   refine kD (k_skip_seq (kZ (kq ?_)))
   refine rn 2 ?_
   refine kD (k_skip_seq (kct (kq ?_)))
   refine rn 2 <| rve (.int .i64 (↑(List.length (eFs f.kids)) : Int)) (.int IntKind.i64 ((↑(List.length f.kids) : Int))) (by simp only [eFs_length]) <| rn 1 <| kD <| k_skip_seq <| rkn 10 ((↑(List.length f.kids) : Int) == 1) true (decide_eq_true om) <| kct <| kq <| rn 2 <| runs_indexL (eFs f.kids) (o := none) (kd := IntKind.i64) 0 _ kr kr kr asm kr <| rn 1 <| rca ([.agg [.int .i64 k.op, .int .i64 k.n, .sl (eFs k.kids) none]]) kr kr kr kr (hcall) kr <| rca ([.agg [.int .i64 (Fm.op (simpleR d k)), .int .i64 (Fm.n (simpleR d k)), .sl (eFs (Fm.kids (simpleR d k))) none]]) kr kr kr kr (hneg) kr <| rn 1 ?_
   refine kD (k_skip_seq (k_ret ?_))
   refine ⟨.inr rfl, kr, ?_⟩
   show _ = _
   kernel_rfl
  rw [if_neg c4]
  by_cases c5 : f.op = 5
  ·have hrow := row_ok n f (simpleR d) 1 2 [] (by decide) h12 om (fun k hk => hS k hk [])
   rw [c5] at hrow
   rw [if_pos c5]
   refine call_of (m := m52) rfl rfl (by decide) (k_start ?_)
   unfold m52
   refine kq <| rn 2 ?_
   refine kD (k_skip_seq (kq (kq ?_)))
   refine rn 1 <| rve (.int .i64 f.op) (.int IntKind.i64 (5 : Int)) (congrArg (D.int IntKind.i64) (show Fm.op f = 5 from c5)) ?_
   refine kD (k_skip_seq (kZ (kq ?_)))
   refine rn 2 ?_
   refine kD (k_skip_seq (kcf (kq ?_)))
   refine rn 2 ?_
   refine kD (k_skip_seq (kct (kq ?_)))
   refine rn 1 <| rca ([.agg [.int .i64 f.op, .int .i64 f.n, .sl (eFs f.kids) none], .int .i64 1, .int .i64 2]) kr kr kr kr (hrow) kr <| rn 1 ?_
   refine kD (k_skip_seq (k_ret ?_))
   refine ⟨.inr rfl, kr, ?_⟩
   show _ = _
   kernel_rfl
  rw [if_neg c5]
  by_cases c6 : f.op = 6
  ·have hrow := row_ok n f (simpleR d) 2 1 [] (by decide) h12 om (fun k hk => hS k hk [])
   rw [c6] at hrow
   rw [if_pos c6]
   refine call_of (m := m52) rfl rfl (by decide) (k_start ?_)
   unfold m52
   refine kq <| rn 2 ?_
   refine kD (k_skip_seq (kq (kq ?_)))
   refine rn 1 <| rve (.int .i64 f.op) (.int IntKind.i64 (6 : Int)) (congrArg (D.int IntKind.i64) (show Fm.op f = 6 from c6)) ?_
   refine kD (k_skip_seq (kZ (kq ?_)))
   refine rn 2 ?_
   refine kD (k_skip_seq (kcf (kq ?_)))
   refine rn 2 ?_
   refine kD (k_skip_seq (kcf (kq ?_)))
   refine rn 2 ?_
   refine kD (k_skip_seq (kct (kq ?_)))
   refine rn 1 <| rca ([.agg [.int .i64 f.op, .int .i64 f.n, .sl (eFs f.kids) none], .int .i64 2, .int .i64 1]) kr kr kr kr (hrow) kr <| rn 1 ?_
   refine kD (k_skip_seq (k_ret ?_))
   refine ⟨.inr rfl, kr, ?_⟩
   show _ = _
   kernel_rfl
  rw [if_neg c6]
  by_cases c3 : f.op = 3
  ·rw [if_pos c3, eF_leaf]
   refine call_of (m := m52) rfl rfl (by decide) (k_start ?_)
   unfold m52
   refine kq <| rn 2 ?_
   refine kD (k_skip_seq (kq (kq ?_)))
   refine rn 1 <| rve (.int .i64 f.op) (.int IntKind.i64 (3 : Int)) (congrArg (D.int IntKind.i64) (show Fm.op f = 3 from c3)) ?_
   refine kD (k_skip_seq (kZ (kq ?_)))
   refine rn 2 ?_
   refine kD (k_skip_seq (kcf (kq ?_)))
   refine rn 2 ?_
   refine kD (k_skip_seq (kcf (kq ?_)))
   refine rn 2 ?_
   refine kD (k_skip_seq (kcf (kq ?_)))
   refine rn 2 ?_
   refine kD (k_skip_seq (kct (kq ?_)))
   refine rn 4 ?_
   refine kD (k_skip_seq (k_ret ?_))
   refine ⟨.inr rfl, kr, ?_⟩
   show _ = _
   kernel_rfl
  ·rw [if_neg c3, eF_leaf]
   refine call_of (m := m52) rfl rfl (by decide) (k_start ?_)
   unfold m52
   refine kq <| rn 2 ?_
   refine kD (k_skip_seq (kq (kq ?_)))
   refine rn 2 ?_
   refine kD (k_skip_seq (kZ (kq ?_)))
   refine rn 2 <| kD <| k_skip_seq <| rkn 5 (Fm.op f == 4) false (decide_eq_false asm) <| kcf <| kq <| rn 2 <| kD <| k_skip_seq <| rkn 17 (Fm.op f == 5) false (decide_eq_false asm) <| kcf <| kq <| rn 2 <| kD <| k_skip_seq <| rkn 21 (Fm.op f == 6) false (decide_eq_false asm) <| kcf <| kq <| rn 2 <| kD <| k_skip_seq <| rkn 25 (Fm.op f == 3) false (decide_eq_false asm) ?_
   refine kcf (kY (k_skip_seq (kq ?_)))
   refine rn 4 ?_
   refine kD (k_skip_seq (k_ret ?_))
   refine ⟨.inr rfl, kr, ?_⟩
   show _ = _
   kernel_rfl
end Go.Abs.W
