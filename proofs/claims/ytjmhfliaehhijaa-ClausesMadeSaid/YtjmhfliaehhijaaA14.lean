import Derived.Test.YtjmhfliaehhijaaKont
import Derived.Test.YtjmhfliaehhijaaA13
set_option linter.unusedVariables false
set_option linter.unusedSimpArgs false
/-
  The given program's Met; the statement ClausesMet as the machine code sees it.
-/
namespace Go.Abs.A
open Go Go.Abs
set_option maxRecDepth 8000
attribute [local irreducible] callN runC evalOp

/-- The first for which it is so, or -1. -/
def idxG {α : Type} (p : α → Bool) : List α → Int → Int
  | [], _ => -1
  | k :: ks, i => if p k then i else idxG p ks (i + 1)
theorem idxG_at {α : Type} (p : α → Bool) : ∀ (c : List α) (i : Nat) (j : Int) (h : i < c.length), (∀ x ∈ c.take i, p x = false) → p c[i] = true → idxG p c j = j + i
  | x :: xs, 0, j, _, _, h => by
    simp only [List.getElem_cons_zero] at h
    simp [idxG, h]
  | x :: xs, i + 1, j, hl, hn, h => by
    simp only [List.getElem_cons_succ] at h
    have h0 := hn x (by simp)
    have := idxG_at p xs i (j + 1) (by simpa using hl) (fun y hy => hn y (by simp [hy])) h
    simp only [idxG, h0, Bool.false_eq_true, if_false, this]
    omega
theorem idxG_none {α : Type} (p : α → Bool) : ∀ (c : List α) (j : Int), (∀ x ∈ c, p x = false) → idxG p c j = -1
  | [], _, _ => rfl
  | x :: xs, j, h => by
    simp only [idxG, h x (by simp), Bool.false_eq_true, if_false]
    exact idxG_none p xs (j + 1) (fun y hy => h y (by simp [hy]))
theorem idxG_ge {α : Type} (p : α → Bool) : ∀ (c : List α) (j : Int), 0 ≤ j → decide (idxG p c j ≥ 0) = c.any p
  | [], _, _ => rfl
  | x :: xs, j, h => by
    simp only [idxG, List.any_cons]
    by_cases hp : p x = true
    · simp [hp, h]
    · have hp' : p x = false := by simpa using hp
      simp only [hp', Bool.false_eq_true, if_false, Bool.false_or]
      exact idxG_ge p xs (j + 1) (by omega)
theorem take_noG {α : Type} {p : α → Bool} {c : List α} {i : Nat} (h : i < c.length) (hn : ∀ x ∈ c.take i, p x = false) (hp : p c[i] = false) : ∀ x ∈ c.take (i + 1), p x = false := by
  rw [List.take_succ_eq_append_getElem h]
  intro x hx
  rcases List.mem_append.1 hx with hx | hx
  · exact hn x hx
  · simp only [List.mem_singleton] at hx
    rw [hx]
    exact hp
def fIdx (ks : D) (len : Int) (fn : D) (i : Int) : Fr := Fr.mk ([ks, fn, .junk, .junk, .int .i64 0, .junk, .junk, .int .i64 len, .int .i64 i] ++ List.replicate 10 .junk) (List.replicate 19 none) []
def dInt (v : Int) : D := .int .i64 v
def dInts (c : List Int) : D := .sl (ints c) none
theorem indexI_ok (p : Int → Bool) (cf o1 : Nat) (ks : List Int) (o : Option Nat) (n : Nat) (σ : St) (hn : ks.length ≤ 200) (h12 : 200 < n) (hc : ∀ k ∈ ks, callN T n cf ([dInt k] ++ [.ptr o1 0]) σ = some (.bool (p k), σ)) :
    callN T (n + 1) 55 [.sl (ints ks) o, .func cf [.ptr o1 0]] σ = some (.int .i64 (idxG p ks 0), σ) := by
  refine call_of (m := m55) rfl rfl (by decide) (k_start ?_)
  unfold m55
  refine k_seq ?_
  refine rv (D.int IntKind.i64 (0 : Int)) ?_
  refine k_done (k_skip_seq (k_seq (k_seq ?_)))
  refine rv (D.sl (ints ks) none) ?_
  refine rve (D.int IntKind.i64 (↑(List.length (ints ks)) : Int)) (.int IntKind.i64 ((↑(List.length ks) : Int))) (by simp only [ints, eInt, rows, eInts, bools, eBool, trips, eTrip, List.length_map]) ?_
  refine rv (D.int IntKind.i64 (0 : Int)) ?_
  refine k_done (k_skip_seq (k_block ?_))
  refine k_loop (fun i : Nat => fIdx (.sl (ints ks) none) ks.length (.func cf [.ptr o1 0]) i) (fun _ => σ) (fun i => i ≤ ks.length ∧ ∀ x ∈ ks.take i, p x = false) (fun i => ks.length - i) 0 (by kernel_rfl) rfl (by simp) (by intro s hs; omega) ?_
  rintro i ⟨hi, hno⟩
  by_cases hlt : i < ks.length
  · have hcall := hc ks[i] (List.getElem_mem hlt)
    by_cases hp : p ks[i] = true
    · rw [hp] at hcall
      refine k_seq ?_
      refine rv (D.bool (decide ((↑i : Int) < (↑(List.length ks) : Int)))) ?_
      refine k_done (k_skip_seq (k_seq ?_))
      refine rkn 9 (decide ((↑i : Int) < (↑(List.length ks) : Int))) true (decide_eq_true (by omega)) ?_
      refine kct (k_skip_seq (k_seq (k_block (k_seq ?_))))
      refine rv (D.int IntKind.i64 (↑i : Int)) ?_
      refine ra0 (D.int IntKind.i64 (↑i : Int)) ?_
      refine k_done (k_skip_seq (k_seq ?_))
      refine rv (D.func cf [D.ptr o1 (0 : Nat)]) ?_
      refine rv (D.sl (ints ks) none) ?_
      refine rv (D.int IntKind.i64 (↑i : Int)) ?_
      refine runs_index (ks) (eInt) (o := none) (kd := IntKind.i64) (i) (by kernel_rfl) (by kernel_rfl) (by kernel_rfl) (by assumption) (by kernel_rfl) ?_
      refine rv (D.int IntKind.i64 ks[i]) ?_
      refine runs_callv_st (cf) ([D.ptr o1 (0 : Nat)]) ([D.int IntKind.i64 ks[i]]) ([D.int IntKind.i64 ks[i], D.ptr o1 (0 : Nat)]) (by kernel_rfl) (by kernel_rfl) (by kernel_rfl) (by kernel_rfl) (by kernel_rfl) (by kernel_rfl) (hcall) ?_
      refine k_done (k_skip_seq (kct (k_seq ?_)))
      refine rv (D.int IntKind.i64 (↑i : Int)) ?_
      refine ra0 (D.int IntKind.i64 (↑i : Int)) ?_
      refine k_done (k_skip_seq (k_ret ?_))
      refine ⟨.inr rfl, by kernel_rfl, ?_⟩
      rw [idxG_at p ks i 0 hlt hno hp, Int.zero_add]
      show _ = _
      kernel_rfl
    · have hp' : p ks[i] = false := by simpa using hp
      rw [hp'] at hcall
      refine k_seq ?_
      refine rv (D.bool (decide ((↑i : Int) < (↑(List.length ks) : Int)))) ?_
      refine k_done (k_skip_seq (k_seq ?_))
      refine rkn 9 (decide ((↑i : Int) < (↑(List.length ks) : Int))) true (decide_eq_true (by omega)) ?_
      refine kct (k_skip_seq (k_seq (k_block (k_seq ?_))))
      refine rv (D.int IntKind.i64 (↑i : Int)) ?_
      refine ra0 (D.int IntKind.i64 (↑i : Int)) ?_
      refine k_done (k_skip_seq (k_seq ?_))
      refine rv (D.func cf [D.ptr o1 (0 : Nat)]) ?_
      refine rv (D.sl (ints ks) none) ?_
      refine rv (D.int IntKind.i64 (↑i : Int)) ?_
      refine runs_index (ks) (eInt) (o := none) (kd := IntKind.i64) (i) (by kernel_rfl) (by kernel_rfl) (by kernel_rfl) (by assumption) (by kernel_rfl) ?_
      refine rv (D.int IntKind.i64 ks[i]) ?_
      refine runs_callv_st (cf) ([D.ptr o1 (0 : Nat)]) ([D.int IntKind.i64 ks[i]]) ([D.int IntKind.i64 ks[i], D.ptr o1 (0 : Nat)]) (by kernel_rfl) (by kernel_rfl) (by kernel_rfl) (by kernel_rfl) (by kernel_rfl) (by kernel_rfl) (hcall) ?_
      refine k_done (k_skip_seq (kcf (k_skip_block (k_skip_seq ?_))))
      refine rve (D.int IntKind.i64 (IntKind.wrap IntKind.i64 ((↑i : Int) + (1 : Int)))) (.int IntKind.i64 ((i + 1 : Nat) : Int)) (congrArg (D.int IntKind.i64) (show IntKind.wrap IntKind.i64 ((↑i : Int) + (1 : Int)) = ((i + 1 : Nat) : Int) from wrap_eq (by omega) (by omega) (by omega))) ?_
      refine rv (D.int IntKind.i64 (↑(i + (1 : Nat)) : Int)) ?_
      refine k_done (k_skip_back ?_)
      exact ⟨i + 1, ⟨hlt, take_noG hlt hno hp'⟩, by omega, by kernel_rfl, rfl⟩
  · rw [List.take_of_length_le (by omega)] at hno
    rw [idxG_none p ks 0 hno]
    refine k_seq ?_
    refine rv (D.bool (decide ((↑i : Int) < (↑(List.length ks) : Int)))) ?_
    refine k_done (k_skip_seq (k_seq ?_))
    refine rkn 9 (decide ((↑i : Int) < (↑(List.length ks) : Int))) false (decide_eq_false (by omega)) ?_
    refine kcf (k_exit_seq (k_exit_back (k_exit_hit rfl (k_skip_seq (k_seq ?_)))))
    refine rv (D.int IntKind.i64 (-1 : Int)) ?_
    refine k_done (k_skip_seq (k_ret ?_))
    exact ⟨.inr rfl, by kernel_rfl, by kernel_rfl⟩
theorem containsI_ok (p : Int → Bool) (cf o1 : Nat) (ks : List Int) (o : Option Nat) (n : Nat) (σ : St) (hn : ks.length ≤ 200) (h12 : 200 < n) (hc : ∀ k ∈ ks, callN T n cf ([dInt k] ++ [.ptr o1 0]) σ = some (.bool (p k), σ)) :
    callN T (n + 2) 50 [.sl (ints ks) o, .func cf [.ptr o1 0]] σ = some (.bool (ks.any p), σ) := by
  rw [← idxG_ge p ks 0 (Int.le_refl _)]
  refine call_of (m := m50) rfl rfl (by decide) (k_start ?_)
  unfold m50
  refine k_seq ?_
  refine rv (D.bool false) ?_
  refine k_done (k_skip_seq (k_seq ?_))
  refine rv (D.sl (ints ks) none) ?_
  refine rv (D.func cf [D.ptr o1 (0 : Nat)]) ?_
  refine runs_call_st ([D.sl (ints ks) none, D.func cf [D.ptr o1 (0 : Nat)]]) (by kernel_rfl) (by kernel_rfl) (by kernel_rfl) (by kernel_rfl) (indexI_ok p cf o1 ks _ n _ hn h12 hc) ?_
  refine rv (D.bool (decide (idxG p ks (0 : Int) ≥ (0 : Int)))) ?_
  refine ra0 (D.bool (decide (idxG p ks (0 : Int) ≥ (0 : Int)))) ?_
  refine k_done (k_skip_seq (k_ret ?_))
  exact ⟨.inr rfl, by kernel_rfl, by kernel_rfl⟩
theorem indexR_ok (p : (List Int) → Bool) (cf o1 : Nat) (ks : List (List Int)) (o : Option Nat) (n : Nat) (σ : St) (hn : ks.length ≤ 200) (h12 : 200 < n) (hc : ∀ k ∈ ks, callN T n cf ([dInts k] ++ [.ptr o1 0]) σ = some (.bool (p k), σ)) :
    callN T (n + 1) 54 [.sl (rows ks) o, .func cf [.ptr o1 0]] σ = some (.int .i64 (idxG p ks 0), σ) := by
  refine call_of (m := m54) rfl rfl (by decide) (k_start ?_)
  unfold m54
  refine k_seq ?_
  refine rv (D.int IntKind.i64 (0 : Int)) ?_
  refine k_done (k_skip_seq (k_seq (k_seq ?_)))
  refine rv (D.sl (rows ks) none) ?_
  refine rve (D.int IntKind.i64 (↑(List.length (rows ks)) : Int)) (.int IntKind.i64 ((↑(List.length ks) : Int))) (by simp only [ints, eInt, rows, eInts, bools, eBool, trips, eTrip, List.length_map]) ?_
  refine rv (D.int IntKind.i64 (0 : Int)) ?_
  refine k_done (k_skip_seq (k_block ?_))
  refine k_loop (fun i : Nat => fIdx (.sl (rows ks) none) ks.length (.func cf [.ptr o1 0]) i) (fun _ => σ) (fun i => i ≤ ks.length ∧ ∀ x ∈ ks.take i, p x = false) (fun i => ks.length - i) 0 (by kernel_rfl) rfl (by simp) (by intro s hs; omega) ?_
  rintro i ⟨hi, hno⟩
  by_cases hlt : i < ks.length
  · have hcall := hc ks[i] (List.getElem_mem hlt)
    by_cases hp : p ks[i] = true
    · rw [hp] at hcall
      refine k_seq ?_
      refine rv (D.bool (decide ((↑i : Int) < (↑(List.length ks) : Int)))) ?_
      refine k_done (k_skip_seq (k_seq ?_))
      refine rkn 9 (decide ((↑i : Int) < (↑(List.length ks) : Int))) true (decide_eq_true (by omega)) ?_
      refine kct (k_skip_seq (k_seq (k_block (k_seq ?_))))
      refine rv (D.int IntKind.i64 (↑i : Int)) ?_
      refine ra0 (D.int IntKind.i64 (↑i : Int)) ?_
      refine k_done (k_skip_seq (k_seq ?_))
      refine rv (D.func cf [D.ptr o1 (0 : Nat)]) ?_
      refine rv (D.sl (rows ks) none) ?_
      refine rv (D.int IntKind.i64 (↑i : Int)) ?_
      refine runs_index (ks) (eInts) (o := none) (kd := IntKind.i64) (i) (by kernel_rfl) (by kernel_rfl) (by kernel_rfl) (by assumption) (by kernel_rfl) ?_
      refine rv (D.sl (ints ks[i]) none) ?_
      refine runs_callv_st (cf) ([D.ptr o1 (0 : Nat)]) ([D.sl (ints ks[i]) none]) ([D.sl (ints ks[i]) none, D.ptr o1 (0 : Nat)]) (by kernel_rfl) (by kernel_rfl) (by kernel_rfl) (by kernel_rfl) (by kernel_rfl) (by kernel_rfl) (hcall) ?_
      refine k_done (k_skip_seq (kct (k_seq ?_)))
      refine rv (D.int IntKind.i64 (↑i : Int)) ?_
      refine ra0 (D.int IntKind.i64 (↑i : Int)) ?_
      refine k_done (k_skip_seq (k_ret ?_))
      refine ⟨.inr rfl, by kernel_rfl, ?_⟩
      rw [idxG_at p ks i 0 hlt hno hp, Int.zero_add]
      show _ = _
      kernel_rfl
    · have hp' : p ks[i] = false := by simpa using hp
      rw [hp'] at hcall
      refine k_seq ?_
      refine rv (D.bool (decide ((↑i : Int) < (↑(List.length ks) : Int)))) ?_
      refine k_done (k_skip_seq (k_seq ?_))
      refine rkn 9 (decide ((↑i : Int) < (↑(List.length ks) : Int))) true (decide_eq_true (by omega)) ?_
      refine kct (k_skip_seq (k_seq (k_block (k_seq ?_))))
      refine rv (D.int IntKind.i64 (↑i : Int)) ?_
      refine ra0 (D.int IntKind.i64 (↑i : Int)) ?_
      refine k_done (k_skip_seq (k_seq ?_))
      refine rv (D.func cf [D.ptr o1 (0 : Nat)]) ?_
      refine rv (D.sl (rows ks) none) ?_
      refine rv (D.int IntKind.i64 (↑i : Int)) ?_
      refine runs_index (ks) (eInts) (o := none) (kd := IntKind.i64) (i) (by kernel_rfl) (by kernel_rfl) (by kernel_rfl) (by assumption) (by kernel_rfl) ?_
      refine rv (D.sl (ints ks[i]) none) ?_
      refine runs_callv_st (cf) ([D.ptr o1 (0 : Nat)]) ([D.sl (ints ks[i]) none]) ([D.sl (ints ks[i]) none, D.ptr o1 (0 : Nat)]) (by kernel_rfl) (by kernel_rfl) (by kernel_rfl) (by kernel_rfl) (by kernel_rfl) (by kernel_rfl) (hcall) ?_
      refine k_done (k_skip_seq (kcf (k_skip_block (k_skip_seq ?_))))
      refine rve (D.int IntKind.i64 (IntKind.wrap IntKind.i64 ((↑i : Int) + (1 : Int)))) (.int IntKind.i64 ((i + 1 : Nat) : Int)) (congrArg (D.int IntKind.i64) (show IntKind.wrap IntKind.i64 ((↑i : Int) + (1 : Int)) = ((i + 1 : Nat) : Int) from wrap_eq (by omega) (by omega) (by omega))) ?_
      refine rv (D.int IntKind.i64 (↑(i + (1 : Nat)) : Int)) ?_
      refine k_done (k_skip_back ?_)
      exact ⟨i + 1, ⟨hlt, take_noG hlt hno hp'⟩, by omega, by kernel_rfl, rfl⟩
  · rw [List.take_of_length_le (by omega)] at hno
    rw [idxG_none p ks 0 hno]
    refine k_seq ?_
    refine rv (D.bool (decide ((↑i : Int) < (↑(List.length ks) : Int)))) ?_
    refine k_done (k_skip_seq (k_seq ?_))
    refine rkn 9 (decide ((↑i : Int) < (↑(List.length ks) : Int))) false (decide_eq_false (by omega)) ?_
    refine kcf (k_exit_seq (k_exit_back (k_exit_hit rfl (k_skip_seq (k_seq ?_)))))
    refine rv (D.int IntKind.i64 (-1 : Int)) ?_
    refine k_done (k_skip_seq (k_ret ?_))
    exact ⟨.inr rfl, by kernel_rfl, by kernel_rfl⟩
theorem containsR_ok (p : (List Int) → Bool) (cf o1 : Nat) (ks : List (List Int)) (o : Option Nat) (n : Nat) (σ : St) (hn : ks.length ≤ 200) (h12 : 200 < n) (hc : ∀ k ∈ ks, callN T n cf ([dInts k] ++ [.ptr o1 0]) σ = some (.bool (p k), σ)) :
    callN T (n + 2) 48 [.sl (rows ks) o, .func cf [.ptr o1 0]] σ = some (.bool (ks.any p), σ) := by
  rw [← idxG_ge p ks 0 (Int.le_refl _)]
  refine call_of (m := m48) rfl rfl (by decide) (k_start ?_)
  unfold m48
  refine k_seq ?_
  refine rv (D.bool false) ?_
  refine k_done (k_skip_seq (k_seq ?_))
  refine rv (D.sl (rows ks) none) ?_
  refine rv (D.func cf [D.ptr o1 (0 : Nat)]) ?_
  refine runs_call_st ([D.sl (rows ks) none, D.func cf [D.ptr o1 (0 : Nat)]]) (by kernel_rfl) (by kernel_rfl) (by kernel_rfl) (by kernel_rfl) (indexR_ok p cf o1 ks _ n _ hn h12 hc) ?_
  refine rv (D.bool (decide (idxG p ks (0 : Int) ≥ (0 : Int)))) ?_
  refine ra0 (D.bool (decide (idxG p ks (0 : Int) ≥ (0 : Int)))) ?_
  refine k_done (k_skip_seq (k_ret ?_))
  exact ⟨.inr rfl, by kernel_rfl, by kernel_rfl⟩

def O2 : Obj := .cells [.func 47 [.ptr 0 0]]
theorem unmet_ok (n : Nat) (c : List Int) (a : List Bool) (h200 : c.length ≤ 200) (hn : 200 < n) (hc : ∀ v ∈ c, -9223372036854775808 ≤ v ∧ v ≤ 9223372036854775807) (ha : a.length ≤ 9223372036854775807) :
    callN T (n + 4) 49 [dInts c, .ptr 1 0] [O0 a, O2] = some (.bool (!metC c a), [O0 a, O2]) := by
  have hcon := containsI_ok (fun v => soB v a) 47 0 c none (n + 1) [O0 a, O2] h200 (by omega) (fun v hv => lit_ok n v a [O2] (hc v hv) ha)
  have hm : metC c a = c.any (fun v => soB v a) := rfl
  rw [hm]
  refine call_of (m := m49) rfl rfl (by decide) (k_start ?_)
  unfold m49
  refine k_seq ?_
  refine rv (D.bool false) ?_
  refine k_done (k_skip_seq (k_seq ?_))
  refine rv (D.sl (ints c) none) ?_
  refine rv (D.func (47 : Nat) [D.ptr (0 : Nat) (0 : Nat)]) ?_
  refine runs_call_st ([D.sl (ints c) none, D.func (47 : Nat) [D.ptr (0 : Nat) (0 : Nat)]]) (by kernel_rfl) (by kernel_rfl) (by kernel_rfl) (by kernel_rfl) (hcon) ?_
  refine rv (D.bool !List.any c fun v => soB v a) ?_
  refine ra0 (D.bool !List.any c fun v => soB v a) ?_
  refine k_done (k_skip_seq (k_ret ?_))
  exact ⟨.inr rfl, by kernel_rfl, by kernel_rfl⟩
theorem all_anyG {α : Type} {p : α → Bool} (c : List α) : c.all p = !(c.any fun k => !p k) := by
  induction c with
  | nil => rfl
  | cons x xs ih => simp [ih, Bool.not_or]
theorem progMet_ok (n : Nat) (l : List (List Int)) (a : List Bool) (o1 o2 : Option Nat) (h200 : l.length ≤ 200) (hn : 200 < n) (hl : ∀ c ∈ l, c.length ≤ 200 ∧ ∀ v ∈ c, -9223372036854775808 ≤ v ∧ v ≤ 9223372036854775807) (ha : a.length ≤ 9223372036854775807) :
    callN T (n + 7) 33 [.sl (rows l) o1, .sl (bools a) o2] [] = some (.bool (metB l a), [O0 a, O2]) := by
  have hcon := containsR_ok (fun c => !metC c a) 49 1 l none (n + 4) [O0 a, O2] h200 (by omega) (fun c hc => unmet_ok n c a (hl c hc).1 hn (hl c hc).2 ha)
  have hm : metB l a = !(l.any (fun c => !metC c a)) := all_anyG l
  rw [hm]
  refine call_of (m := m33) rfl rfl (by decide) (k_start ?_)
  unfold m33
  refine k_seq ?_
  refine rgf (D.lptr (3 : Nat) (0 : Nat)) ([]) ?_
  refine rv (D.bool false) ?_
  refine k_done (k_skip_seq (k_seq ?_))
  refine rgf (D.func (47 : Nat) [D.ptr (0 : Nat) (0 : Nat)]) ([Obj.cells [D.sl (bools a) none]]) ?_
  refine rgf (D.lptr (5 : Nat) (0 : Nat)) ([Obj.cells [D.sl (bools a) none]]) ?_
  refine rgf (D.junk) ([Obj.cells [D.sl (bools a) none]]) ?_
  refine k_done (k_skip_seq (k_seq ?_))
  refine rv (D.sl (rows l) none) ?_
  refine rgf (D.func (49 : Nat) [D.ptr (1 : Nat) (0 : Nat)]) ([Obj.cells [D.sl (bools a) none], Obj.cells [D.func (47 : Nat) [D.ptr (0 : Nat) (0 : Nat)]]]) ?_
  refine runs_call_st ([D.sl (rows l) none, D.func (49 : Nat) [D.ptr (1 : Nat) (0 : Nat)]]) (by kernel_rfl) (by kernel_rfl) (by kernel_rfl) (by kernel_rfl) (hcon) ?_
  refine rv (D.bool !List.any l fun c => !metC c a) ?_
  refine ra0 (D.bool !List.any l fun c => !metC c a) ?_
  refine k_done (k_skip_seq (k_ret ?_))
  exact ⟨.inr rfl, by kernel_rfl, by kernel_rfl⟩

theorem awake19_ok : callN T 5000 26 [] [] = some (.bool true, []) := by kernel_rfl
def f9 (l : List (List Int)) (a : List Bool) (i : Int) : Fr := Fr.mk ([.sl (rows l) none, .sl (bools a) none, .junk, .junk, .bool false, .junk, .int .i64 i] ++ List.replicate 25 .junk) (List.replicate 32 none) []
theorem lawMet_ok (l : List (List Int)) (a : List Bool) (o1 o2 : Option Nat) (hl : ∀ c ∈ l, ∀ v ∈ c, -9223372036854775808 ≤ v ∧ v ≤ 9223372036854775807) (ha : a.length ≤ 9223372036854775807) :
    ∃ σ, callN T 5001 9 [.sl (rows l) o1, .sl (bools a) o2] [] = some (.bool true, σ) := by
  refine ⟨[], ?_⟩
  refine call_of (m := m9) rfl rfl (by decide) (k_start ?_)
  unfold m9
  by_cases h200 : l.length > 200
  · refine k_seq ?_
    refine rv (D.bool false) ?_
    refine k_done (k_skip_seq (k_seq ?_))
    refine runs_call ([]) (by kernel_rfl) (by kernel_rfl) (by kernel_rfl) (by kernel_rfl) (awake19_ok) (by kernel_rfl) ?_
    refine ra0 (D.bool true) ?_
    refine k_done (k_skip_seq (k_seq (k_seq ?_)))
    refine rv (D.bool true) ?_
    refine rv (D.bool false) ?_
    refine k_done (k_skip_seq (kcf (k_skip_seq (k_seq (k_seq ?_)))))
    refine rv (D.sl (rows l) none) ?_
    refine rve (D.int IntKind.i64 (↑(List.length (rows l)) : Int)) (.int IntKind.i64 ((↑(List.length l) : Int))) (by simp only [ints, eInt, rows, eInts, bools, eBool, trips, eTrip, List.length_map]) ?_
    refine rv (D.bool (decide ((↑(List.length l) : Int) > (200 : Int)))) ?_
    refine k_done (k_skip_seq ?_)
    refine rkn 12 (decide ((↑(List.length l) : Int) > (200 : Int))) true (decide_eq_true (by omega)) ?_
    refine kct (k_seq ?_)
    refine rv (D.bool true) ?_
    refine k_done (k_skip_seq (k_ret ?_))
    exact ⟨.inr rfl, by kernel_rfl, by kernel_rfl⟩
  refine k_seq ?_
  refine rv (D.bool false) ?_
  refine k_done (k_skip_seq (k_seq ?_))
  refine runs_call ([]) (by kernel_rfl) (by kernel_rfl) (by kernel_rfl) (by kernel_rfl) (awake19_ok) (by kernel_rfl) ?_
  refine ra0 (D.bool true) ?_
  refine k_done (k_skip_seq (k_seq (k_seq ?_)))
  refine rv (D.bool true) ?_
  refine rv (D.bool false) ?_
  refine k_done (k_skip_seq (kcf (k_skip_seq (k_seq (k_seq ?_)))))
  refine rv (D.sl (rows l) none) ?_
  refine rve (D.int IntKind.i64 (↑(List.length (rows l)) : Int)) (.int IntKind.i64 ((↑(List.length l) : Int))) (by simp only [ints, eInt, rows, eInts, bools, eBool, trips, eTrip, List.length_map]) ?_
  refine rv (D.bool (decide ((↑(List.length l) : Int) > (200 : Int)))) ?_
  refine k_done (k_skip_seq ?_)
  refine rkn 12 (decide ((↑(List.length l) : Int) > (200 : Int))) false (decide_eq_false (by omega)) ?_
  refine kcf (k_skip_seq (k_seq (k_seq ?_)))
  refine rv (D.int IntKind.i64 (0 : Int)) ?_
  refine k_done (k_skip_seq (k_block ?_))
  refine k_loop (fun i : Nat => f9 l a i) (fun _ => []) (fun i => i ≤ l.length ∧ ∀ c ∈ l.take i, c.length ≤ 200) (fun i => l.length - i) 0 (by kernel_rfl) rfl (by simp) (by intro s hs; omega) ?_
  rintro i ⟨hi, hall⟩
  by_cases hlt : i < l.length
  · by_cases hc : l[i].length > 200
    · refine k_seq (k_seq ?_)
      refine rv (D.int IntKind.i64 (↑i : Int)) ?_
      refine rv (D.sl (rows l) none) ?_
      refine rve (D.int IntKind.i64 (↑(List.length (rows l)) : Int)) (.int IntKind.i64 ((↑(List.length l) : Int))) (by simp only [ints, eInt, rows, eInts, bools, eBool, trips, eTrip, List.length_map]) ?_
      refine rv (D.bool (decide ((↑i : Int) < (↑(List.length l) : Int)))) ?_
      refine k_done (k_skip_seq ?_)
      refine rkn 16 (decide ((↑i : Int) < (↑(List.length l) : Int))) true (decide_eq_true (by omega)) ?_
      refine kct (k_skip_seq (k_seq (k_block (k_seq ?_))))
      refine rv (D.sl (rows l) none) ?_
      refine rv (D.int IntKind.i64 (↑i : Int)) ?_
      refine runs_index (l) (eInts) (o := none) (kd := IntKind.i64) (i) (by kernel_rfl) (by kernel_rfl) (by kernel_rfl) (by assumption) (by kernel_rfl) ?_
      refine rv (D.sl (ints l[i]) none) ?_
      refine rve (D.int IntKind.i64 (↑(List.length (ints l[i])) : Int)) (.int IntKind.i64 ((↑(List.length l[i]) : Int))) (by simp only [ints, eInt, rows, eInts, bools, eBool, trips, eTrip, List.length_map]) ?_
      refine rv (D.bool (decide ((↑(List.length l[i]) : Int) > (200 : Int)))) ?_
      refine k_done (k_skip_seq ?_)
      refine rkn 24 (decide ((↑(List.length l[i]) : Int) > (200 : Int))) true (decide_eq_true (by omega)) ?_
      refine kct (k_seq ?_)
      refine rv (D.bool true) ?_
      refine k_done (k_skip_seq (k_ret ?_))
      exact ⟨.inr rfl, by kernel_rfl, by kernel_rfl⟩
    · refine k_seq (k_seq ?_)
      refine rv (D.int IntKind.i64 (↑i : Int)) ?_
      refine rv (D.sl (rows l) none) ?_
      refine rve (D.int IntKind.i64 (↑(List.length (rows l)) : Int)) (.int IntKind.i64 ((↑(List.length l) : Int))) (by simp only [ints, eInt, rows, eInts, bools, eBool, trips, eTrip, List.length_map]) ?_
      refine rv (D.bool (decide ((↑i : Int) < (↑(List.length l) : Int)))) ?_
      refine k_done (k_skip_seq ?_)
      refine rkn 16 (decide ((↑i : Int) < (↑(List.length l) : Int))) true (decide_eq_true (by omega)) ?_
      refine kct (k_skip_seq (k_seq (k_block (k_seq ?_))))
      refine rv (D.sl (rows l) none) ?_
      refine rv (D.int IntKind.i64 (↑i : Int)) ?_
      refine runs_index (l) (eInts) (o := none) (kd := IntKind.i64) (i) (by kernel_rfl) (by kernel_rfl) (by kernel_rfl) (by assumption) (by kernel_rfl) ?_
      refine rv (D.sl (ints l[i]) none) ?_
      refine rve (D.int IntKind.i64 (↑(List.length (ints l[i])) : Int)) (.int IntKind.i64 ((↑(List.length l[i]) : Int))) (by simp only [ints, eInt, rows, eInts, bools, eBool, trips, eTrip, List.length_map]) ?_
      refine rv (D.bool (decide ((↑(List.length l[i]) : Int) > (200 : Int)))) ?_
      refine k_done (k_skip_seq ?_)
      refine rkn 24 (decide ((↑(List.length l[i]) : Int) > (200 : Int))) false (decide_eq_false (by omega)) ?_
      refine kcf (k_skip_block (k_skip_seq ?_))
      refine rv (D.int IntKind.i64 (↑i : Int)) ?_
      refine rve (D.int IntKind.i64 (IntKind.wrap IntKind.i64 ((↑i : Int) + (1 : Int)))) (.int IntKind.i64 ((i + 1 : Nat) : Int)) (congrArg (D.int IntKind.i64) (show IntKind.wrap IntKind.i64 ((↑i : Int) + (1 : Int)) = ((i + 1 : Nat) : Int) from wrap_eq (by omega) (by omega) (by omega))) ?_
      refine ra0 (D.int IntKind.i64 (↑(i + (1 : Nat)) : Int)) ?_
      refine k_done (k_skip_back ?_)
      refine ⟨i + 1, ⟨hlt, ?_⟩, by omega, by kernel_rfl, rfl⟩
      rw [List.take_succ_eq_append_getElem hlt]
      intro c hc
      rcases List.mem_append.1 hc with hc | hc
      · exact hall c hc
      · simp only [List.mem_singleton] at hc
        subst hc
        omega
  · rw [List.take_of_length_le (by omega)] at hall
    have e1 := progMet_ok 4993 l a none none (by omega) (by omega) (fun c hc => ⟨hall c hc, hl c hc⟩) ha
    have e2 := met_ok 4998 l a none none [] ha (by omega) (by omega) (fun c hc => by have := hall c hc; omega)
    generalize metB l a = m at *
    refine k_seq (k_seq ?_)
    refine rv (D.int IntKind.i64 (↑i : Int)) ?_
    refine rv (D.sl (rows l) none) ?_
    refine rve (D.int IntKind.i64 (↑(List.length (rows l)) : Int)) (.int IntKind.i64 ((↑(List.length l) : Int))) (by simp only [ints, eInt, rows, eInts, bools, eBool, trips, eTrip, List.length_map]) ?_
    refine rv (D.bool (decide ((↑i : Int) < (↑(List.length l) : Int)))) ?_
    refine k_done (k_skip_seq ?_)
    refine rkn 16 (decide ((↑i : Int) < (↑(List.length l) : Int))) false (decide_eq_false (by omega)) ?_
    refine kcf (k_exit_seq (k_exit_back (k_exit_hit rfl (k_skip_seq (k_seq ?_)))))
    refine rv (D.sl (rows l) none) ?_
    refine rv (D.sl (bools a) none) ?_
    refine runs_call ([D.sl (rows l) none, D.sl (bools a) none]) (by kernel_rfl) (by kernel_rfl) (by kernel_rfl) (by kernel_rfl) (e1) (by kernel_rfl) ?_
    refine rv (D.sl (rows l) none) ?_
    refine rv (D.sl (bools a) none) ?_
    refine runs_call ([D.sl (rows l) none, D.sl (bools a) none]) (by kernel_rfl) (by kernel_rfl) (by kernel_rfl) (by kernel_rfl) (e2) (by kernel_rfl) ?_
    refine rv (D.bool ((m == m) != false)) ?_
    refine ra0 (D.bool ((m == m) != false)) ?_
    refine k_done (k_skip_seq (k_ret ?_))
    refine ⟨.inr rfl, by kernel_rfl, ?_⟩
    have q1 : ((m == m) != false) = true := by simp
    exact Eq.trans (b := some (D.bool ((m == m) != false), [])) (by show _ = _; kernel_rfl) (by rw [q1])
end Go.Abs.A
