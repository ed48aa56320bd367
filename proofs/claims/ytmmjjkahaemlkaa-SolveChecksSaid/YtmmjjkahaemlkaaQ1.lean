/-
  Functions of layer 21 and their values.
-/
import Derived.Test.YtmmjjkahaemlkaaKont
import Derived.Test.YtmmjjkahaemlkaaCodeB
import Derived.Laws.BitsLemmas
set_option linter.unusedVariables false
set_option linter.unusedSimpArgs false
namespace Go.Abs.B
open Go Go.Abs
set_option maxRecDepth 8000
attribute [local irreducible] callN runC evalOp

def f34 (c : List Int) (v i : Int) : Fr := Fr.mk [.sl (ints c) none, .int .i64 v, .junk, .junk, .bool false, .int .i64 i, .junk, .junk, .junk, .junk, .junk, .junk, .junk, .junk, .junk, .junk, .junk, .junk] (List.replicate 18 none) []
theorem has_ok (n : Nat) (c : List Int) (v : Int) (o : Option Nat) (σ : St) (hn : c.length < n) (hc : c.length < 4611686018427387904) :
    callN T (n + 1) 34 [.sl (ints c) o, .int .i64 v] σ = some (.bool (decide (v ∈ c)), σ) := by
  refine call_of (m := m34) rfl rfl (by decide) (k_start ?_)
  unfold m34
  refine k_seq ?_
  refine runs_v (D.bool false) (by kernel_rfl) (by kernel_rfl) ?_
  refine k_done ?_
  refine k_skip_seq ?_
  refine k_seq ?_
  refine k_seq ?_
  refine runs_v (D.int IntKind.i64 (0 : Int)) (by kernel_rfl) (by kernel_rfl) ?_
  refine k_done ?_
  refine k_skip_seq ?_
  refine k_block ?_
  refine k_loop (fun i : Nat => f34 c v i) (fun _ => σ) (fun i => i ≤ c.length ∧ v ∉ c.take i) (fun i => c.length - i) 0 (by kernel_rfl) rfl (by simp) (by omega) ?_
  rintro i ⟨hi, hv⟩
  by_cases hlt : i < c.length
  · refine k_seq ?_
    refine k_seq ?_
    refine runs_v (D.int IntKind.i64 (↑i : Int)) (by kernel_rfl) (by kernel_rfl) ?_
    refine runs_v (D.sl (ints c) none) (by kernel_rfl) (by kernel_rfl) ?_
    refine runs_ve (D.int IntKind.i64 (↑(List.length (ints c)) : Int)) (.int IntKind.i64 ((↑(List.length c) : Int))) (by simp only [ints, eInt, List.length_map, List.length_append, List.length_cons, List.length_nil]) (by kernel_rfl) (by kernel_rfl) ?_
    refine runs_v (D.bool (decide ((↑i : Int) < (↑(List.length c) : Int)))) (by kernel_rfl) (by kernel_rfl) ?_
    refine k_done ?_
    refine k_skip_seq ?_
    refine runs_know 9 (d := .bool (decide ((↑i : Int) < (↑(List.length c) : Int)))) (d' := .bool true) (by kernel_rfl) (congrArg D.bool (show (decide ((↑i : Int) < (↑(List.length c) : Int))) = true from (decide_eq_true (by omega)))) ?_
    refine k_cond_t (by kernel_rfl) ?_
    refine k_skip_seq ?_
    refine k_seq ?_
    refine k_block ?_
    refine k_seq ?_
    refine runs_v (D.sl (ints c) none) (by kernel_rfl) (by kernel_rfl) ?_
    refine runs_v (D.int IntKind.i64 (↑i : Int)) (by kernel_rfl) (by kernel_rfl) ?_
    refine runs_index (c) (eInt) (o := none) (kd := IntKind.i64) (i) (by kernel_rfl) (by kernel_rfl) (by kernel_rfl) (by assumption) (by kernel_rfl) ?_
    refine runs_v (D.int IntKind.i64 c[i]) (by kernel_rfl) (by kernel_rfl) ?_
    refine runs_v (D.int IntKind.i64 v) (by kernel_rfl) (by kernel_rfl) ?_
    refine runs_v (D.bool (c[i] == v)) (by kernel_rfl) (by kernel_rfl) ?_
    refine k_done ?_
    refine k_skip_seq ?_
    by_cases heq : c[i] = v
    · refine runs_know 17 (d := .bool (c[i] == v)) (d' := .bool true) (by kernel_rfl) (congrArg D.bool (show (c[i] == v) = true from (decide_eq_true (by assumption)))) ?_
      refine k_cond_t (by kernel_rfl) ?_
      refine k_seq ?_
      refine runs_v (D.bool true) (by kernel_rfl) (by kernel_rfl) ?_
      refine k_done ?_
      refine k_skip_seq ?_
      refine k_ret ?_
      refine ⟨.inr rfl, rfl, ?_⟩
      have : v ∈ c := by rw [← heq]; exact List.getElem_mem hlt
      rw [decide_eq_true this]
      show _ = _
      kernel_rfl
    · refine runs_know 17 (d := .bool (c[i] == v)) (d' := .bool false) (by kernel_rfl) (congrArg D.bool (show (c[i] == v) = false from (decide_eq_false (by assumption)))) ?_
      refine k_cond_f (by kernel_rfl) ?_
      refine k_skip_block ?_
      refine k_skip_seq ?_
      refine runs_v (D.int IntKind.i64 (↑i : Int)) (by kernel_rfl) (by kernel_rfl) ?_
      refine runs_ve (D.int IntKind.i64 (IntKind.wrap IntKind.i64 ((↑i : Int) + (1 : Int)))) (.int IntKind.i64 ((i + 1 : Nat) : Int)) (congrArg (D.int IntKind.i64) (show IntKind.wrap IntKind.i64 ((↑i : Int) + (1 : Int)) = ((i + 1 : Nat) : Int) by rw [IntKind.wrap_i64] <;> omega)) (by kernel_rfl) (by kernel_rfl) ?_
      refine runs_assign0 (D.int IntKind.i64 (↑(i + (1 : Nat)) : Int)) (by kernel_rfl) (by kernel_rfl) (by kernel_rfl) ?_
      refine k_done ?_
      refine k_skip_back ?_
      refine ⟨i + 1, ⟨hlt, ?_⟩, by omega, by kernel_rfl, rfl⟩
      rw [List.take_succ_eq_append_getElem hlt]
      simp only [List.mem_append, List.mem_singleton, not_or]
      exact ⟨hv, fun h => heq h.symm⟩
  · refine k_seq ?_
    refine k_seq ?_
    refine runs_v (D.int IntKind.i64 (↑i : Int)) (by kernel_rfl) (by kernel_rfl) ?_
    refine runs_v (D.sl (ints c) none) (by kernel_rfl) (by kernel_rfl) ?_
    refine runs_ve (D.int IntKind.i64 (↑(List.length (ints c)) : Int)) (.int IntKind.i64 ((↑(List.length c) : Int))) (by simp only [ints, eInt, List.length_map, List.length_append, List.length_cons, List.length_nil]) (by kernel_rfl) (by kernel_rfl) ?_
    refine runs_v (D.bool (decide ((↑i : Int) < (↑(List.length c) : Int)))) (by kernel_rfl) (by kernel_rfl) ?_
    refine k_done ?_
    refine k_skip_seq ?_
    refine runs_know 9 (d := .bool (decide ((↑i : Int) < (↑(List.length c) : Int)))) (d' := .bool false) (by kernel_rfl) (congrArg D.bool (show (decide ((↑i : Int) < (↑(List.length c) : Int))) = false from (decide_eq_false (by omega)))) ?_
    refine k_cond_f (by kernel_rfl) ?_
    refine k_exit_seq ?_
    refine k_exit_back ?_
    refine k_exit_hit rfl ?_
    refine k_skip_seq ?_
    refine k_seq ?_
    refine runs_v (D.bool false) (by kernel_rfl) (by kernel_rfl) ?_
    refine k_done ?_
    refine k_skip_seq ?_
    refine k_ret ?_
    refine ⟨.inr rfl, rfl, ?_⟩
    have : v ∉ c := by
      rwa [List.take_of_length_le (by omega)] at hv
    rw [decide_eq_false this]
    show _ = _
    kernel_rfl

/-- What two clauses make: the first's letters but one, each once. -/
def addAll (w : Int) : List Int → List Int → List Int
  | [], out => out
  | x :: xs, out => addAll w xs (if x ≠ w ∧ x ∉ out then out ++ [x] else out)

theorem addAll_snoc (w : Int) : ∀ (xs : List Int) (x : Int) (out : List Int), addAll w (xs ++ [x]) out = (let o := addAll w xs out; if x ≠ w ∧ x ∉ o then o ++ [x] else o)
  | [], x, out => rfl
  | y :: ys, x, out => by
    simp only [List.cons_append, addAll]
    exact addAll_snoc w ys x _

theorem addAll_len (w : Int) : ∀ (xs out : List Int), (addAll w xs out).length ≤ out.length + xs.length
  | [], out => by simp [addAll]
  | x :: xs, out => by
    simp only [addAll, List.length_cons]
    have := addAll_len w xs (if x ≠ w ∧ x ∉ out then out ++ [x] else out)
    by_cases hc : x ≠ w ∧ x ∉ out
    · rw [if_pos hc] at this ⊢
      simp at this
      omega
    · rw [if_neg hc] at this ⊢
      omega

def negI (p : Int) : Int := IntKind.i64.wrap (0 - p)
def made (a b : List Int) (p : Int) : List Int := addAll (negI p) b (addAll p a [])
def makes (a b : List Int) (p : Int) : Prop := p ≠ 0 ∧ p ∈ a ∧ negI p ∈ b
instance (a b : List Int) (p : Int) : Decidable (makes a b p) := by unfold makes; infer_instance
def makeR (a b : List Int) (p : Int) : List Int × Int := if makes a b p then (made a b p, 0) else ([], 50)

def f21 (a b : List Int) (p : Int) (out : List Int) (i j : D) : Fr :=
  ⟨[.sl (ints a) none, .sl (ints b) none, .int .i64 p, .junk, .junk, .junk, .sl [] (some 3), .int .i64 0, .sl (ints out) (some 3), i, j] ++ List.replicate 73 .junk, List.replicate 84 none, []⟩

theorem refMake_ok (n : Nat) (a b : List Int) (p : Int) (o1 o2 : Option Nat) (σ : St) (hn : a.length + b.length < n) (hc : a.length + b.length < 4096) :
    callN T (n + 2) 21 [.sl (ints a) o1, .sl (ints b) o2, .int .i64 p] σ = some (.tup [.sl (ints (makeR a b p).1) none, .int .i64 (makeR a b p).2], σ) := by
  refine call_of (m := m21) rfl rfl (by decide) (k_start ?_)
  unfold m21
  have ht : (makeR a b p).1 = (if makes a b p then made a b p else []) := by unfold makeR; split <;> rfl
  have he : (makeR a b p).2 = (if makes a b p then 0 else 50) := by unfold makeR; split <;> rfl
  rw [ht, he]
  by_cases h0 : p = 0
  · refine k_seq ?_
    refine runs_v (D.sl [] (some (3 : Nat))) (by kernel_rfl) (by kernel_rfl) ?_
    refine runs_v (D.int IntKind.i64 (0 : Int)) (by kernel_rfl) (by kernel_rfl) ?_
    refine k_done ?_
    refine k_skip_seq ?_
    refine k_seq ?_
    refine k_seq ?_
    refine runs_v (D.int IntKind.i64 p) (by kernel_rfl) (by kernel_rfl) ?_
    refine runs_v (D.bool (p == (0 : Int))) (by kernel_rfl) (by kernel_rfl) ?_
    refine runs_v (D.bool (p == (0 : Int))) (by kernel_rfl) (by kernel_rfl) ?_
    refine runs_know 13 (d := .bool (p == (0 : Int))) (d' := .bool true) (by kernel_rfl) (congrArg D.bool (show (p == (0 : Int)) = true from (decide_eq_true (by assumption)))) ?_
    refine runs_no (by kernel_rfl) ?_
    refine runs_no (by kernel_rfl) ?_
    refine runs_no (by kernel_rfl) ?_
    refine runs_no (by kernel_rfl) ?_
    refine runs_v (D.bool true) (by kernel_rfl) (by kernel_rfl) ?_
    refine runs_v (D.bool true) (by kernel_rfl) (by kernel_rfl) ?_
    refine runs_no (by kernel_rfl) ?_
    refine runs_no (by kernel_rfl) ?_
    refine runs_no (by kernel_rfl) ?_
    refine runs_no (by kernel_rfl) ?_
    refine runs_no (by kernel_rfl) ?_
    refine runs_v (D.bool true) (by kernel_rfl) (by kernel_rfl) ?_
    refine k_done ?_
    refine k_skip_seq ?_
    refine k_cond_t (by kernel_rfl) ?_
    refine k_seq ?_
    refine runs_v (D.sl [] (some (3 : Nat))) (by kernel_rfl) (by kernel_rfl) ?_
    refine runs_v (D.int IntKind.i64 (50 : Int)) (by kernel_rfl) (by kernel_rfl) ?_
    refine k_done ?_
    refine k_skip_seq ?_
    refine k_ret ?_
    refine ⟨.inr rfl, rfl, ?_⟩
    rw [if_neg (fun h => h.1 h0), if_neg (fun h => h.1 h0)]
    show _ = _
    kernel_rfl
  by_cases h1 : p ∈ a
  · by_cases h2 : negI p ∈ b
    · have h2' : IntKind.wrap IntKind.i64 (0 - p) ∈ b := h2
      refine k_seq ?_
      refine runs_v (D.sl [] (some (3 : Nat))) (by kernel_rfl) (by kernel_rfl) ?_
      refine runs_v (D.int IntKind.i64 (0 : Int)) (by kernel_rfl) (by kernel_rfl) ?_
      refine k_done ?_
      refine k_skip_seq ?_
      refine k_seq ?_
      refine k_seq ?_
      refine runs_v (D.int IntKind.i64 p) (by kernel_rfl) (by kernel_rfl) ?_
      refine runs_v (D.bool (p == (0 : Int))) (by kernel_rfl) (by kernel_rfl) ?_
      refine runs_v (D.bool (p == (0 : Int))) (by kernel_rfl) (by kernel_rfl) ?_
      refine runs_know 13 (d := .bool (p == (0 : Int))) (d' := .bool false) (by kernel_rfl) (congrArg D.bool (show (p == (0 : Int)) = false from (decide_eq_false (by assumption)))) ?_
      refine runs_v (D.sl (ints a) none) (by kernel_rfl) (by kernel_rfl) ?_
      refine runs_v (D.int IntKind.i64 p) (by kernel_rfl) (by kernel_rfl) ?_
      refine runs_call ([D.sl (ints a) none, D.int IntKind.i64 p]) (by kernel_rfl) (by kernel_rfl) (by kernel_rfl) (by kernel_rfl) (has_ok _ _ _ _ _ (by omega) (by omega)) (by kernel_rfl) ?_
      refine runs_v (D.bool !decide (p ∈ a)) (by kernel_rfl) (by kernel_rfl) ?_
      refine runs_v (D.bool !decide (p ∈ a)) (by kernel_rfl) (by kernel_rfl) ?_
      refine runs_v (D.bool !decide (p ∈ a)) (by kernel_rfl) (by kernel_rfl) ?_
      refine runs_know 19 (d := .bool (!decide (p ∈ a))) (d' := .bool false) (by kernel_rfl) (congrArg D.bool (show (!decide (p ∈ a)) = false from (by simp only [*, decide_true, decide_false, not_false_eq_true, Bool.not_true, Bool.not_false]))) ?_
      refine runs_v (D.sl (ints b) none) (by kernel_rfl) (by kernel_rfl) ?_
      refine runs_v (D.int IntKind.i64 p) (by kernel_rfl) (by kernel_rfl) ?_
      refine runs_v (D.int IntKind.i64 (IntKind.wrap IntKind.i64 ((0 : Int) - p))) (by kernel_rfl) (by kernel_rfl) ?_
      refine runs_call ([D.sl (ints b) none, D.int IntKind.i64 (IntKind.wrap IntKind.i64 ((0 : Int) - p))]) (by kernel_rfl) (by kernel_rfl) (by kernel_rfl) (by kernel_rfl) (has_ok _ _ _ _ _ (by omega) (by omega)) (by kernel_rfl) ?_
      refine runs_v (D.bool !decide (IntKind.wrap IntKind.i64 ((0 : Int) - p) ∈ b)) (by kernel_rfl) (by kernel_rfl) ?_
      refine runs_v (D.bool !decide (IntKind.wrap IntKind.i64 ((0 : Int) - p) ∈ b)) (by kernel_rfl) (by kernel_rfl) ?_
      refine k_done ?_
      refine k_skip_seq ?_
      refine runs_know 25 (d := .bool (!decide (IntKind.wrap IntKind.i64 ((0 : Int) - p) ∈ b))) (d' := .bool false) (by kernel_rfl) (congrArg D.bool (show (!decide (IntKind.wrap IntKind.i64 ((0 : Int) - p) ∈ b)) = false from (by simp only [*, decide_true, decide_false, not_false_eq_true, Bool.not_true, Bool.not_false]))) ?_
      refine k_cond_f (by kernel_rfl) ?_
      refine k_skip_seq ?_
      refine k_seq ?_
      refine runs_v (D.sl [] (some (3 : Nat))) (by kernel_rfl) (by kernel_rfl) ?_
      refine k_done ?_
      refine k_skip_seq ?_
      refine k_seq ?_
      refine k_seq ?_
      refine runs_v (D.int IntKind.i64 (0 : Int)) (by kernel_rfl) (by kernel_rfl) ?_
      refine k_done ?_
      refine k_skip_seq ?_
      refine k_block ?_
      refine k_loop (fun i : Nat => f21 a b p (addAll p (a.take i) []) (.int .i64 i) .junk) (fun _ => σ) (fun i => i ≤ a.length) (fun i => a.length - i) 0 (by kernel_rfl) rfl (by simp) (by omega) ?_
      intro i hi
      have hol : (addAll p (a.take i) []).length ≤ i := by
        have := addAll_len p (a.take i) []
        simp at this
        omega
      generalize hout : addAll p (a.take i) [] = out at hol
      by_cases hlt : i < a.length
      · have htk : addAll p (a.take (i + 1)) [] = if a[i] ≠ p ∧ a[i] ∉ out then out ++ [a[i]] else out := by
          rw [List.take_succ_eq_append_getElem hlt, addAll_snoc, hout]
        by_cases hne : a[i] = p
        · refine k_seq ?_
          refine k_seq ?_
          refine runs_v (D.int IntKind.i64 (↑i : Int)) (by kernel_rfl) (by kernel_rfl) ?_
          refine runs_v (D.sl (ints a) none) (by kernel_rfl) (by kernel_rfl) ?_
          refine runs_ve (D.int IntKind.i64 (↑(List.length (ints a)) : Int)) (.int IntKind.i64 ((↑(List.length a) : Int))) (by simp only [ints, eInt, List.length_map, List.length_append, List.length_cons, List.length_nil]) (by kernel_rfl) (by kernel_rfl) ?_
          refine runs_v (D.bool (decide ((↑i : Int) < (↑(List.length a) : Int)))) (by kernel_rfl) (by kernel_rfl) ?_
          refine k_done ?_
          refine k_skip_seq ?_
          refine runs_know 29 (d := .bool (decide ((↑i : Int) < (↑(List.length a) : Int)))) (d' := .bool true) (by kernel_rfl) (congrArg D.bool (show (decide ((↑i : Int) < (↑(List.length a) : Int))) = true from (decide_eq_true (by omega)))) ?_
          refine k_cond_t (by kernel_rfl) ?_
          refine k_skip_seq ?_
          refine k_seq ?_
          refine k_block ?_
          refine k_seq ?_
          refine runs_v (D.sl (ints a) none) (by kernel_rfl) (by kernel_rfl) ?_
          refine runs_v (D.int IntKind.i64 (↑i : Int)) (by kernel_rfl) (by kernel_rfl) ?_
          refine runs_index (a) (eInt) (o := none) (kd := IntKind.i64) (i) (by kernel_rfl) (by kernel_rfl) (by kernel_rfl) (by assumption) (by kernel_rfl) ?_
          refine runs_v (D.int IntKind.i64 a[i]) (by kernel_rfl) (by kernel_rfl) ?_
          refine runs_v (D.int IntKind.i64 p) (by kernel_rfl) (by kernel_rfl) ?_
          refine runs_v (D.bool (a[i] != p)) (by kernel_rfl) (by kernel_rfl) ?_
          refine runs_v (D.bool (a[i] != p)) (by kernel_rfl) (by kernel_rfl) ?_
          refine runs_know 38 (d := .bool (a[i] != p)) (d' := .bool false) (by kernel_rfl) (congrArg D.bool (show (a[i] != p) = false from (bne_eq_false_iff_eq.2 (by assumption)))) ?_
          refine runs_no (by kernel_rfl) ?_
          refine runs_no (by kernel_rfl) ?_
          refine runs_no (by kernel_rfl) ?_
          refine runs_no (by kernel_rfl) ?_
          refine runs_no (by kernel_rfl) ?_
          refine runs_no (by kernel_rfl) ?_
          refine runs_no (by kernel_rfl) ?_
          refine runs_v (D.bool false) (by kernel_rfl) (by kernel_rfl) ?_
          refine k_done ?_
          refine k_skip_seq ?_
          refine k_cond_f (by kernel_rfl) ?_
          refine k_skip_block ?_
          refine k_skip_seq ?_
          refine runs_v (D.int IntKind.i64 (↑i : Int)) (by kernel_rfl) (by kernel_rfl) ?_
          refine runs_ve (D.int IntKind.i64 (IntKind.wrap IntKind.i64 ((↑i : Int) + (1 : Int)))) (.int IntKind.i64 ((i + 1 : Nat) : Int)) (congrArg (D.int IntKind.i64) (show IntKind.wrap IntKind.i64 ((↑i : Int) + (1 : Int)) = ((i + 1 : Nat) : Int) by rw [IntKind.wrap_i64] <;> omega)) (by kernel_rfl) (by kernel_rfl) ?_
          refine runs_assign0 (D.int IntKind.i64 (↑(i + (1 : Nat)) : Int)) (by kernel_rfl) (by kernel_rfl) (by kernel_rfl) ?_
          refine k_done ?_
          refine k_skip_back ?_
          rw [if_neg (fun h => h.1 hne)] at htk
          exact ⟨i + 1, hlt, by omega, by rw [htk]; kernel_rfl, rfl⟩
        by_cases hin : a[i] ∈ out
        · refine k_seq ?_
          refine k_seq ?_
          refine runs_v (D.int IntKind.i64 (↑i : Int)) (by kernel_rfl) (by kernel_rfl) ?_
          refine runs_v (D.sl (ints a) none) (by kernel_rfl) (by kernel_rfl) ?_
          refine runs_ve (D.int IntKind.i64 (↑(List.length (ints a)) : Int)) (.int IntKind.i64 ((↑(List.length a) : Int))) (by simp only [ints, eInt, List.length_map, List.length_append, List.length_cons, List.length_nil]) (by kernel_rfl) (by kernel_rfl) ?_
          refine runs_v (D.bool (decide ((↑i : Int) < (↑(List.length a) : Int)))) (by kernel_rfl) (by kernel_rfl) ?_
          refine k_done ?_
          refine k_skip_seq ?_
          refine runs_know 29 (d := .bool (decide ((↑i : Int) < (↑(List.length a) : Int)))) (d' := .bool true) (by kernel_rfl) (congrArg D.bool (show (decide ((↑i : Int) < (↑(List.length a) : Int))) = true from (decide_eq_true (by omega)))) ?_
          refine k_cond_t (by kernel_rfl) ?_
          refine k_skip_seq ?_
          refine k_seq ?_
          refine k_block ?_
          refine k_seq ?_
          refine runs_v (D.sl (ints a) none) (by kernel_rfl) (by kernel_rfl) ?_
          refine runs_v (D.int IntKind.i64 (↑i : Int)) (by kernel_rfl) (by kernel_rfl) ?_
          refine runs_index (a) (eInt) (o := none) (kd := IntKind.i64) (i) (by kernel_rfl) (by kernel_rfl) (by kernel_rfl) (by assumption) (by kernel_rfl) ?_
          refine runs_v (D.int IntKind.i64 a[i]) (by kernel_rfl) (by kernel_rfl) ?_
          refine runs_v (D.int IntKind.i64 p) (by kernel_rfl) (by kernel_rfl) ?_
          refine runs_v (D.bool (a[i] != p)) (by kernel_rfl) (by kernel_rfl) ?_
          refine runs_v (D.bool (a[i] != p)) (by kernel_rfl) (by kernel_rfl) ?_
          refine runs_know 38 (d := .bool (a[i] != p)) (d' := .bool true) (by kernel_rfl) (congrArg D.bool (show (a[i] != p) = true from (bne_iff_ne.2 (by assumption)))) ?_
          refine runs_v (D.sl (ints out) none) (by kernel_rfl) (by kernel_rfl) ?_
          refine runs_v (D.sl (ints a) none) (by kernel_rfl) (by kernel_rfl) ?_
          refine runs_v (D.int IntKind.i64 (↑i : Int)) (by kernel_rfl) (by kernel_rfl) ?_
          refine runs_index (a) (eInt) (o := none) (kd := IntKind.i64) (i) (by kernel_rfl) (by kernel_rfl) (by kernel_rfl) (by assumption) (by kernel_rfl) ?_
          refine runs_v (D.int IntKind.i64 a[i]) (by kernel_rfl) (by kernel_rfl) ?_
          refine runs_call ([D.sl (ints out) none, D.int IntKind.i64 a[i]]) (by kernel_rfl) (by kernel_rfl) (by kernel_rfl) (by kernel_rfl) (has_ok _ _ _ _ _ (by omega) (by omega)) (by kernel_rfl) ?_
          refine runs_v (D.bool !decide (a[i] ∈ out)) (by kernel_rfl) (by kernel_rfl) ?_
          refine runs_v (D.bool !decide (a[i] ∈ out)) (by kernel_rfl) (by kernel_rfl) ?_
          refine k_done ?_
          refine k_skip_seq ?_
          refine runs_know 46 (d := .bool (!decide (a[i] ∈ out))) (d' := .bool false) (by kernel_rfl) (congrArg D.bool (show (!decide (a[i] ∈ out)) = false from (by simp only [*, decide_true, decide_false, not_false_eq_true, Bool.not_true, Bool.not_false]))) ?_
          refine k_cond_f (by kernel_rfl) ?_
          refine k_skip_block ?_
          refine k_skip_seq ?_
          refine runs_v (D.int IntKind.i64 (↑i : Int)) (by kernel_rfl) (by kernel_rfl) ?_
          refine runs_ve (D.int IntKind.i64 (IntKind.wrap IntKind.i64 ((↑i : Int) + (1 : Int)))) (.int IntKind.i64 ((i + 1 : Nat) : Int)) (congrArg (D.int IntKind.i64) (show IntKind.wrap IntKind.i64 ((↑i : Int) + (1 : Int)) = ((i + 1 : Nat) : Int) by rw [IntKind.wrap_i64] <;> omega)) (by kernel_rfl) (by kernel_rfl) ?_
          refine runs_assign0 (D.int IntKind.i64 (↑(i + (1 : Nat)) : Int)) (by kernel_rfl) (by kernel_rfl) (by kernel_rfl) ?_
          refine k_done ?_
          refine k_skip_back ?_
          rw [if_neg (fun h => h.2 hin)] at htk
          exact ⟨i + 1, hlt, by omega, by rw [htk]; kernel_rfl, rfl⟩
        · refine k_seq ?_
          refine k_seq ?_
          refine runs_v (D.int IntKind.i64 (↑i : Int)) (by kernel_rfl) (by kernel_rfl) ?_
          refine runs_v (D.sl (ints a) none) (by kernel_rfl) (by kernel_rfl) ?_
          refine runs_ve (D.int IntKind.i64 (↑(List.length (ints a)) : Int)) (.int IntKind.i64 ((↑(List.length a) : Int))) (by simp only [ints, eInt, List.length_map, List.length_append, List.length_cons, List.length_nil]) (by kernel_rfl) (by kernel_rfl) ?_
          refine runs_v (D.bool (decide ((↑i : Int) < (↑(List.length a) : Int)))) (by kernel_rfl) (by kernel_rfl) ?_
          refine k_done ?_
          refine k_skip_seq ?_
          refine runs_know 29 (d := .bool (decide ((↑i : Int) < (↑(List.length a) : Int)))) (d' := .bool true) (by kernel_rfl) (congrArg D.bool (show (decide ((↑i : Int) < (↑(List.length a) : Int))) = true from (decide_eq_true (by omega)))) ?_
          refine k_cond_t (by kernel_rfl) ?_
          refine k_skip_seq ?_
          refine k_seq ?_
          refine k_block ?_
          refine k_seq ?_
          refine runs_v (D.sl (ints a) none) (by kernel_rfl) (by kernel_rfl) ?_
          refine runs_v (D.int IntKind.i64 (↑i : Int)) (by kernel_rfl) (by kernel_rfl) ?_
          refine runs_index (a) (eInt) (o := none) (kd := IntKind.i64) (i) (by kernel_rfl) (by kernel_rfl) (by kernel_rfl) (by assumption) (by kernel_rfl) ?_
          refine runs_v (D.int IntKind.i64 a[i]) (by kernel_rfl) (by kernel_rfl) ?_
          refine runs_v (D.int IntKind.i64 p) (by kernel_rfl) (by kernel_rfl) ?_
          refine runs_v (D.bool (a[i] != p)) (by kernel_rfl) (by kernel_rfl) ?_
          refine runs_v (D.bool (a[i] != p)) (by kernel_rfl) (by kernel_rfl) ?_
          refine runs_know 38 (d := .bool (a[i] != p)) (d' := .bool true) (by kernel_rfl) (congrArg D.bool (show (a[i] != p) = true from (bne_iff_ne.2 (by assumption)))) ?_
          refine runs_v (D.sl (ints out) none) (by kernel_rfl) (by kernel_rfl) ?_
          refine runs_v (D.sl (ints a) none) (by kernel_rfl) (by kernel_rfl) ?_
          refine runs_v (D.int IntKind.i64 (↑i : Int)) (by kernel_rfl) (by kernel_rfl) ?_
          refine runs_index (a) (eInt) (o := none) (kd := IntKind.i64) (i) (by kernel_rfl) (by kernel_rfl) (by kernel_rfl) (by assumption) (by kernel_rfl) ?_
          refine runs_v (D.int IntKind.i64 a[i]) (by kernel_rfl) (by kernel_rfl) ?_
          refine runs_call ([D.sl (ints out) none, D.int IntKind.i64 a[i]]) (by kernel_rfl) (by kernel_rfl) (by kernel_rfl) (by kernel_rfl) (has_ok _ _ _ _ _ (by omega) (by omega)) (by kernel_rfl) ?_
          refine runs_v (D.bool !decide (a[i] ∈ out)) (by kernel_rfl) (by kernel_rfl) ?_
          refine runs_v (D.bool !decide (a[i] ∈ out)) (by kernel_rfl) (by kernel_rfl) ?_
          refine k_done ?_
          refine k_skip_seq ?_
          refine runs_know 46 (d := .bool (!decide (a[i] ∈ out))) (d' := .bool true) (by kernel_rfl) (congrArg D.bool (show (!decide (a[i] ∈ out)) = true from (by simp only [*, decide_true, decide_false, not_false_eq_true, Bool.not_true, Bool.not_false]))) ?_
          refine k_cond_t (by kernel_rfl) ?_
          refine runs_steal (D.sl (ints out) (some (3 : Nat))) (by kernel_rfl) (by kernel_rfl) ?_
          refine runs_v (D.sl (ints a) none) (by kernel_rfl) (by kernel_rfl) ?_
          refine runs_v (D.int IntKind.i64 (↑i : Int)) (by kernel_rfl) (by kernel_rfl) ?_
          refine runs_index (a) (eInt) (o := none) (kd := IntKind.i64) (i) (by kernel_rfl) (by kernel_rfl) (by kernel_rfl) (by assumption) (by kernel_rfl) ?_
          refine runs_v (D.int IntKind.i64 a[i]) (by kernel_rfl) (by kernel_rfl) ?_
          refine runs_v (D.sl [[D.int IntKind.i64 a[i]]] (some (3 : Nat))) (by kernel_rfl) (by kernel_rfl) ?_
          refine runs_append (ints out) ([[D.int IntKind.i64 a[i]]]) (ints (out ++ [a[i]])) (by kernel_rfl) (by kernel_rfl) (by kernel_rfl) (by kernel_rfl) (by simp [ints, room]; omega) (by simp [ints, eInt]) ?_
          refine runs_assign (D.sl (ints (out ++ [a[i]])) (some (3 : Nat))) (by kernel_rfl) (by kernel_rfl) ?_
          refine k_done ?_
          refine k_skip_block ?_
          refine k_skip_seq ?_
          refine runs_v (D.int IntKind.i64 (↑i : Int)) (by kernel_rfl) (by kernel_rfl) ?_
          refine runs_ve (D.int IntKind.i64 (IntKind.wrap IntKind.i64 ((↑i : Int) + (1 : Int)))) (.int IntKind.i64 ((i + 1 : Nat) : Int)) (congrArg (D.int IntKind.i64) (show IntKind.wrap IntKind.i64 ((↑i : Int) + (1 : Int)) = ((i + 1 : Nat) : Int) by rw [IntKind.wrap_i64] <;> omega)) (by kernel_rfl) (by kernel_rfl) ?_
          refine runs_assign0 (D.int IntKind.i64 (↑(i + (1 : Nat)) : Int)) (by kernel_rfl) (by kernel_rfl) (by kernel_rfl) ?_
          refine k_done ?_
          refine k_skip_back ?_
          rw [if_pos ⟨hne, hin⟩] at htk
          exact ⟨i + 1, hlt, by omega, by rw [htk]; kernel_rfl, rfl⟩
      · have hia : i = a.length := by omega
        subst hia
        rw [List.take_length] at hout
        refine k_seq ?_
        refine k_seq ?_
        refine runs_v (D.int IntKind.i64 (↑(List.length a) : Int)) (by kernel_rfl) (by kernel_rfl) ?_
        refine runs_v (D.sl (ints a) none) (by kernel_rfl) (by kernel_rfl) ?_
        refine runs_ve (D.int IntKind.i64 (↑(List.length (ints a)) : Int)) (.int IntKind.i64 ((↑(List.length a) : Int))) (by simp only [ints, eInt, List.length_map, List.length_append, List.length_cons, List.length_nil]) (by kernel_rfl) (by kernel_rfl) ?_
        refine runs_v (D.bool (decide ((↑(List.length a) : Int) < (↑(List.length a) : Int)))) (by kernel_rfl) (by kernel_rfl) ?_
        refine k_done ?_
        refine k_skip_seq ?_
        refine runs_know 29 (d := .bool (decide ((↑(List.length a) : Int) < (↑(List.length a) : Int)))) (d' := .bool false) (by kernel_rfl) (congrArg D.bool (show (decide ((↑(List.length a) : Int) < (↑(List.length a) : Int))) = false from (decide_eq_false (by omega)))) ?_
        refine k_cond_f (by kernel_rfl) ?_
        refine k_exit_seq ?_
        refine k_exit_back ?_
        refine k_exit_hit rfl ?_
        refine k_skip_seq ?_
        refine k_seq ?_
        refine k_seq ?_
        refine runs_v (D.int IntKind.i64 (0 : Int)) (by kernel_rfl) (by kernel_rfl) ?_
        refine k_done ?_
        refine k_skip_seq ?_
        refine k_block ?_
        refine k_loop (fun i : Nat => f21 a b p (addAll (negI p) (b.take i) out) (.int .i64 a.length) (.int .i64 i)) (fun _ => σ) (fun i => i ≤ b.length) (fun i => b.length - i) 0 (by kernel_rfl) rfl (by simp) (by omega) ?_
        intro i hi
        have hol2 : (addAll (negI p) (b.take i) out).length ≤ out.length + i := by
          have := addAll_len (negI p) (b.take i) out
          simp at this
          omega
        generalize hout2 : addAll (negI p) (b.take i) out = out2 at hol2
        by_cases hlt : i < b.length
        · have htk : addAll (negI p) (b.take (i + 1)) out = if b[i] ≠ negI p ∧ b[i] ∉ out2 then out2 ++ [b[i]] else out2 := by
            rw [List.take_succ_eq_append_getElem hlt, addAll_snoc, hout2]
          by_cases hne : b[i] = negI p
          · have hne' : b[i] = IntKind.wrap IntKind.i64 (0 - p) := hne
            refine k_seq ?_
            refine k_seq ?_
            refine runs_v (D.int IntKind.i64 (↑i : Int)) (by kernel_rfl) (by kernel_rfl) ?_
            refine runs_v (D.sl (ints b) none) (by kernel_rfl) (by kernel_rfl) ?_
            refine runs_ve (D.int IntKind.i64 (↑(List.length (ints b)) : Int)) (.int IntKind.i64 ((↑(List.length b) : Int))) (by simp only [ints, eInt, List.length_map, List.length_append, List.length_cons, List.length_nil]) (by kernel_rfl) (by kernel_rfl) ?_
            refine runs_v (D.bool (decide ((↑i : Int) < (↑(List.length b) : Int)))) (by kernel_rfl) (by kernel_rfl) ?_
            refine k_done ?_
            refine k_skip_seq ?_
            refine runs_know 57 (d := .bool (decide ((↑i : Int) < (↑(List.length b) : Int)))) (d' := .bool true) (by kernel_rfl) (congrArg D.bool (show (decide ((↑i : Int) < (↑(List.length b) : Int))) = true from (decide_eq_true (by omega)))) ?_
            refine k_cond_t (by kernel_rfl) ?_
            refine k_skip_seq ?_
            refine k_seq ?_
            refine k_block ?_
            refine k_seq ?_
            refine runs_v (D.sl (ints b) none) (by kernel_rfl) (by kernel_rfl) ?_
            refine runs_v (D.int IntKind.i64 (↑i : Int)) (by kernel_rfl) (by kernel_rfl) ?_
            refine runs_index (b) (eInt) (o := none) (kd := IntKind.i64) (i) (by kernel_rfl) (by kernel_rfl) (by kernel_rfl) (by assumption) (by kernel_rfl) ?_
            refine runs_v (D.int IntKind.i64 b[i]) (by kernel_rfl) (by kernel_rfl) ?_
            refine runs_v (D.int IntKind.i64 p) (by kernel_rfl) (by kernel_rfl) ?_
            refine runs_v (D.int IntKind.i64 (IntKind.wrap IntKind.i64 ((0 : Int) - p))) (by kernel_rfl) (by kernel_rfl) ?_
            refine runs_v (D.bool (b[i] != IntKind.wrap IntKind.i64 ((0 : Int) - p))) (by kernel_rfl) (by kernel_rfl) ?_
            refine runs_v (D.bool (b[i] != IntKind.wrap IntKind.i64 ((0 : Int) - p))) (by kernel_rfl) (by kernel_rfl) ?_
            refine runs_know 67 (d := .bool (b[i] != IntKind.wrap IntKind.i64 ((0 : Int) - p))) (d' := .bool false) (by kernel_rfl) (congrArg D.bool (show (b[i] != IntKind.wrap IntKind.i64 ((0 : Int) - p)) = false from (bne_eq_false_iff_eq.2 (by assumption)))) ?_
            refine runs_no (by kernel_rfl) ?_
            refine runs_no (by kernel_rfl) ?_
            refine runs_no (by kernel_rfl) ?_
            refine runs_no (by kernel_rfl) ?_
            refine runs_no (by kernel_rfl) ?_
            refine runs_no (by kernel_rfl) ?_
            refine runs_no (by kernel_rfl) ?_
            refine runs_v (D.bool false) (by kernel_rfl) (by kernel_rfl) ?_
            refine k_done ?_
            refine k_skip_seq ?_
            refine k_cond_f (by kernel_rfl) ?_
            refine k_skip_block ?_
            refine k_skip_seq ?_
            refine runs_v (D.int IntKind.i64 (↑i : Int)) (by kernel_rfl) (by kernel_rfl) ?_
            refine runs_ve (D.int IntKind.i64 (IntKind.wrap IntKind.i64 ((↑i : Int) + (1 : Int)))) (.int IntKind.i64 ((i + 1 : Nat) : Int)) (congrArg (D.int IntKind.i64) (show IntKind.wrap IntKind.i64 ((↑i : Int) + (1 : Int)) = ((i + 1 : Nat) : Int) by rw [IntKind.wrap_i64] <;> omega)) (by kernel_rfl) (by kernel_rfl) ?_
            refine runs_assign0 (D.int IntKind.i64 (↑(i + (1 : Nat)) : Int)) (by kernel_rfl) (by kernel_rfl) (by kernel_rfl) ?_
            refine k_done ?_
            refine k_skip_back ?_
            rw [if_neg (fun h => h.1 hne)] at htk
            exact ⟨i + 1, hlt, by omega, by rw [htk]; kernel_rfl, rfl⟩
          have hne' : ¬ b[i] = IntKind.wrap IntKind.i64 (0 - p) := hne
          by_cases hin : b[i] ∈ out2
          · refine k_seq ?_
            refine k_seq ?_
            refine runs_v (D.int IntKind.i64 (↑i : Int)) (by kernel_rfl) (by kernel_rfl) ?_
            refine runs_v (D.sl (ints b) none) (by kernel_rfl) (by kernel_rfl) ?_
            refine runs_ve (D.int IntKind.i64 (↑(List.length (ints b)) : Int)) (.int IntKind.i64 ((↑(List.length b) : Int))) (by simp only [ints, eInt, List.length_map, List.length_append, List.length_cons, List.length_nil]) (by kernel_rfl) (by kernel_rfl) ?_
            refine runs_v (D.bool (decide ((↑i : Int) < (↑(List.length b) : Int)))) (by kernel_rfl) (by kernel_rfl) ?_
            refine k_done ?_
            refine k_skip_seq ?_
            refine runs_know 57 (d := .bool (decide ((↑i : Int) < (↑(List.length b) : Int)))) (d' := .bool true) (by kernel_rfl) (congrArg D.bool (show (decide ((↑i : Int) < (↑(List.length b) : Int))) = true from (decide_eq_true (by omega)))) ?_
            refine k_cond_t (by kernel_rfl) ?_
            refine k_skip_seq ?_
            refine k_seq ?_
            refine k_block ?_
            refine k_seq ?_
            refine runs_v (D.sl (ints b) none) (by kernel_rfl) (by kernel_rfl) ?_
            refine runs_v (D.int IntKind.i64 (↑i : Int)) (by kernel_rfl) (by kernel_rfl) ?_
            refine runs_index (b) (eInt) (o := none) (kd := IntKind.i64) (i) (by kernel_rfl) (by kernel_rfl) (by kernel_rfl) (by assumption) (by kernel_rfl) ?_
            refine runs_v (D.int IntKind.i64 b[i]) (by kernel_rfl) (by kernel_rfl) ?_
            refine runs_v (D.int IntKind.i64 p) (by kernel_rfl) (by kernel_rfl) ?_
            refine runs_v (D.int IntKind.i64 (IntKind.wrap IntKind.i64 ((0 : Int) - p))) (by kernel_rfl) (by kernel_rfl) ?_
            refine runs_v (D.bool (b[i] != IntKind.wrap IntKind.i64 ((0 : Int) - p))) (by kernel_rfl) (by kernel_rfl) ?_
            refine runs_v (D.bool (b[i] != IntKind.wrap IntKind.i64 ((0 : Int) - p))) (by kernel_rfl) (by kernel_rfl) ?_
            refine runs_know 67 (d := .bool (b[i] != IntKind.wrap IntKind.i64 ((0 : Int) - p))) (d' := .bool true) (by kernel_rfl) (congrArg D.bool (show (b[i] != IntKind.wrap IntKind.i64 ((0 : Int) - p)) = true from (bne_iff_ne.2 (by assumption)))) ?_
            refine runs_v (D.sl (ints out2) none) (by kernel_rfl) (by kernel_rfl) ?_
            refine runs_v (D.sl (ints b) none) (by kernel_rfl) (by kernel_rfl) ?_
            refine runs_v (D.int IntKind.i64 (↑i : Int)) (by kernel_rfl) (by kernel_rfl) ?_
            refine runs_index (b) (eInt) (o := none) (kd := IntKind.i64) (i) (by kernel_rfl) (by kernel_rfl) (by kernel_rfl) (by assumption) (by kernel_rfl) ?_
            refine runs_v (D.int IntKind.i64 b[i]) (by kernel_rfl) (by kernel_rfl) ?_
            refine runs_call ([D.sl (ints out2) none, D.int IntKind.i64 b[i]]) (by kernel_rfl) (by kernel_rfl) (by kernel_rfl) (by kernel_rfl) (has_ok _ _ _ _ _ (by omega) (by omega)) (by kernel_rfl) ?_
            refine runs_v (D.bool !decide (b[i] ∈ out2)) (by kernel_rfl) (by kernel_rfl) ?_
            refine runs_v (D.bool !decide (b[i] ∈ out2)) (by kernel_rfl) (by kernel_rfl) ?_
            refine k_done ?_
            refine k_skip_seq ?_
            refine runs_know 75 (d := .bool (!decide (b[i] ∈ out2))) (d' := .bool false) (by kernel_rfl) (congrArg D.bool (show (!decide (b[i] ∈ out2)) = false from (by simp only [*, decide_true, decide_false, not_false_eq_true, Bool.not_true, Bool.not_false]))) ?_
            refine k_cond_f (by kernel_rfl) ?_
            refine k_skip_block ?_
            refine k_skip_seq ?_
            refine runs_v (D.int IntKind.i64 (↑i : Int)) (by kernel_rfl) (by kernel_rfl) ?_
            refine runs_ve (D.int IntKind.i64 (IntKind.wrap IntKind.i64 ((↑i : Int) + (1 : Int)))) (.int IntKind.i64 ((i + 1 : Nat) : Int)) (congrArg (D.int IntKind.i64) (show IntKind.wrap IntKind.i64 ((↑i : Int) + (1 : Int)) = ((i + 1 : Nat) : Int) by rw [IntKind.wrap_i64] <;> omega)) (by kernel_rfl) (by kernel_rfl) ?_
            refine runs_assign0 (D.int IntKind.i64 (↑(i + (1 : Nat)) : Int)) (by kernel_rfl) (by kernel_rfl) (by kernel_rfl) ?_
            refine k_done ?_
            refine k_skip_back ?_
            rw [if_neg (fun h => h.2 hin)] at htk
            exact ⟨i + 1, hlt, by omega, by rw [htk]; kernel_rfl, rfl⟩
          · refine k_seq ?_
            refine k_seq ?_
            refine runs_v (D.int IntKind.i64 (↑i : Int)) (by kernel_rfl) (by kernel_rfl) ?_
            refine runs_v (D.sl (ints b) none) (by kernel_rfl) (by kernel_rfl) ?_
            refine runs_ve (D.int IntKind.i64 (↑(List.length (ints b)) : Int)) (.int IntKind.i64 ((↑(List.length b) : Int))) (by simp only [ints, eInt, List.length_map, List.length_append, List.length_cons, List.length_nil]) (by kernel_rfl) (by kernel_rfl) ?_
            refine runs_v (D.bool (decide ((↑i : Int) < (↑(List.length b) : Int)))) (by kernel_rfl) (by kernel_rfl) ?_
            refine k_done ?_
            refine k_skip_seq ?_
            refine runs_know 57 (d := .bool (decide ((↑i : Int) < (↑(List.length b) : Int)))) (d' := .bool true) (by kernel_rfl) (congrArg D.bool (show (decide ((↑i : Int) < (↑(List.length b) : Int))) = true from (decide_eq_true (by omega)))) ?_
            refine k_cond_t (by kernel_rfl) ?_
            refine k_skip_seq ?_
            refine k_seq ?_
            refine k_block ?_
            refine k_seq ?_
            refine runs_v (D.sl (ints b) none) (by kernel_rfl) (by kernel_rfl) ?_
            refine runs_v (D.int IntKind.i64 (↑i : Int)) (by kernel_rfl) (by kernel_rfl) ?_
            refine runs_index (b) (eInt) (o := none) (kd := IntKind.i64) (i) (by kernel_rfl) (by kernel_rfl) (by kernel_rfl) (by assumption) (by kernel_rfl) ?_
            refine runs_v (D.int IntKind.i64 b[i]) (by kernel_rfl) (by kernel_rfl) ?_
            refine runs_v (D.int IntKind.i64 p) (by kernel_rfl) (by kernel_rfl) ?_
            refine runs_v (D.int IntKind.i64 (IntKind.wrap IntKind.i64 ((0 : Int) - p))) (by kernel_rfl) (by kernel_rfl) ?_
            refine runs_v (D.bool (b[i] != IntKind.wrap IntKind.i64 ((0 : Int) - p))) (by kernel_rfl) (by kernel_rfl) ?_
            refine runs_v (D.bool (b[i] != IntKind.wrap IntKind.i64 ((0 : Int) - p))) (by kernel_rfl) (by kernel_rfl) ?_
            refine runs_know 67 (d := .bool (b[i] != IntKind.wrap IntKind.i64 ((0 : Int) - p))) (d' := .bool true) (by kernel_rfl) (congrArg D.bool (show (b[i] != IntKind.wrap IntKind.i64 ((0 : Int) - p)) = true from (bne_iff_ne.2 (by assumption)))) ?_
            refine runs_v (D.sl (ints out2) none) (by kernel_rfl) (by kernel_rfl) ?_
            refine runs_v (D.sl (ints b) none) (by kernel_rfl) (by kernel_rfl) ?_
            refine runs_v (D.int IntKind.i64 (↑i : Int)) (by kernel_rfl) (by kernel_rfl) ?_
            refine runs_index (b) (eInt) (o := none) (kd := IntKind.i64) (i) (by kernel_rfl) (by kernel_rfl) (by kernel_rfl) (by assumption) (by kernel_rfl) ?_
            refine runs_v (D.int IntKind.i64 b[i]) (by kernel_rfl) (by kernel_rfl) ?_
            refine runs_call ([D.sl (ints out2) none, D.int IntKind.i64 b[i]]) (by kernel_rfl) (by kernel_rfl) (by kernel_rfl) (by kernel_rfl) (has_ok _ _ _ _ _ (by omega) (by omega)) (by kernel_rfl) ?_
            refine runs_v (D.bool !decide (b[i] ∈ out2)) (by kernel_rfl) (by kernel_rfl) ?_
            refine runs_v (D.bool !decide (b[i] ∈ out2)) (by kernel_rfl) (by kernel_rfl) ?_
            refine k_done ?_
            refine k_skip_seq ?_
            refine runs_know 75 (d := .bool (!decide (b[i] ∈ out2))) (d' := .bool true) (by kernel_rfl) (congrArg D.bool (show (!decide (b[i] ∈ out2)) = true from (by simp only [*, decide_true, decide_false, not_false_eq_true, Bool.not_true, Bool.not_false]))) ?_
            refine k_cond_t (by kernel_rfl) ?_
            refine runs_steal (D.sl (ints out2) (some (3 : Nat))) (by kernel_rfl) (by kernel_rfl) ?_
            refine runs_v (D.sl (ints b) none) (by kernel_rfl) (by kernel_rfl) ?_
            refine runs_v (D.int IntKind.i64 (↑i : Int)) (by kernel_rfl) (by kernel_rfl) ?_
            refine runs_index (b) (eInt) (o := none) (kd := IntKind.i64) (i) (by kernel_rfl) (by kernel_rfl) (by kernel_rfl) (by assumption) (by kernel_rfl) ?_
            refine runs_v (D.int IntKind.i64 b[i]) (by kernel_rfl) (by kernel_rfl) ?_
            refine runs_v (D.sl [[D.int IntKind.i64 b[i]]] (some (3 : Nat))) (by kernel_rfl) (by kernel_rfl) ?_
            refine runs_append (ints out2) ([[D.int IntKind.i64 b[i]]]) (ints (out2 ++ [b[i]])) (by kernel_rfl) (by kernel_rfl) (by kernel_rfl) (by kernel_rfl) (by simp [ints, room]; omega) (by simp [ints, eInt]) ?_
            refine runs_assign (D.sl (ints (out2 ++ [b[i]])) (some (3 : Nat))) (by kernel_rfl) (by kernel_rfl) ?_
            refine k_done ?_
            refine k_skip_block ?_
            refine k_skip_seq ?_
            refine runs_v (D.int IntKind.i64 (↑i : Int)) (by kernel_rfl) (by kernel_rfl) ?_
            refine runs_ve (D.int IntKind.i64 (IntKind.wrap IntKind.i64 ((↑i : Int) + (1 : Int)))) (.int IntKind.i64 ((i + 1 : Nat) : Int)) (congrArg (D.int IntKind.i64) (show IntKind.wrap IntKind.i64 ((↑i : Int) + (1 : Int)) = ((i + 1 : Nat) : Int) by rw [IntKind.wrap_i64] <;> omega)) (by kernel_rfl) (by kernel_rfl) ?_
            refine runs_assign0 (D.int IntKind.i64 (↑(i + (1 : Nat)) : Int)) (by kernel_rfl) (by kernel_rfl) (by kernel_rfl) ?_
            refine k_done ?_
            refine k_skip_back ?_
            rw [if_pos ⟨hne, hin⟩] at htk
            exact ⟨i + 1, hlt, by omega, by rw [htk]; kernel_rfl, rfl⟩
        · have hia : i = b.length := by omega
          subst hia
          rw [List.take_length] at hout2
          refine k_seq ?_
          refine k_seq ?_
          refine runs_v (D.int IntKind.i64 (↑(List.length b) : Int)) (by kernel_rfl) (by kernel_rfl) ?_
          refine runs_v (D.sl (ints b) none) (by kernel_rfl) (by kernel_rfl) ?_
          refine runs_ve (D.int IntKind.i64 (↑(List.length (ints b)) : Int)) (.int IntKind.i64 ((↑(List.length b) : Int))) (by simp only [ints, eInt, List.length_map, List.length_append, List.length_cons, List.length_nil]) (by kernel_rfl) (by kernel_rfl) ?_
          refine runs_v (D.bool (decide ((↑(List.length b) : Int) < (↑(List.length b) : Int)))) (by kernel_rfl) (by kernel_rfl) ?_
          refine k_done ?_
          refine k_skip_seq ?_
          refine runs_know 57 (d := .bool (decide ((↑(List.length b) : Int) < (↑(List.length b) : Int)))) (d' := .bool false) (by kernel_rfl) (congrArg D.bool (show (decide ((↑(List.length b) : Int) < (↑(List.length b) : Int))) = false from (decide_eq_false (by omega)))) ?_
          refine k_cond_f (by kernel_rfl) ?_
          refine k_exit_seq ?_
          refine k_exit_back ?_
          refine k_exit_hit rfl ?_
          refine k_skip_seq ?_
          refine k_seq ?_
          refine runs_v (D.sl (ints out2) none) (by kernel_rfl) (by kernel_rfl) ?_
          refine runs_assign0 (D.sl (ints out2) none) (by kernel_rfl) (by kernel_rfl) (by kernel_rfl) ?_
          refine runs_v (D.int IntKind.i64 (0 : Int)) (by kernel_rfl) (by kernel_rfl) ?_
          refine k_done ?_
          refine k_skip_seq ?_
          refine k_ret ?_
          refine ⟨.inr rfl, rfl, ?_⟩
          have hm : makes a b p := ⟨h0, h1, h2⟩
          rw [if_pos hm, if_pos hm]
          unfold made
          rw [hout, hout2]
          show _ = _
          kernel_rfl
    · have h2' : ¬ IntKind.wrap IntKind.i64 (0 - p) ∈ b := h2
      refine k_seq ?_
      refine runs_v (D.sl [] (some (3 : Nat))) (by kernel_rfl) (by kernel_rfl) ?_
      refine runs_v (D.int IntKind.i64 (0 : Int)) (by kernel_rfl) (by kernel_rfl) ?_
      refine k_done ?_
      refine k_skip_seq ?_
      refine k_seq ?_
      refine k_seq ?_
      refine runs_v (D.int IntKind.i64 p) (by kernel_rfl) (by kernel_rfl) ?_
      refine runs_v (D.bool (p == (0 : Int))) (by kernel_rfl) (by kernel_rfl) ?_
      refine runs_v (D.bool (p == (0 : Int))) (by kernel_rfl) (by kernel_rfl) ?_
      refine runs_know 13 (d := .bool (p == (0 : Int))) (d' := .bool false) (by kernel_rfl) (congrArg D.bool (show (p == (0 : Int)) = false from (decide_eq_false (by assumption)))) ?_
      refine runs_v (D.sl (ints a) none) (by kernel_rfl) (by kernel_rfl) ?_
      refine runs_v (D.int IntKind.i64 p) (by kernel_rfl) (by kernel_rfl) ?_
      refine runs_call ([D.sl (ints a) none, D.int IntKind.i64 p]) (by kernel_rfl) (by kernel_rfl) (by kernel_rfl) (by kernel_rfl) (has_ok _ _ _ _ _ (by omega) (by omega)) (by kernel_rfl) ?_
      refine runs_v (D.bool !decide (p ∈ a)) (by kernel_rfl) (by kernel_rfl) ?_
      refine runs_v (D.bool !decide (p ∈ a)) (by kernel_rfl) (by kernel_rfl) ?_
      refine runs_v (D.bool !decide (p ∈ a)) (by kernel_rfl) (by kernel_rfl) ?_
      refine runs_know 19 (d := .bool (!decide (p ∈ a))) (d' := .bool false) (by kernel_rfl) (congrArg D.bool (show (!decide (p ∈ a)) = false from (by simp only [*, decide_true, decide_false, not_false_eq_true, Bool.not_true, Bool.not_false]))) ?_
      refine runs_v (D.sl (ints b) none) (by kernel_rfl) (by kernel_rfl) ?_
      refine runs_v (D.int IntKind.i64 p) (by kernel_rfl) (by kernel_rfl) ?_
      refine runs_v (D.int IntKind.i64 (IntKind.wrap IntKind.i64 ((0 : Int) - p))) (by kernel_rfl) (by kernel_rfl) ?_
      refine runs_call ([D.sl (ints b) none, D.int IntKind.i64 (IntKind.wrap IntKind.i64 ((0 : Int) - p))]) (by kernel_rfl) (by kernel_rfl) (by kernel_rfl) (by kernel_rfl) (has_ok _ _ _ _ _ (by omega) (by omega)) (by kernel_rfl) ?_
      refine runs_v (D.bool !decide (IntKind.wrap IntKind.i64 ((0 : Int) - p) ∈ b)) (by kernel_rfl) (by kernel_rfl) ?_
      refine runs_v (D.bool !decide (IntKind.wrap IntKind.i64 ((0 : Int) - p) ∈ b)) (by kernel_rfl) (by kernel_rfl) ?_
      refine k_done ?_
      refine k_skip_seq ?_
      refine runs_know 25 (d := .bool (!decide (IntKind.wrap IntKind.i64 ((0 : Int) - p) ∈ b))) (d' := .bool true) (by kernel_rfl) (congrArg D.bool (show (!decide (IntKind.wrap IntKind.i64 ((0 : Int) - p) ∈ b)) = true from (by simp only [*, decide_true, decide_false, not_false_eq_true, Bool.not_true, Bool.not_false]))) ?_
      refine k_cond_t (by kernel_rfl) ?_
      refine k_seq ?_
      refine runs_v (D.sl [] (some (3 : Nat))) (by kernel_rfl) (by kernel_rfl) ?_
      refine runs_v (D.int IntKind.i64 (50 : Int)) (by kernel_rfl) (by kernel_rfl) ?_
      refine k_done ?_
      refine k_skip_seq ?_
      refine k_ret ?_
      refine ⟨.inr rfl, rfl, ?_⟩
      rw [if_neg (fun h => h2 h.2.2), if_neg (fun h => h2 h.2.2)]
      show _ = _
      kernel_rfl
  · refine k_seq ?_
    refine runs_v (D.sl [] (some (3 : Nat))) (by kernel_rfl) (by kernel_rfl) ?_
    refine runs_v (D.int IntKind.i64 (0 : Int)) (by kernel_rfl) (by kernel_rfl) ?_
    refine k_done ?_
    refine k_skip_seq ?_
    refine k_seq ?_
    refine k_seq ?_
    refine runs_v (D.int IntKind.i64 p) (by kernel_rfl) (by kernel_rfl) ?_
    refine runs_v (D.bool (p == (0 : Int))) (by kernel_rfl) (by kernel_rfl) ?_
    refine runs_v (D.bool (p == (0 : Int))) (by kernel_rfl) (by kernel_rfl) ?_
    refine runs_know 13 (d := .bool (p == (0 : Int))) (d' := .bool false) (by kernel_rfl) (congrArg D.bool (show (p == (0 : Int)) = false from (decide_eq_false (by assumption)))) ?_
    refine runs_v (D.sl (ints a) none) (by kernel_rfl) (by kernel_rfl) ?_
    refine runs_v (D.int IntKind.i64 p) (by kernel_rfl) (by kernel_rfl) ?_
    refine runs_call ([D.sl (ints a) none, D.int IntKind.i64 p]) (by kernel_rfl) (by kernel_rfl) (by kernel_rfl) (by kernel_rfl) (has_ok _ _ _ _ _ (by omega) (by omega)) (by kernel_rfl) ?_
    refine runs_v (D.bool !decide (p ∈ a)) (by kernel_rfl) (by kernel_rfl) ?_
    refine runs_v (D.bool !decide (p ∈ a)) (by kernel_rfl) (by kernel_rfl) ?_
    refine runs_v (D.bool !decide (p ∈ a)) (by kernel_rfl) (by kernel_rfl) ?_
    refine runs_know 19 (d := .bool (!decide (p ∈ a))) (d' := .bool true) (by kernel_rfl) (congrArg D.bool (show (!decide (p ∈ a)) = true from (by simp only [*, decide_true, decide_false, not_false_eq_true, Bool.not_true, Bool.not_false]))) ?_
    refine runs_no (by kernel_rfl) ?_
    refine runs_no (by kernel_rfl) ?_
    refine runs_no (by kernel_rfl) ?_
    refine runs_no (by kernel_rfl) ?_
    refine runs_no (by kernel_rfl) ?_
    refine runs_v (D.bool true) (by kernel_rfl) (by kernel_rfl) ?_
    refine k_done ?_
    refine k_skip_seq ?_
    refine k_cond_t (by kernel_rfl) ?_
    refine k_seq ?_
    refine runs_v (D.sl [] (some (3 : Nat))) (by kernel_rfl) (by kernel_rfl) ?_
    refine runs_v (D.int IntKind.i64 (50 : Int)) (by kernel_rfl) (by kernel_rfl) ?_
    refine k_done ?_
    refine k_skip_seq ?_
    refine k_ret ?_
    refine ⟨.inr rfl, rfl, ?_⟩
    rw [if_neg (fun h => h1 h.2.1), if_neg (fun h => h1 h.2.1)]
    show _ = _
    kernel_rfl
end Go.Abs.B
