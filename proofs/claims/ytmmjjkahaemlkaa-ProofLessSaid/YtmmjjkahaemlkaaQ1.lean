import Derived.Test.YtmmjjkahaemlkaaKont
import Derived.Test.YtmmjjkahaemlkaaCodeB
import Derived.Laws.BitsLemmas
set_option linter.unusedVariables false
set_option linter.unusedSimpArgs false
/-
  Functions of layer 21 and their values.
-/
namespace Go.Abs.B
open Go Go.Abs
set_option maxRecDepth 8000
attribute [local irreducible] callN runC evalOp

def f34 (c : List Int) (v i : Int) : Fr := Fr.mk [.sl (ints c) none, .int .i64 v, .junk, .junk, .bool false, .int .i64 i, .junk, .junk, .junk, .junk, .junk, .junk, .junk, .junk, .junk, .junk, .junk, .junk] (List.replicate 18 none) []
theorem has_ok (n : Nat) (c : List Int) (v : Int) (o : Option Nat) (σ : St) (hn : c.length < n) (hc : c.length < 4611686018427387904) :
    callN T (n + 1) 34 [.sl (ints c) o, .int .i64 v] σ = some (.bool (decide (v ∈ c)), σ) := by
  refine call_of (m := m34) rfl rfl (by decide) (k_start ?_)
  unfold m34
  refine k_seq ?_
  refine rv (D.bool false) ?_
  refine k_done (k_skip_seq (k_seq (k_seq ?_)))
  refine rv (D.int IntKind.i64 (0 : Int)) ?_
  refine k_done (k_skip_seq (k_block ?_))
  refine k_loop (fun i : Nat => f34 c v i) (fun _ => σ) (fun i => i ≤ c.length ∧ v ∉ c.take i) (fun i => c.length - i) 0 (by kernel_rfl) rfl (by simp) (by omega) ?_
  rintro i ⟨hi, hv⟩
  by_cases hlt : i < c.length
  · refine k_seq (k_seq ?_)
    refine rv (D.int IntKind.i64 (↑i : Int)) ?_
    refine rv (D.sl (ints c) none) ?_
    refine rve (D.int IntKind.i64 (↑(List.length (ints c)) : Int)) (.int IntKind.i64 ((↑(List.length c) : Int))) (by simp only [ints, eInt, List.length_map, List.length_append, List.length_cons, List.length_nil]) ?_
    refine rv (D.bool (decide ((↑i : Int) < (↑(List.length c) : Int)))) ?_
    refine k_done (k_skip_seq ?_)
    refine rkn 9 (decide ((↑i : Int) < (↑(List.length c) : Int))) true (decide_eq_true (by omega)) ?_
    refine kct (k_skip_seq (k_seq (k_block (k_seq ?_))))
    refine rv (D.sl (ints c) none) ?_
    refine rv (D.int IntKind.i64 (↑i : Int)) ?_
    refine runs_index (c) (eInt) (o := none) (kd := IntKind.i64) (i) (by kernel_rfl) (by kernel_rfl) (by kernel_rfl) (by assumption) (by kernel_rfl) ?_
    refine rv (D.int IntKind.i64 c[i]) ?_
    refine rv (D.int IntKind.i64 v) ?_
    refine rv (D.bool (c[i] == v)) ?_
    refine k_done (k_skip_seq ?_)
    by_cases heq : c[i] = v
    · refine rkn 17 (c[i] == v) true (decide_eq_true (by assumption)) ?_
      refine kct (k_seq ?_)
      refine rv (D.bool true) ?_
      refine k_done (k_skip_seq (k_ret ?_))
      refine ⟨.inr rfl, rfl, ?_⟩
      have : v ∈ c := by rw [← heq]; exact List.getElem_mem hlt
      rw [decide_eq_true this]
      show _ = _
      kernel_rfl
    · refine rkn 17 (c[i] == v) false (decide_eq_false (by assumption)) ?_
      refine kcf (k_skip_block (k_skip_seq ?_))
      refine rv (D.int IntKind.i64 (↑i : Int)) ?_
      refine rve (D.int IntKind.i64 (IntKind.wrap IntKind.i64 ((↑i : Int) + (1 : Int)))) (.int IntKind.i64 ((i + 1 : Nat) : Int)) (congrArg (D.int IntKind.i64) (show IntKind.wrap IntKind.i64 ((↑i : Int) + (1 : Int)) = ((i + 1 : Nat) : Int) by rw [IntKind.wrap_i64] <;> omega)) ?_
      refine ra0 (D.int IntKind.i64 (↑(i + (1 : Nat)) : Int)) ?_
      refine k_done (k_skip_back ?_)
      refine ⟨i + 1, ⟨hlt, ?_⟩, by omega, by kernel_rfl, rfl⟩
      rw [List.take_succ_eq_append_getElem hlt]
      simp only [List.mem_append, List.mem_singleton, not_or]
      exact ⟨hv, fun h => heq h.symm⟩
  · refine k_seq (k_seq ?_)
    refine rv (D.int IntKind.i64 (↑i : Int)) ?_
    refine rv (D.sl (ints c) none) ?_
    refine rve (D.int IntKind.i64 (↑(List.length (ints c)) : Int)) (.int IntKind.i64 ((↑(List.length c) : Int))) (by simp only [ints, eInt, List.length_map, List.length_append, List.length_cons, List.length_nil]) ?_
    refine rv (D.bool (decide ((↑i : Int) < (↑(List.length c) : Int)))) ?_
    refine k_done (k_skip_seq ?_)
    refine rkn 9 (decide ((↑i : Int) < (↑(List.length c) : Int))) false (decide_eq_false (by omega)) ?_
    refine kcf (k_exit_seq (k_exit_back (k_exit_hit rfl (k_skip_seq (k_seq ?_)))))
    refine rv (D.bool false) ?_
    refine k_done (k_skip_seq (k_ret ?_))
    refine ⟨.inr rfl, rfl, ?_⟩
    have : v ∉ c := by
      rwa [List.take_of_length_le (by omega)] at hv
    rw [decide_eq_false this]
    show _ = _
    kernel_rfl

/-- What two clauses make: the first's letters but one, each once. -/
def addAll (w : Int) : List Int → List Int → List Int
  | [], out => out
  | x :: xs, out => addAll w xs (if x ≠ w ∧ x ∉ out then out ++ [x] else out)

theorem addAll_snoc (w : Int) : ∀ (xs : List Int) (x : Int) (out : List Int), addAll w (xs ++ [x]) out = (let o := addAll w xs out; if x ≠ w ∧ x ∉ o then o ++ [x] else o)
  | [], x, out => rfl
  | y :: ys, x, out => by
    simp only [List.cons_append, addAll]
    exact addAll_snoc w ys x _

theorem addAll_len (w : Int) : ∀ (xs out : List Int), (addAll w xs out).length ≤ out.length + xs.length
  | [], out => by simp [addAll]
  | x :: xs, out => by
    simp only [addAll, List.length_cons]
    have := addAll_len w xs (if x ≠ w ∧ x ∉ out then out ++ [x] else out)
    by_cases hc : x ≠ w ∧ x ∉ out
    · rw [if_pos hc] at this ⊢
      simp at this
      omega
    · rw [if_neg hc] at this ⊢
      omega

def negI (p : Int) : Int := IntKind.i64.wrap (0 - p)
def made (a b : List Int) (p : Int) : List Int := addAll (negI p) b (addAll p a [])
def makes (a b : List Int) (p : Int) : Prop := p ≠ 0 ∧ p ∈ a ∧ negI p ∈ b
instance (a b : List Int) (p : Int) : Decidable (makes a b p) := by unfold makes; infer_instance
def makeR (a b : List Int) (p : Int) : List Int × Int := if makes a b p then (made a b p, 0) else ([], 50)

def f21 (a b : List Int) (p : Int) (out : List Int) (i j : D) : Fr :=
  ⟨[.sl (ints a) none, .sl (ints b) none, .int .i64 p, .junk, .junk, .junk, .sl [] (some 3), .int .i64 0, .sl (ints out) (some 3), i, j] ++ List.replicate 73 .junk, List.replicate 84 none, []⟩

theorem refMake_ok (n : Nat) (a b : List Int) (p : Int) (o1 o2 : Option Nat) (σ : St) (hn : a.length + b.length < n) (hc : a.length + b.length < 4096) :
    callN T (n + 2) 21 [.sl (ints a) o1, .sl (ints b) o2, .int .i64 p] σ = some (.tup [.sl (ints (makeR a b p).1) none, .int .i64 (makeR a b p).2], σ) := by
  refine call_of (m := m21) rfl rfl (by decide) (k_start ?_)
  unfold m21
  have ht : (makeR a b p).1 = (if makes a b p then made a b p else []) := by unfold makeR; split <;> rfl
  have he : (makeR a b p).2 = (if makes a b p then 0 else 50) := by unfold makeR; split <;> rfl
  rw [ht, he]
  by_cases h0 : p = 0
  · refine k_seq ?_
    refine rv (D.sl [] (some (3 : Nat))) ?_
    refine rv (D.int IntKind.i64 (0 : Int)) ?_
    refine k_done (k_skip_seq (k_seq (k_seq ?_)))
    refine rv (D.int IntKind.i64 p) ?_
    refine rv (D.bool (p == (0 : Int))) ?_
    refine rv (D.bool (p == (0 : Int))) ?_
    refine rkn 13 (p == (0 : Int)) true (decide_eq_true (by assumption)) ?_
    refine rno (rno (rno (rno ?_)))
    refine rv (D.bool true) ?_
    refine rv (D.bool true) ?_
    refine rno (rno (rno (rno (rno ?_))))
    refine rv (D.bool true) ?_
    refine k_done (k_skip_seq (kct (k_seq ?_)))
    refine rv (D.sl [] (some (3 : Nat))) ?_
    refine rv (D.int IntKind.i64 (50 : Int)) ?_
    refine k_done (k_skip_seq (k_ret ?_))
    refine ⟨.inr rfl, rfl, ?_⟩
    rw [if_neg (fun h => h.1 h0), if_neg (fun h => h.1 h0)]
    show _ = _
    kernel_rfl
  by_cases h1 : p ∈ a
  · by_cases h2 : negI p ∈ b
    · have h2' : IntKind.wrap IntKind.i64 (0 - p) ∈ b := h2
      refine k_seq ?_
      refine rv (D.sl [] (some (3 : Nat))) ?_
      refine rv (D.int IntKind.i64 (0 : Int)) ?_
      refine k_done (k_skip_seq (k_seq (k_seq ?_)))
      refine rv (D.int IntKind.i64 p) ?_
      refine rv (D.bool (p == (0 : Int))) ?_
      refine rv (D.bool (p == (0 : Int))) ?_
      refine rkn 13 (p == (0 : Int)) false (decide_eq_false (by assumption)) ?_
      refine rv (D.sl (ints a) none) ?_
      refine rv (D.int IntKind.i64 p) ?_
      refine runs_call ([D.sl (ints a) none, D.int IntKind.i64 p]) (by kernel_rfl) (by kernel_rfl) (by kernel_rfl) (by kernel_rfl) (has_ok _ _ _ _ _ (by omega) (by omega)) (by kernel_rfl) ?_
      refine rv (D.bool !decide (p ∈ a)) ?_
      refine rv (D.bool !decide (p ∈ a)) ?_
      refine rv (D.bool !decide (p ∈ a)) ?_
      refine rkn 19 (!decide (p ∈ a)) false (by simp only [*, decide_true, decide_false, not_false_eq_true, Bool.not_true, Bool.not_false]) ?_
      refine rv (D.sl (ints b) none) ?_
      refine rv (D.int IntKind.i64 p) ?_
      refine rv (D.int IntKind.i64 (IntKind.wrap IntKind.i64 ((0 : Int) - p))) ?_
      refine runs_call ([D.sl (ints b) none, D.int IntKind.i64 (IntKind.wrap IntKind.i64 ((0 : Int) - p))]) (by kernel_rfl) (by kernel_rfl) (by kernel_rfl) (by kernel_rfl) (has_ok _ _ _ _ _ (by omega) (by omega)) (by kernel_rfl) ?_
      refine rv (D.bool !decide (IntKind.wrap IntKind.i64 ((0 : Int) - p) ∈ b)) ?_
      refine rv (D.bool !decide (IntKind.wrap IntKind.i64 ((0 : Int) - p) ∈ b)) ?_
      refine k_done (k_skip_seq ?_)
      refine rkn 25 (!decide (IntKind.wrap IntKind.i64 ((0 : Int) - p) ∈ b)) false (by simp only [*, decide_true, decide_false, not_false_eq_true, Bool.not_true, Bool.not_false]) ?_
      refine kcf (k_skip_seq (k_seq ?_))
      refine rv (D.sl [] (some (3 : Nat))) ?_
      refine k_done (k_skip_seq (k_seq (k_seq ?_)))
      refine rv (D.int IntKind.i64 (0 : Int)) ?_
      refine k_done (k_skip_seq (k_block ?_))
      refine k_loop (fun i : Nat => f21 a b p (addAll p (a.take i) []) (.int .i64 i) .junk) (fun _ => σ) (fun i => i ≤ a.length) (fun i => a.length - i) 0 (by kernel_rfl) rfl (by simp) (by omega) ?_
      intro i hi
      have hol : (addAll p (a.take i) []).length ≤ i := by
        have := addAll_len p (a.take i) []
        simp at this
        omega
      generalize hout : addAll p (a.take i) [] = out at hol
      by_cases hlt : i < a.length
      · have htk : addAll p (a.take (i + 1)) [] = if a[i] ≠ p ∧ a[i] ∉ out then out ++ [a[i]] else out := by
          rw [List.take_succ_eq_append_getElem hlt, addAll_snoc, hout]
        by_cases hne : a[i] = p
        · refine k_seq (k_seq ?_)
          refine rv (D.int IntKind.i64 (↑i : Int)) ?_
          refine rv (D.sl (ints a) none) ?_
          refine rve (D.int IntKind.i64 (↑(List.length (ints a)) : Int)) (.int IntKind.i64 ((↑(List.length a) : Int))) (by simp only [ints, eInt, List.length_map, List.length_append, List.length_cons, List.length_nil]) ?_
          refine rv (D.bool (decide ((↑i : Int) < (↑(List.length a) : Int)))) ?_
          refine k_done (k_skip_seq ?_)
          refine rkn 29 (decide ((↑i : Int) < (↑(List.length a) : Int))) true (decide_eq_true (by omega)) ?_
          refine kct (k_skip_seq (k_seq (k_block (k_seq ?_))))
          refine rv (D.sl (ints a) none) ?_
          refine rv (D.int IntKind.i64 (↑i : Int)) ?_
          refine runs_index (a) (eInt) (o := none) (kd := IntKind.i64) (i) (by kernel_rfl) (by kernel_rfl) (by kernel_rfl) (by assumption) (by kernel_rfl) ?_
          refine rv (D.int IntKind.i64 a[i]) ?_
          refine rv (D.int IntKind.i64 p) ?_
          refine rv (D.bool (a[i] != p)) ?_
          refine rv (D.bool (a[i] != p)) ?_
          refine rkn 38 (a[i] != p) false (bne_eq_false_iff_eq.2 (by assumption)) ?_
          refine rno (rno (rno (rno (rno (rno (rno ?_))))))
          refine rv (D.bool false) ?_
          refine k_done (k_skip_seq (kcf (k_skip_block (k_skip_seq ?_))))
          refine rv (D.int IntKind.i64 (↑i : Int)) ?_
          refine rve (D.int IntKind.i64 (IntKind.wrap IntKind.i64 ((↑i : Int) + (1 : Int)))) (.int IntKind.i64 ((i + 1 : Nat) : Int)) (congrArg (D.int IntKind.i64) (show IntKind.wrap IntKind.i64 ((↑i : Int) + (1 : Int)) = ((i + 1 : Nat) : Int) by rw [IntKind.wrap_i64] <;> omega)) ?_
          refine ra0 (D.int IntKind.i64 (↑(i + (1 : Nat)) : Int)) ?_
          refine k_done (k_skip_back ?_)
          rw [if_neg (fun h => h.1 hne)] at htk
          exact ⟨i + 1, hlt, by omega, by rw [htk]; kernel_rfl, rfl⟩
        by_cases hin : a[i] ∈ out
        · refine k_seq (k_seq ?_)
          refine rv (D.int IntKind.i64 (↑i : Int)) ?_
          refine rv (D.sl (ints a) none) ?_
          refine rve (D.int IntKind.i64 (↑(List.length (ints a)) : Int)) (.int IntKind.i64 ((↑(List.length a) : Int))) (by simp only [ints, eInt, List.length_map, List.length_append, List.length_cons, List.length_nil]) ?_
          refine rv (D.bool (decide ((↑i : Int) < (↑(List.length a) : Int)))) ?_
          refine k_done (k_skip_seq ?_)
          refine rkn 29 (decide ((↑i : Int) < (↑(List.length a) : Int))) true (decide_eq_true (by omega)) ?_
          refine kct (k_skip_seq (k_seq (k_block (k_seq ?_))))
          refine rv (D.sl (ints a) none) ?_
          refine rv (D.int IntKind.i64 (↑i : Int)) ?_
          refine runs_index (a) (eInt) (o := none) (kd := IntKind.i64) (i) (by kernel_rfl) (by kernel_rfl) (by kernel_rfl) (by assumption) (by kernel_rfl) ?_
          refine rv (D.int IntKind.i64 a[i]) ?_
          refine rv (D.int IntKind.i64 p) ?_
          refine rv (D.bool (a[i] != p)) ?_
          refine rv (D.bool (a[i] != p)) ?_
          refine rkn 38 (a[i] != p) true (bne_iff_ne.2 (by assumption)) ?_
          refine rv (D.sl (ints out) none) ?_
          refine rv (D.sl (ints a) none) ?_
          refine rv (D.int IntKind.i64 (↑i : Int)) ?_
          refine runs_index (a) (eInt) (o := none) (kd := IntKind.i64) (i) (by kernel_rfl) (by kernel_rfl) (by kernel_rfl) (by assumption) (by kernel_rfl) ?_
          refine rv (D.int IntKind.i64 a[i]) ?_
          refine runs_call ([D.sl (ints out) none, D.int IntKind.i64 a[i]]) (by kernel_rfl) (by kernel_rfl) (by kernel_rfl) (by kernel_rfl) (has_ok _ _ _ _ _ (by omega) (by omega)) (by kernel_rfl) ?_
          refine rv (D.bool !decide (a[i] ∈ out)) ?_
          refine rv (D.bool !decide (a[i] ∈ out)) ?_
          refine k_done (k_skip_seq ?_)
          refine rkn 46 (!decide (a[i] ∈ out)) false (by simp only [*, decide_true, decide_false, not_false_eq_true, Bool.not_true, Bool.not_false]) ?_
          refine kcf (k_skip_block (k_skip_seq ?_))
          refine rv (D.int IntKind.i64 (↑i : Int)) ?_
          refine rve (D.int IntKind.i64 (IntKind.wrap IntKind.i64 ((↑i : Int) + (1 : Int)))) (.int IntKind.i64 ((i + 1 : Nat) : Int)) (congrArg (D.int IntKind.i64) (show IntKind.wrap IntKind.i64 ((↑i : Int) + (1 : Int)) = ((i + 1 : Nat) : Int) by rw [IntKind.wrap_i64] <;> omega)) ?_
          refine ra0 (D.int IntKind.i64 (↑(i + (1 : Nat)) : Int)) ?_
          refine k_done (k_skip_back ?_)
          rw [if_neg (fun h => h.2 hin)] at htk
          exact ⟨i + 1, hlt, by omega, by rw [htk]; kernel_rfl, rfl⟩
        · refine k_seq (k_seq ?_)
          refine rv (D.int IntKind.i64 (↑i : Int)) ?_
          refine rv (D.sl (ints a) none) ?_
          refine rve (D.int IntKind.i64 (↑(List.length (ints a)) : Int)) (.int IntKind.i64 ((↑(List.length a) : Int))) (by simp only [ints, eInt, List.length_map, List.length_append, List.length_cons, List.length_nil]) ?_
          refine rv (D.bool (decide ((↑i : Int) < (↑(List.length a) : Int)))) ?_
          refine k_done (k_skip_seq ?_)
          refine rkn 29 (decide ((↑i : Int) < (↑(List.length a) : Int))) true (decide_eq_true (by omega)) ?_
          refine kct (k_skip_seq (k_seq (k_block (k_seq ?_))))
          refine rv (D.sl (ints a) none) ?_
          refine rv (D.int IntKind.i64 (↑i : Int)) ?_
          refine runs_index (a) (eInt) (o := none) (kd := IntKind.i64) (i) (by kernel_rfl) (by kernel_rfl) (by kernel_rfl) (by assumption) (by kernel_rfl) ?_
          refine rv (D.int IntKind.i64 a[i]) ?_
          refine rv (D.int IntKind.i64 p) ?_
          refine rv (D.bool (a[i] != p)) ?_
          refine rv (D.bool (a[i] != p)) ?_
          refine rkn 38 (a[i] != p) true (bne_iff_ne.2 (by assumption)) ?_
          refine rv (D.sl (ints out) none) ?_
          refine rv (D.sl (ints a) none) ?_
          refine rv (D.int IntKind.i64 (↑i : Int)) ?_
          refine runs_index (a) (eInt) (o := none) (kd := IntKind.i64) (i) (by kernel_rfl) (by kernel_rfl) (by kernel_rfl) (by assumption) (by kernel_rfl) ?_
          refine rv (D.int IntKind.i64 a[i]) ?_
          refine runs_call ([D.sl (ints out) none, D.int IntKind.i64 a[i]]) (by kernel_rfl) (by kernel_rfl) (by kernel_rfl) (by kernel_rfl) (has_ok _ _ _ _ _ (by omega) (by omega)) (by kernel_rfl) ?_
          refine rv (D.bool !decide (a[i] ∈ out)) ?_
          refine rv (D.bool !decide (a[i] ∈ out)) ?_
          refine k_done (k_skip_seq ?_)
          refine rkn 46 (!decide (a[i] ∈ out)) true (by simp only [*, decide_true, decide_false, not_false_eq_true, Bool.not_true, Bool.not_false]) ?_
          refine kct ?_
          refine runs_steal (D.sl (ints out) (some (3 : Nat))) (by kernel_rfl) (by kernel_rfl) ?_
          refine rv (D.sl (ints a) none) ?_
          refine rv (D.int IntKind.i64 (↑i : Int)) ?_
          refine runs_index (a) (eInt) (o := none) (kd := IntKind.i64) (i) (by kernel_rfl) (by kernel_rfl) (by kernel_rfl) (by assumption) (by kernel_rfl) ?_
          refine rv (D.int IntKind.i64 a[i]) ?_
          refine rv (D.sl [[D.int IntKind.i64 a[i]]] (some (3 : Nat))) ?_
          refine runs_append (ints out) ([[D.int IntKind.i64 a[i]]]) (ints (out ++ [a[i]])) (by kernel_rfl) (by kernel_rfl) (by kernel_rfl) (by kernel_rfl) (by simp [ints, room]; omega) (by simp [ints, eInt]) ?_
          refine runs_assign (D.sl (ints (out ++ [a[i]])) (some (3 : Nat))) (by kernel_rfl) (by kernel_rfl) ?_
          refine k_done (k_skip_block (k_skip_seq ?_))
          refine rv (D.int IntKind.i64 (↑i : Int)) ?_
          refine rve (D.int IntKind.i64 (IntKind.wrap IntKind.i64 ((↑i : Int) + (1 : Int)))) (.int IntKind.i64 ((i + 1 : Nat) : Int)) (congrArg (D.int IntKind.i64) (show IntKind.wrap IntKind.i64 ((↑i : Int) + (1 : Int)) = ((i + 1 : Nat) : Int) by rw [IntKind.wrap_i64] <;> omega)) ?_
          refine ra0 (D.int IntKind.i64 (↑(i + (1 : Nat)) : Int)) ?_
          refine k_done (k_skip_back ?_)
          rw [if_pos ⟨hne, hin⟩] at htk
          exact ⟨i + 1, hlt, by omega, by rw [htk]; kernel_rfl, rfl⟩
      · have hia : i = a.length := by omega
        subst hia
        rw [List.take_length] at hout
        refine k_seq (k_seq ?_)
        refine rv (D.int IntKind.i64 (↑(List.length a) : Int)) ?_
        refine rv (D.sl (ints a) none) ?_
        refine rve (D.int IntKind.i64 (↑(List.length (ints a)) : Int)) (.int IntKind.i64 ((↑(List.length a) : Int))) (by simp only [ints, eInt, List.length_map, List.length_append, List.length_cons, List.length_nil]) ?_
        refine rv (D.bool (decide ((↑(List.length a) : Int) < (↑(List.length a) : Int)))) ?_
        refine k_done (k_skip_seq ?_)
        refine rkn 29 (decide ((↑(List.length a) : Int) < (↑(List.length a) : Int))) false (decide_eq_false (by omega)) ?_
        refine kcf (k_exit_seq (k_exit_back (k_exit_hit rfl (k_skip_seq (k_seq (k_seq ?_))))))
        refine rv (D.int IntKind.i64 (0 : Int)) ?_
        refine k_done (k_skip_seq (k_block ?_))
        refine k_loop (fun i : Nat => f21 a b p (addAll (negI p) (b.take i) out) (.int .i64 a.length) (.int .i64 i)) (fun _ => σ) (fun i => i ≤ b.length) (fun i => b.length - i) 0 (by kernel_rfl) rfl (by simp) (by omega) ?_
        intro i hi
        have hol2 : (addAll (negI p) (b.take i) out).length ≤ out.length + i := by
          have := addAll_len (negI p) (b.take i) out
          simp at this
          omega
        generalize hout2 : addAll (negI p) (b.take i) out = out2 at hol2
        by_cases hlt : i < b.length
        · have htk : addAll (negI p) (b.take (i + 1)) out = if b[i] ≠ negI p ∧ b[i] ∉ out2 then out2 ++ [b[i]] else out2 := by
            rw [List.take_succ_eq_append_getElem hlt, addAll_snoc, hout2]
          by_cases hne : b[i] = negI p
          · have hne' : b[i] = IntKind.wrap IntKind.i64 (0 - p) := hne
            refine k_seq (k_seq ?_)
            refine rv (D.int IntKind.i64 (↑i : Int)) ?_
            refine rv (D.sl (ints b) none) ?_
            refine rve (D.int IntKind.i64 (↑(List.length (ints b)) : Int)) (.int IntKind.i64 ((↑(List.length b) : Int))) (by simp only [ints, eInt, List.length_map, List.length_append, List.length_cons, List.length_nil]) ?_
            refine rv (D.bool (decide ((↑i : Int) < (↑(List.length b) : Int)))) ?_
            refine k_done (k_skip_seq ?_)
            refine rkn 57 (decide ((↑i : Int) < (↑(List.length b) : Int))) true (decide_eq_true (by omega)) ?_
            refine kct (k_skip_seq (k_seq (k_block (k_seq ?_))))
            refine rv (D.sl (ints b) none) ?_
            refine rv (D.int IntKind.i64 (↑i : Int)) ?_
            refine runs_index (b) (eInt) (o := none) (kd := IntKind.i64) (i) (by kernel_rfl) (by kernel_rfl) (by kernel_rfl) (by assumption) (by kernel_rfl) ?_
            refine rv (D.int IntKind.i64 b[i]) ?_
            refine rv (D.int IntKind.i64 p) ?_
            refine rv (D.int IntKind.i64 (IntKind.wrap IntKind.i64 ((0 : Int) - p))) ?_
            refine rv (D.bool (b[i] != IntKind.wrap IntKind.i64 ((0 : Int) - p))) ?_
            refine rv (D.bool (b[i] != IntKind.wrap IntKind.i64 ((0 : Int) - p))) ?_
            refine rkn 67 (b[i] != IntKind.wrap IntKind.i64 ((0 : Int) - p)) false (bne_eq_false_iff_eq.2 (by assumption)) ?_
            refine rno (rno (rno (rno (rno (rno (rno ?_))))))
            refine rv (D.bool false) ?_
            refine k_done (k_skip_seq (kcf (k_skip_block (k_skip_seq ?_))))
            refine rv (D.int IntKind.i64 (↑i : Int)) ?_
            refine rve (D.int IntKind.i64 (IntKind.wrap IntKind.i64 ((↑i : Int) + (1 : Int)))) (.int IntKind.i64 ((i + 1 : Nat) : Int)) (congrArg (D.int IntKind.i64) (show IntKind.wrap IntKind.i64 ((↑i : Int) + (1 : Int)) = ((i + 1 : Nat) : Int) by rw [IntKind.wrap_i64] <;> omega)) ?_
            refine ra0 (D.int IntKind.i64 (↑(i + (1 : Nat)) : Int)) ?_
            refine k_done (k_skip_back ?_)
            rw [if_neg (fun h => h.1 hne)] at htk
            exact ⟨i + 1, hlt, by omega, by rw [htk]; kernel_rfl, rfl⟩
          have hne' : ¬ b[i] = IntKind.wrap IntKind.i64 (0 - p) := hne
          by_cases hin : b[i] ∈ out2
          · refine k_seq (k_seq ?_)
            refine rv (D.int IntKind.i64 (↑i : Int)) ?_
            refine rv (D.sl (ints b) none) ?_
            refine rve (D.int IntKind.i64 (↑(List.length (ints b)) : Int)) (.int IntKind.i64 ((↑(List.length b) : Int))) (by simp only [ints, eInt, List.length_map, List.length_append, List.length_cons, List.length_nil]) ?_
            refine rv (D.bool (decide ((↑i : Int) < (↑(List.length b) : Int)))) ?_
            refine k_done (k_skip_seq ?_)
            refine rkn 57 (decide ((↑i : Int) < (↑(List.length b) : Int))) true (decide_eq_true (by omega)) ?_
            refine kct (k_skip_seq (k_seq (k_block (k_seq ?_))))
            refine rv (D.sl (ints b) none) ?_
            refine rv (D.int IntKind.i64 (↑i : Int)) ?_
            refine runs_index (b) (eInt) (o := none) (kd := IntKind.i64) (i) (by kernel_rfl) (by kernel_rfl) (by kernel_rfl) (by assumption) (by kernel_rfl) ?_
            refine rv (D.int IntKind.i64 b[i]) ?_
            refine rv (D.int IntKind.i64 p) ?_
            refine rv (D.int IntKind.i64 (IntKind.wrap IntKind.i64 ((0 : Int) - p))) ?_
            refine rv (D.bool (b[i] != IntKind.wrap IntKind.i64 ((0 : Int) - p))) ?_
            refine rv (D.bool (b[i] != IntKind.wrap IntKind.i64 ((0 : Int) - p))) ?_
            refine rkn 67 (b[i] != IntKind.wrap IntKind.i64 ((0 : Int) - p)) true (bne_iff_ne.2 (by assumption)) ?_
            refine rv (D.sl (ints out2) none) ?_
            refine rv (D.sl (ints b) none) ?_
            refine rv (D.int IntKind.i64 (↑i : Int)) ?_
            refine runs_index (b) (eInt) (o := none) (kd := IntKind.i64) (i) (by kernel_rfl) (by kernel_rfl) (by kernel_rfl) (by assumption) (by kernel_rfl) ?_
            refine rv (D.int IntKind.i64 b[i]) ?_
            refine runs_call ([D.sl (ints out2) none, D.int IntKind.i64 b[i]]) (by kernel_rfl) (by kernel_rfl) (by kernel_rfl) (by kernel_rfl) (has_ok _ _ _ _ _ (by omega) (by omega)) (by kernel_rfl) ?_
            refine rv (D.bool !decide (b[i] ∈ out2)) ?_
            refine rv (D.bool !decide (b[i] ∈ out2)) ?_
            refine k_done (k_skip_seq ?_)
            refine rkn 75 (!decide (b[i] ∈ out2)) false (by simp only [*, decide_true, decide_false, not_false_eq_true, Bool.not_true, Bool.not_false]) ?_
            refine kcf (k_skip_block (k_skip_seq ?_))
            refine rv (D.int IntKind.i64 (↑i : Int)) ?_
            refine rve (D.int IntKind.i64 (IntKind.wrap IntKind.i64 ((↑i : Int) + (1 : Int)))) (.int IntKind.i64 ((i + 1 : Nat) : Int)) (congrArg (D.int IntKind.i64) (show IntKind.wrap IntKind.i64 ((↑i : Int) + (1 : Int)) = ((i + 1 : Nat) : Int) by rw [IntKind.wrap_i64] <;> omega)) ?_
            refine ra0 (D.int IntKind.i64 (↑(i + (1 : Nat)) : Int)) ?_
            refine k_done (k_skip_back ?_)
            rw [if_neg (fun h => h.2 hin)] at htk
            exact ⟨i + 1, hlt, by omega, by rw [htk]; kernel_rfl, rfl⟩
          · refine k_seq (k_seq ?_)
            refine rv (D.int IntKind.i64 (↑i : Int)) ?_
            refine rv (D.sl (ints b) none) ?_
            refine rve (D.int IntKind.i64 (↑(List.length (ints b)) : Int)) (.int IntKind.i64 ((↑(List.length b) : Int))) (by simp only [ints, eInt, List.length_map, List.length_append, List.length_cons, List.length_nil]) ?_
            refine rv (D.bool (decide ((↑i : Int) < (↑(List.length b) : Int)))) ?_
            refine k_done (k_skip_seq ?_)
            refine rkn 57 (decide ((↑i : Int) < (↑(List.length b) : Int))) true (decide_eq_true (by omega)) ?_
            refine kct (k_skip_seq (k_seq (k_block (k_seq ?_))))
            refine rv (D.sl (ints b) none) ?_
            refine rv (D.int IntKind.i64 (↑i : Int)) ?_
            refine runs_index (b) (eInt) (o := none) (kd := IntKind.i64) (i) (by kernel_rfl) (by kernel_rfl) (by kernel_rfl) (by assumption) (by kernel_rfl) ?_
            refine rv (D.int IntKind.i64 b[i]) ?_
            refine rv (D.int IntKind.i64 p) ?_
            refine rv (D.int IntKind.i64 (IntKind.wrap IntKind.i64 ((0 : Int) - p))) ?_
            refine rv (D.bool (b[i] != IntKind.wrap IntKind.i64 ((0 : Int) - p))) ?_
            refine rv (D.bool (b[i] != IntKind.wrap IntKind.i64 ((0 : Int) - p))) ?_
            refine rkn 67 (b[i] != IntKind.wrap IntKind.i64 ((0 : Int) - p)) true (bne_iff_ne.2 (by assumption)) ?_
            refine rv (D.sl (ints out2) none) ?_
            refine rv (D.sl (ints b) none) ?_
            refine rv (D.int IntKind.i64 (↑i : Int)) ?_
            refine runs_index (b) (eInt) (o := none) (kd := IntKind.i64) (i) (by kernel_rfl) (by kernel_rfl) (by kernel_rfl) (by assumption) (by kernel_rfl) ?_
            refine rv (D.int IntKind.i64 b[i]) ?_
            refine runs_call ([D.sl (ints out2) none, D.int IntKind.i64 b[i]]) (by kernel_rfl) (by kernel_rfl) (by kernel_rfl) (by kernel_rfl) (has_ok _ _ _ _ _ (by omega) (by omega)) (by kernel_rfl) ?_
            refine rv (D.bool !decide (b[i] ∈ out2)) ?_
            refine rv (D.bool !decide (b[i] ∈ out2)) ?_
            refine k_done (k_skip_seq ?_)
            refine rkn 75 (!decide (b[i] ∈ out2)) true (by simp only [*, decide_true, decide_false, not_false_eq_true, Bool.not_true, Bool.not_false]) ?_
            refine kct ?_
            refine runs_steal (D.sl (ints out2) (some (3 : Nat))) (by kernel_rfl) (by kernel_rfl) ?_
            refine rv (D.sl (ints b) none) ?_
            refine rv (D.int IntKind.i64 (↑i : Int)) ?_
            refine runs_index (b) (eInt) (o := none) (kd := IntKind.i64) (i) (by kernel_rfl) (by kernel_rfl) (by kernel_rfl) (by assumption) (by kernel_rfl) ?_
            refine rv (D.int IntKind.i64 b[i]) ?_
            refine rv (D.sl [[D.int IntKind.i64 b[i]]] (some (3 : Nat))) ?_
            refine runs_append (ints out2) ([[D.int IntKind.i64 b[i]]]) (ints (out2 ++ [b[i]])) (by kernel_rfl) (by kernel_rfl) (by kernel_rfl) (by kernel_rfl) (by simp [ints, room]; omega) (by simp [ints, eInt]) ?_
            refine runs_assign (D.sl (ints (out2 ++ [b[i]])) (some (3 : Nat))) (by kernel_rfl) (by kernel_rfl) ?_
            refine k_done (k_skip_block (k_skip_seq ?_))
            refine rv (D.int IntKind.i64 (↑i : Int)) ?_
            refine rve (D.int IntKind.i64 (IntKind.wrap IntKind.i64 ((↑i : Int) + (1 : Int)))) (.int IntKind.i64 ((i + 1 : Nat) : Int)) (congrArg (D.int IntKind.i64) (show IntKind.wrap IntKind.i64 ((↑i : Int) + (1 : Int)) = ((i + 1 : Nat) : Int) by rw [IntKind.wrap_i64] <;> omega)) ?_
            refine ra0 (D.int IntKind.i64 (↑(i + (1 : Nat)) : Int)) ?_
            refine k_done (k_skip_back ?_)
            rw [if_pos ⟨hne, hin⟩] at htk
            exact ⟨i + 1, hlt, by omega, by rw [htk]; kernel_rfl, rfl⟩
        · have hia : i = b.length := by omega
          subst hia
          rw [List.take_length] at hout2
          refine k_seq (k_seq ?_)
          refine rv (D.int IntKind.i64 (↑(List.length b) : Int)) ?_
          refine rv (D.sl (ints b) none) ?_
          refine rve (D.int IntKind.i64 (↑(List.length (ints b)) : Int)) (.int IntKind.i64 ((↑(List.length b) : Int))) (by simp only [ints, eInt, List.length_map, List.length_append, List.length_cons, List.length_nil]) ?_
          refine rv (D.bool (decide ((↑(List.length b) : Int) < (↑(List.length b) : Int)))) ?_
          refine k_done (k_skip_seq ?_)
          refine rkn 57 (decide ((↑(List.length b) : Int) < (↑(List.length b) : Int))) false (decide_eq_false (by omega)) ?_
          refine kcf (k_exit_seq (k_exit_back (k_exit_hit rfl (k_skip_seq (k_seq ?_)))))
          refine rv (D.sl (ints out2) none) ?_
          refine ra0 (D.sl (ints out2) none) ?_
          refine rv (D.int IntKind.i64 (0 : Int)) ?_
          refine k_done (k_skip_seq (k_ret ?_))
          refine ⟨.inr rfl, rfl, ?_⟩
          have hm : makes a b p := ⟨h0, h1, h2⟩
          rw [if_pos hm, if_pos hm]
          unfold made
          rw [hout, hout2]
          show _ = _
          kernel_rfl
    · have h2' : ¬ IntKind.wrap IntKind.i64 (0 - p) ∈ b := h2
      refine k_seq ?_
      refine rv (D.sl [] (some (3 : Nat))) ?_
      refine rv (D.int IntKind.i64 (0 : Int)) ?_
      refine k_done (k_skip_seq (k_seq (k_seq ?_)))
      refine rv (D.int IntKind.i64 p) ?_
      refine rv (D.bool (p == (0 : Int))) ?_
      refine rv (D.bool (p == (0 : Int))) ?_
      refine rkn 13 (p == (0 : Int)) false (decide_eq_false (by assumption)) ?_
      refine rv (D.sl (ints a) none) ?_
      refine rv (D.int IntKind.i64 p) ?_
      refine runs_call ([D.sl (ints a) none, D.int IntKind.i64 p]) (by kernel_rfl) (by kernel_rfl) (by kernel_rfl) (by kernel_rfl) (has_ok _ _ _ _ _ (by omega) (by omega)) (by kernel_rfl) ?_
      refine rv (D.bool !decide (p ∈ a)) ?_
      refine rv (D.bool !decide (p ∈ a)) ?_
      refine rv (D.bool !decide (p ∈ a)) ?_
      refine rkn 19 (!decide (p ∈ a)) false (by simp only [*, decide_true, decide_false, not_false_eq_true, Bool.not_true, Bool.not_false]) ?_
      refine rv (D.sl (ints b) none) ?_
      refine rv (D.int IntKind.i64 p) ?_
      refine rv (D.int IntKind.i64 (IntKind.wrap IntKind.i64 ((0 : Int) - p))) ?_
      refine runs_call ([D.sl (ints b) none, D.int IntKind.i64 (IntKind.wrap IntKind.i64 ((0 : Int) - p))]) (by kernel_rfl) (by kernel_rfl) (by kernel_rfl) (by kernel_rfl) (has_ok _ _ _ _ _ (by omega) (by omega)) (by kernel_rfl) ?_
      refine rv (D.bool !decide (IntKind.wrap IntKind.i64 ((0 : Int) - p) ∈ b)) ?_
      refine rv (D.bool !decide (IntKind.wrap IntKind.i64 ((0 : Int) - p) ∈ b)) ?_
      refine k_done (k_skip_seq ?_)
      refine rkn 25 (!decide (IntKind.wrap IntKind.i64 ((0 : Int) - p) ∈ b)) true (by simp only [*, decide_true, decide_false, not_false_eq_true, Bool.not_true, Bool.not_false]) ?_
      refine kct (k_seq ?_)
      refine rv (D.sl [] (some (3 : Nat))) ?_
      refine rv (D.int IntKind.i64 (50 : Int)) ?_
      refine k_done (k_skip_seq (k_ret ?_))
      refine ⟨.inr rfl, rfl, ?_⟩
      rw [if_neg (fun h => h2 h.2.2), if_neg (fun h => h2 h.2.2)]
      show _ = _
      kernel_rfl
  · refine k_seq ?_
    refine rv (D.sl [] (some (3 : Nat))) ?_
    refine rv (D.int IntKind.i64 (0 : Int)) ?_
    refine k_done (k_skip_seq (k_seq (k_seq ?_)))
    refine rv (D.int IntKind.i64 p) ?_
    refine rv (D.bool (p == (0 : Int))) ?_
    refine rv (D.bool (p == (0 : Int))) ?_
    refine rkn 13 (p == (0 : Int)) false (decide_eq_false (by assumption)) ?_
    refine rv (D.sl (ints a) none) ?_
    refine rv (D.int IntKind.i64 p) ?_
    refine runs_call ([D.sl (ints a) none, D.int IntKind.i64 p]) (by kernel_rfl) (by kernel_rfl) (by kernel_rfl) (by kernel_rfl) (has_ok _ _ _ _ _ (by omega) (by omega)) (by kernel_rfl) ?_
    refine rv (D.bool !decide (p ∈ a)) ?_
    refine rv (D.bool !decide (p ∈ a)) ?_
    refine rv (D.bool !decide (p ∈ a)) ?_
    refine rkn 19 (!decide (p ∈ a)) true (by simp only [*, decide_true, decide_false, not_false_eq_true, Bool.not_true, Bool.not_false]) ?_
    refine rno (rno (rno (rno (rno ?_))))
    refine rv (D.bool true) ?_
    refine k_done (k_skip_seq (kct (k_seq ?_)))
    refine rv (D.sl [] (some (3 : Nat))) ?_
    refine rv (D.int IntKind.i64 (50 : Int)) ?_
    refine k_done (k_skip_seq (k_ret ?_))
    refine ⟨.inr rfl, rfl, ?_⟩
    rw [if_neg (fun h => h1 h.2.1), if_neg (fun h => h1 h.2.1)]
    show _ = _
    kernel_rfl
end Go.Abs.B

/-
  The given program's functions of layer 21 and their values.
-/
namespace Go.Abs.B
open Go Go.Abs
set_option maxRecDepth 8000
attribute [local irreducible] callN runC evalOp

def f41 (c : List Int) (v i : Int) : Fr := Fr.mk ([.sl (ints c) none, .int .i64 v, .junk, .junk, .int .i64 0, .junk, .junk, .int .i64 c.length, .int .i64 i] ++ List.replicate 10 .junk) (List.replicate 19 none) []
theorem idx_at (v : Int) : ∀ (c : List Int) (i : Nat) (h : i < c.length), v ∉ c.take i → c[i] = v → c.idxOf v = i
  | x :: xs, 0, _, _, h => by
    simp only [List.getElem_cons_zero] at h
    simp [h]
  | x :: xs, i + 1, hl, hn, h => by
    simp only [List.take_succ_cons, List.mem_cons, not_or] at hn
    simp only [List.getElem_cons_succ] at h
    have := idx_at v xs i (by simpa using hl) hn.2 h
    rw [List.idxOf_cons, beq_eq_false_iff_ne.2 (fun e : x = v => hn.1 e.symm), cond_false, this]
def idxR (c : List Int) (v : Int) : Int := if v ∈ c then c.idxOf v else -1
theorem index_ok (n : Nat) (c : List Int) (v : Int) (o : Option Nat) (σ : St) (hn : c.length < n) (hc : c.length < 4611686018427387904) :
    callN T (n + 1) 41 [.sl (ints c) o, .int .i64 v] σ = some (.int .i64 (idxR c v), σ) := by
  refine call_of (m := m41) rfl rfl (by decide) (k_start ?_)
  unfold m41
  refine k_seq ?_
  refine rv (D.int IntKind.i64 (0 : Int)) ?_
  refine k_done (k_skip_seq (k_seq (k_seq ?_)))
  refine rv (D.sl (ints c) none) ?_
  refine rve (D.int IntKind.i64 (↑(List.length (ints c)) : Int)) (.int IntKind.i64 ((↑(List.length c) : Int))) (by simp only [ints, eInt, List.length_map, List.length_append, List.length_cons, List.length_nil]) ?_
  refine rv (D.int IntKind.i64 (0 : Int)) ?_
  refine k_done (k_skip_seq (k_block ?_))
  refine k_loop (fun i : Nat => f41 c v i) (fun _ => σ) (fun i => i ≤ c.length ∧ v ∉ c.take i) (fun i => c.length - i) 0 (by kernel_rfl) rfl (by simp) (by omega) ?_
  rintro i ⟨hi, hv⟩
  by_cases hlt : i < c.length
  · by_cases heq : v = c[i]
    · refine k_seq ?_
      refine rv (D.bool (decide ((↑i : Int) < (↑(List.length c) : Int)))) ?_
      refine k_done (k_skip_seq (k_seq ?_))
      refine rkn 9 (decide ((↑i : Int) < (↑(List.length c) : Int))) true (decide_eq_true (by omega)) ?_
      refine kct (k_skip_seq (k_seq (k_block (k_seq ?_))))
      refine rv (D.int IntKind.i64 (↑i : Int)) ?_
      refine ra0 (D.int IntKind.i64 (↑i : Int)) ?_
      refine k_done (k_skip_seq (k_seq ?_))
      refine rv (D.int IntKind.i64 v) ?_
      refine rv (D.sl (ints c) none) ?_
      refine rv (D.int IntKind.i64 (↑i : Int)) ?_
      refine runs_index (c) (eInt) (o := none) (kd := IntKind.i64) (i) (by kernel_rfl) (by kernel_rfl) (by kernel_rfl) (by assumption) (by kernel_rfl) ?_
      refine rv (D.int IntKind.i64 c[i]) ?_
      refine rv (D.bool (v == c[i])) ?_
      refine k_done (k_skip_seq ?_)
      refine rkn 16 (v == c[i]) true (decide_eq_true (by assumption)) ?_
      refine kct (k_seq ?_)
      refine rv (D.int IntKind.i64 (↑i : Int)) ?_
      refine ra0 (D.int IntKind.i64 (↑i : Int)) ?_
      refine k_done (k_skip_seq (k_ret ?_))
      refine ⟨.inr rfl, rfl, ?_⟩
      have : v ∈ c := by rw [heq]; exact List.getElem_mem hlt
      unfold idxR
      rw [if_pos this, idx_at v c i hlt hv heq.symm]
      show _ = _
      kernel_rfl
    · refine k_seq ?_
      refine rv (D.bool (decide ((↑i : Int) < (↑(List.length c) : Int)))) ?_
      refine k_done (k_skip_seq (k_seq ?_))
      refine rkn 9 (decide ((↑i : Int) < (↑(List.length c) : Int))) true (decide_eq_true (by omega)) ?_
      refine kct (k_skip_seq (k_seq (k_block (k_seq ?_))))
      refine rv (D.int IntKind.i64 (↑i : Int)) ?_
      refine ra0 (D.int IntKind.i64 (↑i : Int)) ?_
      refine k_done (k_skip_seq (k_seq ?_))
      refine rv (D.int IntKind.i64 v) ?_
      refine rv (D.sl (ints c) none) ?_
      refine rv (D.int IntKind.i64 (↑i : Int)) ?_
      refine runs_index (c) (eInt) (o := none) (kd := IntKind.i64) (i) (by kernel_rfl) (by kernel_rfl) (by kernel_rfl) (by assumption) (by kernel_rfl) ?_
      refine rv (D.int IntKind.i64 c[i]) ?_
      refine rv (D.bool (v == c[i])) ?_
      refine k_done (k_skip_seq ?_)
      refine rkn 16 (v == c[i]) false (decide_eq_false (by assumption)) ?_
      refine kcf (k_skip_block (k_skip_seq ?_))
      refine rve (D.int IntKind.i64 (IntKind.wrap IntKind.i64 ((↑i : Int) + (1 : Int)))) (.int IntKind.i64 ((i + 1 : Nat) : Int)) (congrArg (D.int IntKind.i64) (show IntKind.wrap IntKind.i64 ((↑i : Int) + (1 : Int)) = ((i + 1 : Nat) : Int) by rw [IntKind.wrap_i64] <;> omega)) ?_
      refine rv (D.int IntKind.i64 (↑(i + (1 : Nat)) : Int)) ?_
      refine k_done (k_skip_back ?_)
      refine ⟨i + 1, ⟨hlt, ?_⟩, by omega, by kernel_rfl, rfl⟩
      rw [List.take_succ_eq_append_getElem hlt]
      simp only [List.mem_append, List.mem_singleton, not_or]
      exact ⟨hv, heq⟩
  · refine k_seq ?_
    refine rv (D.bool (decide ((↑i : Int) < (↑(List.length c) : Int)))) ?_
    refine k_done (k_skip_seq (k_seq ?_))
    refine rkn 9 (decide ((↑i : Int) < (↑(List.length c) : Int))) false (decide_eq_false (by omega)) ?_
    refine kcf (k_exit_seq (k_exit_back (k_exit_hit rfl (k_skip_seq (k_seq ?_)))))
    refine rv (D.int IntKind.i64 (-1 : Int)) ?_
    refine k_done (k_skip_seq (k_ret ?_))
    refine ⟨.inr rfl, rfl, ?_⟩
    have : v ∉ c := by
      rwa [List.take_of_length_le (by omega)] at hv
    unfold idxR
    rw [if_neg this]
    show _ = _
    kernel_rfl
theorem contains_ok (n : Nat) (c : List Int) (v : Int) (o : Option Nat) (σ : St) (hn : c.length < n) (hc : c.length < 4611686018427387904) :
    callN T (n + 2) 32 [.sl (ints c) o, .int .i64 v] σ = some (.bool (decide (v ∈ c)), σ) := by
  have hr : decide (idxR c v ≥ 0) = decide (v ∈ c) := by
    unfold idxR
    by_cases h : v ∈ c
    · rw [if_pos h, decide_eq_true h, decide_eq_true (by omega)]
    · rw [if_neg h, decide_eq_false h, decide_eq_false (by omega)]
  rw [← hr]
  refine call_of (m := m32) rfl rfl (by decide) (k_start ?_)
  unfold m32
  refine k_seq ?_
  refine rv (D.bool false) ?_
  refine k_done (k_skip_seq (k_seq ?_))
  refine rv (D.sl (ints c) none) ?_
  refine rv (D.int IntKind.i64 v) ?_
  refine runs_call ([D.sl (ints c) none, D.int IntKind.i64 v]) (by kernel_rfl) (by kernel_rfl) (by kernel_rfl) (by kernel_rfl) (index_ok n _ _ _ _ hn hc) (by kernel_rfl) ?_
  refine rv (D.bool (decide (idxR c v ≥ (0 : Int)))) ?_
  refine ra0 (D.bool (decide (idxR c v ≥ (0 : Int)))) ?_
  refine k_done (k_skip_seq (k_ret ?_))
  refine ⟨.inr rfl, rfl, ?_⟩
  show _ = _
  kernel_rfl

/-- What the map has seen. -/
def seenOf (out : List Int) : List (D × D) := out.map fun v => (.int .i64 v, .bool true)
def st33 (out : List Int) : St := [.map (seenOf out), .cells [.map 0], .cells [.sl (ints out) (some 3)]]
theorem find_hit (v : Int) : ∀ out : List Int, v ∈ out → findKey 0 (.int .i64 v) (seenOf out) = some (some (.bool true))
  | x :: xs, h => by
    show (match (if IntKind.i64 = IntKind.i64 then some (v == x) else none) with | some true => _ | some false => _ | none => _) = _
    rw [if_pos rfl]
    by_cases hx : v = x
    · rw [beq_iff_eq.2 hx]
    · rw [beq_eq_false_iff_ne.2 hx]
      exact find_hit v xs ((List.mem_cons.1 h).resolve_left hx)
theorem find_miss (v : Int) : ∀ out : List Int, v ∉ out → findKey 0 (.int .i64 v) (seenOf out) = some none
  | [], _ => rfl
  | x :: xs, h => by
    show (match (if IntKind.i64 = IntKind.i64 then some (v == x) else none) with | some true => _ | some false => _ | none => _) = _
    have hx : v ≠ x := fun e => h (by simp [e])
    rw [if_pos rfl, beq_eq_false_iff_ne.2 hx]
    exact find_miss v xs (fun e => h (List.mem_cons_of_mem _ e))
theorem put_new (v : Int) : ∀ out : List Int, v ∉ out → putKey 0 (.int .i64 v) (.bool true) (seenOf out) = some (seenOf (out ++ [v]))
  | [], _ => rfl
  | x :: xs, h => by
    show (match (if IntKind.i64 = IntKind.i64 then some (v == x) else none) with | some true => _ | some false => _ | none => _) = _
    have hx : v ≠ x := fun e => h (by simp [e])
    rw [if_pos rfl, beq_eq_false_iff_ne.2 hx]
    show (putKey 0 (.int .i64 v) (.bool true) (seenOf xs)).map _ = _
    rw [put_new v xs (fun e => h (List.mem_cons_of_mem _ e))]
    rfl

def f33 (c : List Int) (w : Int) (i : Int) : Fr := Fr.mk ([.sl (ints c) none, .int .i64 w, .ptr 1 0, .ptr 2 0, .junk, .junk, .junk, .junk, .sl (ints c) none, .int .i64 c.length, .int .i64 i] ++ List.replicate 19 .junk) (List.replicate 30 none) []
theorem put_ok (n : Nat) (c : List Int) (w : Int) (o : Option Nat) (out : List Int) (hn : c.length < n) (hc : out.length + c.length < 4096) :
    callN T (n + 1) 33 [.sl (ints c) o, .int .i64 w, .ptr 1 0, .ptr 2 0] (st33 out) = some (.tup [], st33 (addAll w c out)) := by
  refine call_of (m := m33) rfl rfl (by decide) (k_start ?_)
  unfold m33
  refine k_seq ?_
  refine rv (D.sl (ints c) none) ?_
  refine rve (D.int IntKind.i64 (↑(List.length (ints c)) : Int)) (.int IntKind.i64 ((↑(List.length c) : Int))) (by simp only [ints, eInt, List.length_map, List.length_append, List.length_cons, List.length_nil]) ?_
  refine rv (D.int IntKind.i64 (0 : Int)) ?_
  refine k_done (k_skip_seq (k_block ?_))
  refine k_loop (fun i : Nat => f33 c w i) (fun i => st33 (addAll w (c.take i) out)) (fun i => i ≤ c.length) (fun i => c.length - i) 0 (by kernel_rfl) rfl (by simp) (by omega) ?_
  intro i hi
  have hol : (addAll w (c.take i) out).length ≤ out.length + i := by
    have := addAll_len w (c.take i) out
    simp at this
    omega
  have hr : addAll w (c.take i) out = addAll w (c.take i) out := rfl
  generalize hout : addAll w (c.take i) out = res at hol
  clear hr
  by_cases hlt : i < c.length
  · have htk : addAll w (c.take (i + 1)) out = if c[i] ≠ w ∧ c[i] ∉ res then res ++ [c[i]] else res := by
      rw [List.take_succ_eq_append_getElem hlt, addAll_snoc, hout]
    by_cases hne : c[i] = w
    · refine k_seq ?_
      refine rv (D.bool (decide ((↑i : Int) < (↑(List.length c) : Int)))) ?_
      refine k_done (k_skip_seq (k_seq ?_))
      refine rkn 11 (decide ((↑i : Int) < (↑(List.length c) : Int))) true (decide_eq_true (by omega)) ?_
      refine kct (k_skip_seq (k_seq (k_block (k_seq ?_))))
      refine runs_index (c) (eInt) (o := none) (kd := IntKind.i64) (i) (by kernel_rfl) (by kernel_rfl) (by kernel_rfl) (by assumption) (by kernel_rfl) ?_
      refine rv (D.int IntKind.i64 c[i]) ?_
      refine ra0 (D.int IntKind.i64 c[i]) ?_
      refine k_done (k_skip_seq (k_seq ?_))
      refine rv (D.int IntKind.i64 c[i]) ?_
      refine rv (D.int IntKind.i64 w) ?_
      refine rv (D.bool (c[i] != w)) ?_
      refine rv (D.bool (c[i] != w)) ?_
      refine rkn 17 (c[i] != w) false (bne_eq_false_iff_eq.2 (by assumption)) ?_
      refine rno (rno (rno (rno ?_)))
      refine rv (D.bool false) ?_
      refine k_done (k_skip_seq (kcf (k_skip_block (k_skip_seq ?_))))
      refine rve (D.int IntKind.i64 (IntKind.wrap IntKind.i64 ((↑i : Int) + (1 : Int)))) (.int IntKind.i64 ((i + 1 : Nat) : Int)) (congrArg (D.int IntKind.i64) (show IntKind.wrap IntKind.i64 ((↑i : Int) + (1 : Int)) = ((i + 1 : Nat) : Int) by rw [IntKind.wrap_i64] <;> omega)) ?_
      refine rv (D.int IntKind.i64 (↑(i + (1 : Nat)) : Int)) ?_
      refine k_done (k_skip_back ?_)
      rw [if_neg (fun h => h.1 hne)] at htk
      exact ⟨i + 1, hlt, by omega, by kernel_rfl, by rw [htk]⟩
    by_cases hin : c[i] ∈ res
    · have hf := find_hit c[i] res hin
      refine k_seq ?_
      refine rv (D.bool (decide ((↑i : Int) < (↑(List.length c) : Int)))) ?_
      refine k_done (k_skip_seq (k_seq ?_))
      refine rkn 11 (decide ((↑i : Int) < (↑(List.length c) : Int))) true (decide_eq_true (by omega)) ?_
      refine kct (k_skip_seq (k_seq (k_block (k_seq ?_))))
      refine runs_index (c) (eInt) (o := none) (kd := IntKind.i64) (i) (by kernel_rfl) (by kernel_rfl) (by kernel_rfl) (by assumption) (by kernel_rfl) ?_
      refine rv (D.int IntKind.i64 c[i]) ?_
      refine ra0 (D.int IntKind.i64 c[i]) ?_
      refine k_done (k_skip_seq (k_seq ?_))
      refine rv (D.int IntKind.i64 c[i]) ?_
      refine rv (D.int IntKind.i64 w) ?_
      refine rv (D.bool (c[i] != w)) ?_
      refine rv (D.bool (c[i] != w)) ?_
      refine rkn 17 (c[i] != w) true (bne_iff_ne.2 (by assumption)) ?_
      refine rv (D.map (0 : Nat)) ?_
      refine rv (D.int IntKind.i64 c[i]) ?_
      refine runs_hit ((0 : Nat)) (seenOf res) (D.int IntKind.i64 c[i]) _ (by kernel_rfl) (by kernel_rfl) (by kernel_rfl) (by kernel_rfl) (by kernel_rfl) (by assumption) ?_
      refine rv (D.bool false) ?_
      refine rv (D.bool false) ?_
      refine k_done (k_skip_seq (kcf (k_skip_block (k_skip_seq ?_))))
      refine rve (D.int IntKind.i64 (IntKind.wrap IntKind.i64 ((↑i : Int) + (1 : Int)))) (.int IntKind.i64 ((i + 1 : Nat) : Int)) (congrArg (D.int IntKind.i64) (show IntKind.wrap IntKind.i64 ((↑i : Int) + (1 : Int)) = ((i + 1 : Nat) : Int) by rw [IntKind.wrap_i64] <;> omega)) ?_
      refine rv (D.int IntKind.i64 (↑(i + (1 : Nat)) : Int)) ?_
      refine k_done (k_skip_back ?_)
      rw [if_neg (fun h => h.2 hin)] at htk
      exact ⟨i + 1, hlt, by omega, by kernel_rfl, by rw [htk]⟩
    · have hf := find_miss c[i] res hin
      have hp := put_new c[i] res hin
      refine k_seq ?_
      refine rv (D.bool (decide ((↑i : Int) < (↑(List.length c) : Int)))) ?_
      refine k_done (k_skip_seq (k_seq ?_))
      refine rkn 11 (decide ((↑i : Int) < (↑(List.length c) : Int))) true (decide_eq_true (by omega)) ?_
      refine kct (k_skip_seq (k_seq (k_block (k_seq ?_))))
      refine runs_index (c) (eInt) (o := none) (kd := IntKind.i64) (i) (by kernel_rfl) (by kernel_rfl) (by kernel_rfl) (by assumption) (by kernel_rfl) ?_
      refine rv (D.int IntKind.i64 c[i]) ?_
      refine ra0 (D.int IntKind.i64 c[i]) ?_
      refine k_done (k_skip_seq (k_seq ?_))
      refine rv (D.int IntKind.i64 c[i]) ?_
      refine rv (D.int IntKind.i64 w) ?_
      refine rv (D.bool (c[i] != w)) ?_
      refine rv (D.bool (c[i] != w)) ?_
      refine rkn 17 (c[i] != w) true (bne_iff_ne.2 (by assumption)) ?_
      refine rv (D.map (0 : Nat)) ?_
      refine rv (D.int IntKind.i64 c[i]) ?_
      refine runs_miss ((0 : Nat)) (seenOf res) (D.int IntKind.i64 c[i]) (by kernel_rfl) (by kernel_rfl) (by kernel_rfl) (by kernel_rfl) (by kernel_rfl) (by assumption) ?_
      refine rv (D.bool true) ?_
      refine rv (D.bool true) ?_
      refine k_done (k_skip_seq (kct (k_seq ?_)))
      refine rv (D.map (0 : Nat)) ?_
      refine rv (D.int IntKind.i64 c[i]) ?_
      refine runs_update ((0 : Nat)) (seenOf res) _ (D.int IntKind.i64 c[i]) (D.bool true) (by kernel_rfl) (by kernel_rfl) (by kernel_rfl) (by kernel_rfl) (by kernel_rfl) (by kernel_rfl) (by kernel_rfl) (by assumption) ?_
      refine k_done (k_skip_seq ?_)
      refine rgs (D.sl (ints res) (some (3 : Nat))) ([Obj.map (seenOf (res ++ [c[i]])), Obj.cells [D.map (0 : Nat)], Obj.cells [D.sl (ints res) none]]) ?_
      refine rv (D.int IntKind.i64 c[i]) ?_
      refine rv (D.sl [[D.int IntKind.i64 c[i]]] (some (3 : Nat))) ?_
      refine runs_append (ints res) ([[D.int IntKind.i64 c[i]]]) (ints (res ++ [c[i]])) (by kernel_rfl) (by kernel_rfl) (by kernel_rfl) (by kernel_rfl) (by simp [ints, room]; omega) (by simp [ints, eInt]) ?_
      refine rgf (D.junk) ([Obj.map (seenOf (res ++ [c[i]])), Obj.cells [D.map (0 : Nat)], Obj.cells [D.sl (ints (res ++ [c[i]])) (some (3 : Nat))]]) ?_
      refine k_done (k_skip_block (k_skip_seq ?_))
      refine rve (D.int IntKind.i64 (IntKind.wrap IntKind.i64 ((↑i : Int) + (1 : Int)))) (.int IntKind.i64 ((i + 1 : Nat) : Int)) (congrArg (D.int IntKind.i64) (show IntKind.wrap IntKind.i64 ((↑i : Int) + (1 : Int)) = ((i + 1 : Nat) : Int) by rw [IntKind.wrap_i64] <;> omega)) ?_
      refine rv (D.int IntKind.i64 (↑(i + (1 : Nat)) : Int)) ?_
      refine k_done (k_skip_back ?_)
      rw [if_pos ⟨hne, hin⟩] at htk
      exact ⟨i + 1, hlt, by omega, by kernel_rfl, by rw [htk]; kernel_rfl⟩
  · have hia : i = c.length := by omega
    subst hia
    rw [List.take_length] at hout
    refine k_seq ?_
    refine rv (D.bool (decide ((↑(List.length c) : Int) < (↑(List.length c) : Int)))) ?_
    refine k_done (k_skip_seq (k_seq ?_))
    refine rkn 11 (decide ((↑(List.length c) : Int) < (↑(List.length c) : Int))) false (decide_eq_false (by omega)) ?_
    refine kcf (k_exit_seq (k_exit_back (k_exit_hit rfl (k_skip_nil ?_))))
    refine ⟨.inl rfl, rfl, ?_⟩
    rw [hout]
    show _ = _
    kernel_rfl
end Go.Abs.B

/-
  proof.Make, and the statement ProofMakes as the machine code sees it.
-/
namespace Go.Abs.B
open Go Go.Abs
set_option maxRecDepth 8000
attribute [local irreducible] callN runC evalOp

theorem make_ok (n : Nat) (a b : List Int) (p : Int) (o1 o2 : Option Nat) (hn : a.length + b.length < n) (hc : a.length + b.length < 4096) :
    ∃ σ, callN T (n + 3) 20 [.sl (ints a) o1, .sl (ints b) o2, .int .i64 p] [] = some (.tup [.sl (ints (makeR a b p).1) none, .int .i64 (makeR a b p).2], σ) := by
  have ht : (makeR a b p).1 = (if makes a b p then made a b p else []) := by unfold makeR; split <;> rfl
  have he : (makeR a b p).2 = (if makes a b p then 0 else 50) := by unfold makeR; split <;> rfl
  rw [ht, he]
  by_cases hm : makes a b p
  · have h0 : ¬ p = 0 := hm.1
    have h1 : p ∈ a := hm.2.1
    have h2 : IntKind.wrap IntKind.i64 (0 - p) ∈ b := hm.2.2
    rw [if_pos hm, if_pos hm]
    refine ⟨st33 (made a b p), ?_⟩
    refine call_of (m := m20) rfl rfl (by decide) (k_start ?_)
    unfold m20
    have hl := addAll_len p a []
    simp only [List.length_nil] at hl
    refine k_seq ?_
    refine rv (D.sl [] (some (3 : Nat))) ?_
    refine rv (D.int IntKind.i64 (0 : Int)) ?_
    refine k_done (k_skip_seq (k_seq (k_seq ?_)))
    refine rv (D.int IntKind.i64 p) ?_
    refine rv (D.bool (p == (0 : Int))) ?_
    refine rv (D.bool (p == (0 : Int))) ?_
    refine rkn 13 (p == (0 : Int)) false (decide_eq_false (by assumption)) ?_
    refine rv (D.sl (ints a) none) ?_
    refine rv (D.int IntKind.i64 p) ?_
    refine runs_call ([D.sl (ints a) none, D.int IntKind.i64 p]) (by kernel_rfl) (by kernel_rfl) (by kernel_rfl) (by kernel_rfl) (contains_ok _ _ _ _ _ (by omega) (by omega)) (by kernel_rfl) ?_
    refine rv (D.bool !decide (p ∈ a)) ?_
    refine rv (D.bool !decide (p ∈ a)) ?_
    refine rv (D.bool !decide (p ∈ a)) ?_
    refine rkn 19 (!decide (p ∈ a)) false (by simp only [*, decide_true, decide_false, not_false_eq_true, Bool.not_true, Bool.not_false]) ?_
    refine rv (D.sl (ints b) none) ?_
    refine rv (D.int IntKind.i64 p) ?_
    refine rv (D.int IntKind.i64 (IntKind.wrap IntKind.i64 ((0 : Int) - p))) ?_
    refine runs_call ([D.sl (ints b) none, D.int IntKind.i64 (IntKind.wrap IntKind.i64 ((0 : Int) - p))]) (by kernel_rfl) (by kernel_rfl) (by kernel_rfl) (by kernel_rfl) (contains_ok _ _ _ _ _ (by omega) (by omega)) (by kernel_rfl) ?_
    refine rv (D.bool !decide (IntKind.wrap IntKind.i64 ((0 : Int) - p) ∈ b)) ?_
    refine rv (D.bool !decide (IntKind.wrap IntKind.i64 ((0 : Int) - p) ∈ b)) ?_
    refine k_done (k_skip_seq ?_)
    refine rkn 25 (!decide (IntKind.wrap IntKind.i64 ((0 : Int) - p) ∈ b)) false (by simp only [*, decide_true, decide_false, not_false_eq_true, Bool.not_true, Bool.not_false]) ?_
    refine kcf (k_skip_seq (k_seq ?_))
    refine rgs (D.map (0 : Nat)) ([Obj.map []]) ?_
    refine rgf (D.lptr (8 : Nat) (0 : Nat)) ([Obj.map []]) ?_
    refine rgf (D.junk) ([Obj.map []]) ?_
    refine k_done (k_skip_seq (k_seq ?_))
    refine rgf (D.lptr (9 : Nat) (0 : Nat)) ([Obj.map []]) ?_
    refine k_done (k_skip_seq (k_seq ?_))
    refine rgf (D.func (33 : Nat) [D.ptr (1 : Nat) (0 : Nat), D.ptr (2 : Nat) (0 : Nat)]) ([Obj.map [], Obj.cells [D.map (0 : Nat)], Obj.cells [D.sl [] (some (3 : Nat))]]) ?_
    refine ra0 (D.func (33 : Nat) [D.ptr (1 : Nat) (0 : Nat), D.ptr (2 : Nat) (0 : Nat)]) ?_
    refine k_done (k_skip_seq (k_seq ?_))
    refine rv (D.func (33 : Nat) [D.ptr (1 : Nat) (0 : Nat), D.ptr (2 : Nat) (0 : Nat)]) ?_
    refine rv (D.sl (ints a) none) ?_
    refine rv (D.int IntKind.i64 p) ?_
    refine runs_callv_st ((33 : Nat)) ([D.ptr (1 : Nat) (0 : Nat), D.ptr (2 : Nat) (0 : Nat)]) ([D.sl (ints a) none, D.int IntKind.i64 p]) ([D.sl (ints a) none, D.int IntKind.i64 p, D.ptr (1 : Nat) (0 : Nat), D.ptr (2 : Nat) (0 : Nat)]) (by kernel_rfl) (by kernel_rfl) (by kernel_rfl) (by kernel_rfl) (by kernel_rfl) (by kernel_rfl) (put_ok _ _ _ _ [] (by omega) (by simp; omega)) ?_
    refine k_done (k_skip_seq (k_seq ?_))
    refine rv (D.func (33 : Nat) [D.ptr (1 : Nat) (0 : Nat), D.ptr (2 : Nat) (0 : Nat)]) ?_
    refine rv (D.sl (ints b) none) ?_
    refine rv (D.int IntKind.i64 p) ?_
    refine rv (D.int IntKind.i64 (IntKind.wrap IntKind.i64 ((0 : Int) - p))) ?_
    refine runs_callv_st ((33 : Nat)) ([D.ptr (1 : Nat) (0 : Nat), D.ptr (2 : Nat) (0 : Nat)]) ([D.sl (ints b) none, D.int IntKind.i64 (IntKind.wrap IntKind.i64 ((0 : Int) - p))]) ([D.sl (ints b) none, D.int IntKind.i64 (IntKind.wrap IntKind.i64 ((0 : Int) - p)), D.ptr (1 : Nat) (0 : Nat), D.ptr (2 : Nat) (0 : Nat)]) (by kernel_rfl) (by kernel_rfl) (by kernel_rfl) (by kernel_rfl) (by kernel_rfl) (by kernel_rfl) (put_ok _ _ _ _ (addAll p a []) (by omega) (by omega)) ?_
    refine k_done (k_skip_seq (k_seq ?_))
    refine rv (D.sl (ints (addAll (IntKind.wrap IntKind.i64 ((0 : Int) - p)) b (addAll p a []))) none) ?_
    refine ra0 (D.sl (ints (addAll (IntKind.wrap IntKind.i64 ((0 : Int) - p)) b (addAll p a []))) none) ?_
    refine rv (D.int IntKind.i64 (0 : Int)) ?_
    refine k_done (k_skip_seq (k_ret ?_))
    exact ⟨.inr rfl, by kernel_rfl, by kernel_rfl⟩
  · rw [if_neg hm, if_neg hm]
    refine ⟨[], ?_⟩
    refine call_of (m := m20) rfl rfl (by decide) (k_start ?_)
    unfold m20
    by_cases h0 : p = 0
    · refine k_seq ?_
      refine rv (D.sl [] (some (3 : Nat))) ?_
      refine rv (D.int IntKind.i64 (0 : Int)) ?_
      refine k_done (k_skip_seq (k_seq (k_seq ?_)))
      refine rv (D.int IntKind.i64 p) ?_
      refine rv (D.bool (p == (0 : Int))) ?_
      refine rv (D.bool (p == (0 : Int))) ?_
      refine rkn 13 (p == (0 : Int)) true (decide_eq_true (by assumption)) ?_
      refine rno (rno (rno (rno ?_)))
      refine rv (D.bool true) ?_
      refine rv (D.bool true) ?_
      refine rno (rno (rno (rno (rno ?_))))
      refine rv (D.bool true) ?_
      refine k_done (k_skip_seq (kct (k_seq ?_)))
      refine rv (D.sl [] (some (3 : Nat))) ?_
      refine rv (D.int IntKind.i64 (50 : Int)) ?_
      refine k_done (k_skip_seq (k_ret ?_))
      exact ⟨.inr rfl, rfl, by kernel_rfl⟩
    by_cases h1 : p ∈ a
    · by_cases h2 : IntKind.wrap IntKind.i64 (0 - p) ∈ b
      · exact absurd ⟨h0, h1, h2⟩ hm
      · refine k_seq ?_
        refine rv (D.sl [] (some (3 : Nat))) ?_
        refine rv (D.int IntKind.i64 (0 : Int)) ?_
        refine k_done (k_skip_seq (k_seq (k_seq ?_)))
        refine rv (D.int IntKind.i64 p) ?_
        refine rv (D.bool (p == (0 : Int))) ?_
        refine rv (D.bool (p == (0 : Int))) ?_
        refine rkn 13 (p == (0 : Int)) false (decide_eq_false (by assumption)) ?_
        refine rv (D.sl (ints a) none) ?_
        refine rv (D.int IntKind.i64 p) ?_
        refine runs_call ([D.sl (ints a) none, D.int IntKind.i64 p]) (by kernel_rfl) (by kernel_rfl) (by kernel_rfl) (by kernel_rfl) (contains_ok _ _ _ _ _ (by omega) (by omega)) (by kernel_rfl) ?_
        refine rv (D.bool !decide (p ∈ a)) ?_
        refine rv (D.bool !decide (p ∈ a)) ?_
        refine rv (D.bool !decide (p ∈ a)) ?_
        refine rkn 19 (!decide (p ∈ a)) false (by simp only [*, decide_true, decide_false, not_false_eq_true, Bool.not_true, Bool.not_false]) ?_
        refine rv (D.sl (ints b) none) ?_
        refine rv (D.int IntKind.i64 p) ?_
        refine rv (D.int IntKind.i64 (IntKind.wrap IntKind.i64 ((0 : Int) - p))) ?_
        refine runs_call ([D.sl (ints b) none, D.int IntKind.i64 (IntKind.wrap IntKind.i64 ((0 : Int) - p))]) (by kernel_rfl) (by kernel_rfl) (by kernel_rfl) (by kernel_rfl) (contains_ok _ _ _ _ _ (by omega) (by omega)) (by kernel_rfl) ?_
        refine rv (D.bool !decide (IntKind.wrap IntKind.i64 ((0 : Int) - p) ∈ b)) ?_
        refine rv (D.bool !decide (IntKind.wrap IntKind.i64 ((0 : Int) - p) ∈ b)) ?_
        refine k_done (k_skip_seq ?_)
        refine rkn 25 (!decide (IntKind.wrap IntKind.i64 ((0 : Int) - p) ∈ b)) true (by simp only [*, decide_true, decide_false, not_false_eq_true, Bool.not_true, Bool.not_false]) ?_
        refine kct (k_seq ?_)
        refine rv (D.sl [] (some (3 : Nat))) ?_
        refine rv (D.int IntKind.i64 (50 : Int)) ?_
        refine k_done (k_skip_seq (k_ret ?_))
        exact ⟨.inr rfl, rfl, by kernel_rfl⟩
    · refine k_seq ?_
      refine rv (D.sl [] (some (3 : Nat))) ?_
      refine rv (D.int IntKind.i64 (0 : Int)) ?_
      refine k_done (k_skip_seq (k_seq (k_seq ?_)))
      refine rv (D.int IntKind.i64 p) ?_
      refine rv (D.bool (p == (0 : Int))) ?_
      refine rv (D.bool (p == (0 : Int))) ?_
      refine rkn 13 (p == (0 : Int)) false (decide_eq_false (by assumption)) ?_
      refine rv (D.sl (ints a) none) ?_
      refine rv (D.int IntKind.i64 p) ?_
      refine runs_call ([D.sl (ints a) none, D.int IntKind.i64 p]) (by kernel_rfl) (by kernel_rfl) (by kernel_rfl) (by kernel_rfl) (contains_ok _ _ _ _ _ (by omega) (by omega)) (by kernel_rfl) ?_
      refine rv (D.bool !decide (p ∈ a)) ?_
      refine rv (D.bool !decide (p ∈ a)) ?_
      refine rv (D.bool !decide (p ∈ a)) ?_
      refine rkn 19 (!decide (p ∈ a)) true (by simp only [*, decide_true, decide_false, not_false_eq_true, Bool.not_true, Bool.not_false]) ?_
      refine rno (rno (rno (rno (rno ?_))))
      refine rv (D.bool true) ?_
      refine k_done (k_skip_seq (kct (k_seq ?_)))
      refine rv (D.sl [] (some (3 : Nat))) ?_
      refine rv (D.int IntKind.i64 (50 : Int)) ?_
      refine k_done (k_skip_seq (k_ret ?_))
      exact ⟨.inr rfl, rfl, by kernel_rfl⟩

theorem awake_ok : callN T 99 12 [] [] = some (.bool true, []) := by kernel_rfl

def f5 (a b : List Int) (p e : Int) (c : List Int) (i : Int) : Fr := Fr.mk ([.sl (ints a) none, .sl (ints b) none, .int .i64 p, .junk, .junk, .junk, .bool false, .junk, .sl (ints c) none, .junk, .sl (ints c) none, .junk, .int .i64 i] ++ List.replicate 50 .junk) (List.replicate 63 none) []
theorem law_ok (a b : List Int) (p : Int) (o1 o2 : Option Nat) :
    ∃ σ, callN T 100 5 [.sl (ints a) o1, .sl (ints b) o2, .int .i64 p] [] = some (.bool true, σ) := by
  refine ⟨[], ?_⟩
  refine call_of (m := m5) rfl rfl (by decide) (k_start ?_)
  unfold m5
  by_cases h1 : a.length > 30
  · refine k_seq ?_
    refine rv (D.bool false) ?_
    refine k_done (k_skip_seq (k_seq ?_))
    refine runs_call ([]) (by kernel_rfl) (by kernel_rfl) (by kernel_rfl) (by kernel_rfl) (awake_ok) (by kernel_rfl) ?_
    refine ra0 (D.bool true) ?_
    refine k_done (k_skip_seq (k_seq (k_seq ?_)))
    refine rv (D.bool true) ?_
    refine rv (D.bool false) ?_
    refine k_done (k_skip_seq (kcf (k_skip_seq (k_seq (k_seq ?_)))))
    refine rv (D.sl (ints a) none) ?_
    refine rve (D.int IntKind.i64 (↑(List.length (ints a)) : Int)) (.int IntKind.i64 ((↑(List.length a) : Int))) (by simp only [ints, eInt, List.length_map, List.length_append, List.length_cons, List.length_nil]) ?_
    refine rv (D.bool (decide ((↑(List.length a) : Int) > (30 : Int)))) ?_
    refine rv (D.bool (decide ((↑(List.length a) : Int) > (30 : Int)))) ?_
    refine rkn 19 (decide ((↑(List.length a) : Int) > (30 : Int))) true (decide_eq_true (by omega)) ?_
    refine rno (rno (rno ?_))
    refine rv (D.bool true) ?_
    refine k_done (k_skip_seq (kct (k_seq ?_)))
    refine rv (D.bool true) ?_
    refine k_done (k_skip_seq (k_ret ?_))
    exact ⟨.inr rfl, by kernel_rfl, by kernel_rfl⟩
  by_cases h2 : b.length > 30
  · refine k_seq ?_
    refine rv (D.bool false) ?_
    refine k_done (k_skip_seq (k_seq ?_))
    refine runs_call ([]) (by kernel_rfl) (by kernel_rfl) (by kernel_rfl) (by kernel_rfl) (awake_ok) (by kernel_rfl) ?_
    refine ra0 (D.bool true) ?_
    refine k_done (k_skip_seq (k_seq (k_seq ?_)))
    refine rv (D.bool true) ?_
    refine rv (D.bool false) ?_
    refine k_done (k_skip_seq (kcf (k_skip_seq (k_seq (k_seq ?_)))))
    refine rv (D.sl (ints a) none) ?_
    refine rve (D.int IntKind.i64 (↑(List.length (ints a)) : Int)) (.int IntKind.i64 ((↑(List.length a) : Int))) (by simp only [ints, eInt, List.length_map, List.length_append, List.length_cons, List.length_nil]) ?_
    refine rv (D.bool (decide ((↑(List.length a) : Int) > (30 : Int)))) ?_
    refine rv (D.bool (decide ((↑(List.length a) : Int) > (30 : Int)))) ?_
    refine rkn 19 (decide ((↑(List.length a) : Int) > (30 : Int))) false (decide_eq_false (by omega)) ?_
    refine rv (D.sl (ints b) none) ?_
    refine rve (D.int IntKind.i64 (↑(List.length (ints b)) : Int)) (.int IntKind.i64 ((↑(List.length b) : Int))) (by simp only [ints, eInt, List.length_map, List.length_append, List.length_cons, List.length_nil]) ?_
    refine rv (D.bool (decide ((↑(List.length b) : Int) > (30 : Int)))) ?_
    refine rv (D.bool (decide ((↑(List.length b) : Int) > (30 : Int)))) ?_
    refine k_done (k_skip_seq ?_)
    refine rkn 23 (decide ((↑(List.length b) : Int) > (30 : Int))) true (decide_eq_true (by omega)) ?_
    refine kct (k_seq ?_)
    refine rv (D.bool true) ?_
    refine k_done (k_skip_seq (k_ret ?_))
    exact ⟨.inr rfl, by kernel_rfl, by kernel_rfl⟩
  obtain ⟨σ, hmk⟩ := make_ok 96 a b p none none (by omega) (by omega)
  have hrf := refMake_ok 97 a b p none none [] (by omega) (by omega)
  have hlen : (makeR a b p).1.length ≤ 60 := by
    unfold makeR
    split
    · show (addAll (negI p) b (addAll p a [])).length ≤ 60
      have h3 := addAll_len (negI p) b (addAll p a [])
      have h4 := addAll_len p a []
      simp only [List.length_nil] at h4
      omega
    · simp
  generalize (makeR a b p).1 = c at hmk hrf hlen
  generalize (makeR a b p).2 = e at hmk hrf
  refine k_seq ?_
  refine rv (D.bool false) ?_
  refine k_done (k_skip_seq (k_seq ?_))
  refine runs_call ([]) (by kernel_rfl) (by kernel_rfl) (by kernel_rfl) (by kernel_rfl) (awake_ok) (by kernel_rfl) ?_
  refine ra0 (D.bool true) ?_
  refine k_done (k_skip_seq (k_seq (k_seq ?_)))
  refine rv (D.bool true) ?_
  refine rv (D.bool false) ?_
  refine k_done (k_skip_seq (kcf (k_skip_seq (k_seq (k_seq ?_)))))
  refine rv (D.sl (ints a) none) ?_
  refine rve (D.int IntKind.i64 (↑(List.length (ints a)) : Int)) (.int IntKind.i64 ((↑(List.length a) : Int))) (by simp only [ints, eInt, List.length_map, List.length_append, List.length_cons, List.length_nil]) ?_
  refine rv (D.bool (decide ((↑(List.length a) : Int) > (30 : Int)))) ?_
  refine rv (D.bool (decide ((↑(List.length a) : Int) > (30 : Int)))) ?_
  refine rkn 19 (decide ((↑(List.length a) : Int) > (30 : Int))) false (decide_eq_false (by omega)) ?_
  refine rv (D.sl (ints b) none) ?_
  refine rve (D.int IntKind.i64 (↑(List.length (ints b)) : Int)) (.int IntKind.i64 ((↑(List.length b) : Int))) (by simp only [ints, eInt, List.length_map, List.length_append, List.length_cons, List.length_nil]) ?_
  refine rv (D.bool (decide ((↑(List.length b) : Int) > (30 : Int)))) ?_
  refine rv (D.bool (decide ((↑(List.length b) : Int) > (30 : Int)))) ?_
  refine k_done (k_skip_seq ?_)
  refine rkn 23 (decide ((↑(List.length b) : Int) > (30 : Int))) false (decide_eq_false (by omega)) ?_
  refine kcf (k_skip_seq (k_seq ?_))
  refine rv (D.sl (ints a) none) ?_
  refine rv (D.sl (ints b) none) ?_
  refine rv (D.int IntKind.i64 p) ?_
  refine runs_call ([D.sl (ints a) none, D.sl (ints b) none, D.int IntKind.i64 p]) (by kernel_rfl) (by kernel_rfl) (by kernel_rfl) (by kernel_rfl) (hmk) (by kernel_rfl) ?_
  refine rv (D.tup [D.sl (ints c) none, D.int IntKind.i64 e]) ?_
  refine rv (D.sl (ints c) none) ?_
  refine rv (D.int IntKind.i64 e) ?_
  refine ra0 (D.sl (ints c) none) ?_
  refine ra0 (D.int IntKind.i64 e) ?_
  refine k_done (k_skip_seq (k_seq ?_))
  refine rv (D.sl (ints a) none) ?_
  refine rv (D.sl (ints b) none) ?_
  refine rv (D.int IntKind.i64 p) ?_
  refine runs_call ([D.sl (ints a) none, D.sl (ints b) none, D.int IntKind.i64 p]) (by kernel_rfl) (by kernel_rfl) (by kernel_rfl) (by kernel_rfl) (hrf) (by kernel_rfl) ?_
  refine rv (D.tup [D.sl (ints c) none, D.int IntKind.i64 e]) ?_
  refine rv (D.sl (ints c) none) ?_
  refine rv (D.int IntKind.i64 e) ?_
  refine ra0 (D.sl (ints c) none) ?_
  refine ra0 (D.int IntKind.i64 e) ?_
  refine k_done (k_skip_seq (k_seq (k_seq ?_)))
  refine rv (D.int IntKind.i64 e) ?_
  refine rv (D.int IntKind.i64 e) ?_
  refine rv (D.bool (e != e)) ?_
  refine rv (D.bool (e != e)) ?_
  refine rkn 41 (e != e) false (bne_eq_false_iff_eq.2 (by omega)) ?_
  refine rv (D.sl (ints c) none) ?_
  refine rve (D.int IntKind.i64 (↑(List.length (ints c)) : Int)) (.int IntKind.i64 ((↑(List.length c) : Int))) (by simp only [ints, eInt, List.length_map, List.length_append, List.length_cons, List.length_nil]) ?_
  refine rv (D.sl (ints c) none) ?_
  refine rve (D.int IntKind.i64 (↑(List.length (ints c)) : Int)) (.int IntKind.i64 ((↑(List.length c) : Int))) (by simp only [ints, eInt, List.length_map, List.length_append, List.length_cons, List.length_nil]) ?_
  refine rv (D.bool ((↑(List.length c) : Int) != (↑(List.length c) : Int))) ?_
  refine rv (D.bool ((↑(List.length c) : Int) != (↑(List.length c) : Int))) ?_
  refine k_done (k_skip_seq ?_)
  refine rkn 47 ((↑(List.length c) : Int) != (↑(List.length c) : Int)) false (bne_eq_false_iff_eq.2 (by omega)) ?_
  refine kcf (k_skip_seq (k_seq (k_seq ?_)))
  refine rv (D.int IntKind.i64 (0 : Int)) ?_
  refine k_done (k_skip_seq (k_block ?_))
  refine k_loop (fun i : Nat => f5 a b p e c i) (fun _ => []) (fun i => i ≤ c.length) (fun i => c.length - i) 0 (by kernel_rfl) rfl (by simp) (by omega) ?_
  intro i hi
  by_cases hlt : i < c.length
  · refine k_seq (k_seq ?_)
    refine rv (D.int IntKind.i64 (↑i : Int)) ?_
    refine rv (D.sl (ints c) none) ?_
    refine rve (D.int IntKind.i64 (↑(List.length (ints c)) : Int)) (.int IntKind.i64 ((↑(List.length c) : Int))) (by simp only [ints, eInt, List.length_map, List.length_append, List.length_cons, List.length_nil]) ?_
    refine rv (D.bool (decide ((↑i : Int) < (↑(List.length c) : Int)))) ?_
    refine k_done (k_skip_seq ?_)
    refine rkn 51 (decide ((↑i : Int) < (↑(List.length c) : Int))) true (decide_eq_true (by omega)) ?_
    refine kct (k_skip_seq (k_seq (k_block (k_seq ?_))))
    refine rv (D.sl (ints c) none) ?_
    refine rv (D.int IntKind.i64 (↑i : Int)) ?_
    refine runs_index (c) (eInt) (o := none) (kd := IntKind.i64) (i) (by kernel_rfl) (by kernel_rfl) (by kernel_rfl) (by assumption) (by kernel_rfl) ?_
    refine rv (D.int IntKind.i64 c[i]) ?_
    refine rv (D.sl (ints c) none) ?_
    refine rv (D.int IntKind.i64 (↑i : Int)) ?_
    refine runs_index (c) (eInt) (o := none) (kd := IntKind.i64) (i) (by kernel_rfl) (by kernel_rfl) (by kernel_rfl) (by assumption) (by kernel_rfl) ?_
    refine rv (D.int IntKind.i64 c[i]) ?_
    refine rv (D.bool (c[i] != c[i])) ?_
    refine k_done (k_skip_seq ?_)
    refine rkn 62 (c[i] != c[i]) false (bne_eq_false_iff_eq.2 (by omega)) ?_
    refine kcf (k_skip_block (k_skip_seq ?_))
    refine rv (D.int IntKind.i64 (↑i : Int)) ?_
    refine rve (D.int IntKind.i64 (IntKind.wrap IntKind.i64 ((↑i : Int) + (1 : Int)))) (.int IntKind.i64 ((i + 1 : Nat) : Int)) (congrArg (D.int IntKind.i64) (show IntKind.wrap IntKind.i64 ((↑i : Int) + (1 : Int)) = ((i + 1 : Nat) : Int) by rw [IntKind.wrap_i64] <;> omega)) ?_
    refine ra0 (D.int IntKind.i64 (↑(i + (1 : Nat)) : Int)) ?_
    refine k_done (k_skip_back ?_)
    exact ⟨i + 1, hlt, by omega, by kernel_rfl, rfl⟩
  · refine k_seq (k_seq ?_)
    refine rv (D.int IntKind.i64 (↑i : Int)) ?_
    refine rv (D.sl (ints c) none) ?_
    refine rve (D.int IntKind.i64 (↑(List.length (ints c)) : Int)) (.int IntKind.i64 ((↑(List.length c) : Int))) (by simp only [ints, eInt, List.length_map, List.length_append, List.length_cons, List.length_nil]) ?_
    refine rv (D.bool (decide ((↑i : Int) < (↑(List.length c) : Int)))) ?_
    refine k_done (k_skip_seq ?_)
    refine rkn 51 (decide ((↑i : Int) < (↑(List.length c) : Int))) false (decide_eq_false (by omega)) ?_
    refine kcf (k_exit_seq (k_exit_back (k_exit_hit rfl (k_skip_seq (k_seq ?_)))))
    refine rv (D.bool true) ?_
    refine k_done (k_skip_seq (k_ret ?_))
    exact ⟨.inr rfl, by kernel_rfl, by kernel_rfl⟩
end Go.Abs.B
