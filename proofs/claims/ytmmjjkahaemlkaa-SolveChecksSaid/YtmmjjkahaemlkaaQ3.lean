/-
  proof.Make, and the statement ProofMakes as the machine code sees it.
-/
import Derived.Test.YtmmjjkahaemlkaaKont
import Derived.Test.YtmmjjkahaemlkaaQ2
set_option linter.unusedVariables false
set_option linter.unusedSimpArgs false
namespace Go.Abs.B
open Go Go.Abs
set_option maxRecDepth 8000
attribute [local irreducible] callN runC evalOp

theorem make_ok (n : Nat) (a b : List Int) (p : Int) (o1 o2 : Option Nat) (hn : a.length + b.length < n) (hc : a.length + b.length < 4096) :
    ∃ σ, callN T (n + 3) 20 [.sl (ints a) o1, .sl (ints b) o2, .int .i64 p] [] = some (.tup [.sl (ints (makeR a b p).1) none, .int .i64 (makeR a b p).2], σ) := by
  have ht : (makeR a b p).1 = (if makes a b p then made a b p else []) := by unfold makeR; split <;> rfl
  have he : (makeR a b p).2 = (if makes a b p then 0 else 50) := by unfold makeR; split <;> rfl
  rw [ht, he]
  by_cases hm : makes a b p
  · have h0 : ¬ p = 0 := hm.1
    have h1 : p ∈ a := hm.2.1
    have h2 : IntKind.wrap IntKind.i64 (0 - p) ∈ b := hm.2.2
    rw [if_pos hm, if_pos hm]
    refine ⟨st33 (made a b p), ?_⟩
    refine call_of (m := m20) rfl rfl (by decide) (k_start ?_)
    unfold m20
    have hl := addAll_len p a []
    simp only [List.length_nil] at hl
    refine k_seq ?_
    refine runs_v (D.sl [] (some (3 : Nat))) (by kernel_rfl) (by kernel_rfl) ?_
    refine runs_v (D.int IntKind.i64 (0 : Int)) (by kernel_rfl) (by kernel_rfl) ?_
    refine k_done ?_
    refine k_skip_seq ?_
    refine k_seq ?_
    refine k_seq ?_
    refine runs_v (D.int IntKind.i64 p) (by kernel_rfl) (by kernel_rfl) ?_
    refine runs_v (D.bool (p == (0 : Int))) (by kernel_rfl) (by kernel_rfl) ?_
    refine runs_v (D.bool (p == (0 : Int))) (by kernel_rfl) (by kernel_rfl) ?_
    refine runs_know 13 (d := .bool (p == (0 : Int))) (d' := .bool false) (by kernel_rfl) (congrArg D.bool (show (p == (0 : Int)) = false from (decide_eq_false (by assumption)))) ?_
    refine runs_v (D.sl (ints a) none) (by kernel_rfl) (by kernel_rfl) ?_
    refine runs_v (D.int IntKind.i64 p) (by kernel_rfl) (by kernel_rfl) ?_
    refine runs_call ([D.sl (ints a) none, D.int IntKind.i64 p]) (by kernel_rfl) (by kernel_rfl) (by kernel_rfl) (by kernel_rfl) (contains_ok _ _ _ _ _ (by omega) (by omega)) (by kernel_rfl) ?_
    refine runs_v (D.bool !decide (p ∈ a)) (by kernel_rfl) (by kernel_rfl) ?_
    refine runs_v (D.bool !decide (p ∈ a)) (by kernel_rfl) (by kernel_rfl) ?_
    refine runs_v (D.bool !decide (p ∈ a)) (by kernel_rfl) (by kernel_rfl) ?_
    refine runs_know 19 (d := .bool (!decide (p ∈ a))) (d' := .bool false) (by kernel_rfl) (congrArg D.bool (show (!decide (p ∈ a)) = false from (by simp only [*, decide_true, decide_false, not_false_eq_true, Bool.not_true, Bool.not_false]))) ?_
    refine runs_v (D.sl (ints b) none) (by kernel_rfl) (by kernel_rfl) ?_
    refine runs_v (D.int IntKind.i64 p) (by kernel_rfl) (by kernel_rfl) ?_
    refine runs_v (D.int IntKind.i64 (IntKind.wrap IntKind.i64 ((0 : Int) - p))) (by kernel_rfl) (by kernel_rfl) ?_
    refine runs_call ([D.sl (ints b) none, D.int IntKind.i64 (IntKind.wrap IntKind.i64 ((0 : Int) - p))]) (by kernel_rfl) (by kernel_rfl) (by kernel_rfl) (by kernel_rfl) (contains_ok _ _ _ _ _ (by omega) (by omega)) (by kernel_rfl) ?_
    refine runs_v (D.bool !decide (IntKind.wrap IntKind.i64 ((0 : Int) - p) ∈ b)) (by kernel_rfl) (by kernel_rfl) ?_
    refine runs_v (D.bool !decide (IntKind.wrap IntKind.i64 ((0 : Int) - p) ∈ b)) (by kernel_rfl) (by kernel_rfl) ?_
    refine k_done ?_
    refine k_skip_seq ?_
    refine runs_know 25 (d := .bool (!decide (IntKind.wrap IntKind.i64 ((0 : Int) - p) ∈ b))) (d' := .bool false) (by kernel_rfl) (congrArg D.bool (show (!decide (IntKind.wrap IntKind.i64 ((0 : Int) - p) ∈ b)) = false from (by simp only [*, decide_true, decide_false, not_false_eq_true, Bool.not_true, Bool.not_false]))) ?_
    refine k_cond_f (by kernel_rfl) ?_
    refine k_skip_seq ?_
    refine k_seq ?_
    refine runs_gs (D.map (0 : Nat)) ([Obj.map []]) (by kernel_rfl) (by kernel_rfl) ?_
    refine runs_gf (D.lptr (8 : Nat) (0 : Nat)) ([Obj.map []]) (by kernel_rfl) (by kernel_rfl) ?_
    refine runs_gf (D.junk) ([Obj.map []]) (by kernel_rfl) (by kernel_rfl) ?_
    refine k_done ?_
    refine k_skip_seq ?_
    refine k_seq ?_
    refine runs_gf (D.lptr (9 : Nat) (0 : Nat)) ([Obj.map []]) (by kernel_rfl) (by kernel_rfl) ?_
    refine k_done ?_
    refine k_skip_seq ?_
    refine k_seq ?_
    refine runs_gf (D.func (33 : Nat) [D.ptr (1 : Nat) (0 : Nat), D.ptr (2 : Nat) (0 : Nat)]) ([Obj.map [], Obj.cells [D.map (0 : Nat)], Obj.cells [D.sl [] (some (3 : Nat))]]) (by kernel_rfl) (by kernel_rfl) ?_
    refine runs_assign0 (D.func (33 : Nat) [D.ptr (1 : Nat) (0 : Nat), D.ptr (2 : Nat) (0 : Nat)]) (by kernel_rfl) (by kernel_rfl) (by kernel_rfl) ?_
    refine k_done ?_
    refine k_skip_seq ?_
    refine k_seq ?_
    refine runs_v (D.func (33 : Nat) [D.ptr (1 : Nat) (0 : Nat), D.ptr (2 : Nat) (0 : Nat)]) (by kernel_rfl) (by kernel_rfl) ?_
    refine runs_v (D.sl (ints a) none) (by kernel_rfl) (by kernel_rfl) ?_
    refine runs_v (D.int IntKind.i64 p) (by kernel_rfl) (by kernel_rfl) ?_
    refine runs_callv_st ((33 : Nat)) ([D.ptr (1 : Nat) (0 : Nat), D.ptr (2 : Nat) (0 : Nat)]) ([D.sl (ints a) none, D.int IntKind.i64 p]) ([D.sl (ints a) none, D.int IntKind.i64 p, D.ptr (1 : Nat) (0 : Nat), D.ptr (2 : Nat) (0 : Nat)]) (by kernel_rfl) (by kernel_rfl) (by kernel_rfl) (by kernel_rfl) (by kernel_rfl) (by kernel_rfl) (put_ok _ _ _ _ [] (by omega) (by simp; omega)) ?_
    refine k_done ?_
    refine k_skip_seq ?_
    refine k_seq ?_
    refine runs_v (D.func (33 : Nat) [D.ptr (1 : Nat) (0 : Nat), D.ptr (2 : Nat) (0 : Nat)]) (by kernel_rfl) (by kernel_rfl) ?_
    refine runs_v (D.sl (ints b) none) (by kernel_rfl) (by kernel_rfl) ?_
    refine runs_v (D.int IntKind.i64 p) (by kernel_rfl) (by kernel_rfl) ?_
    refine runs_v (D.int IntKind.i64 (IntKind.wrap IntKind.i64 ((0 : Int) - p))) (by kernel_rfl) (by kernel_rfl) ?_
    refine runs_callv_st ((33 : Nat)) ([D.ptr (1 : Nat) (0 : Nat), D.ptr (2 : Nat) (0 : Nat)]) ([D.sl (ints b) none, D.int IntKind.i64 (IntKind.wrap IntKind.i64 ((0 : Int) - p))]) ([D.sl (ints b) none, D.int IntKind.i64 (IntKind.wrap IntKind.i64 ((0 : Int) - p)), D.ptr (1 : Nat) (0 : Nat), D.ptr (2 : Nat) (0 : Nat)]) (by kernel_rfl) (by kernel_rfl) (by kernel_rfl) (by kernel_rfl) (by kernel_rfl) (by kernel_rfl) (put_ok _ _ _ _ (addAll p a []) (by omega) (by omega)) ?_
    refine k_done ?_
    refine k_skip_seq ?_
    refine k_seq ?_
    refine runs_v (D.sl (ints (addAll (IntKind.wrap IntKind.i64 ((0 : Int) - p)) b (addAll p a []))) none) (by kernel_rfl) (by kernel_rfl) ?_
    refine runs_assign0 (D.sl (ints (addAll (IntKind.wrap IntKind.i64 ((0 : Int) - p)) b (addAll p a []))) none) (by kernel_rfl) (by kernel_rfl) (by kernel_rfl) ?_
    refine runs_v (D.int IntKind.i64 (0 : Int)) (by kernel_rfl) (by kernel_rfl) ?_
    refine k_done ?_
    refine k_skip_seq ?_
    refine k_ret ?_
    exact ⟨.inr rfl, by kernel_rfl, by kernel_rfl⟩
  · rw [if_neg hm, if_neg hm]
    refine ⟨[], ?_⟩
    refine call_of (m := m20) rfl rfl (by decide) (k_start ?_)
    unfold m20
    by_cases h0 : p = 0
    · refine k_seq ?_
      refine runs_v (D.sl [] (some (3 : Nat))) (by kernel_rfl) (by kernel_rfl) ?_
      refine runs_v (D.int IntKind.i64 (0 : Int)) (by kernel_rfl) (by kernel_rfl) ?_
      refine k_done ?_
      refine k_skip_seq ?_
      refine k_seq ?_
      refine k_seq ?_
      refine runs_v (D.int IntKind.i64 p) (by kernel_rfl) (by kernel_rfl) ?_
      refine runs_v (D.bool (p == (0 : Int))) (by kernel_rfl) (by kernel_rfl) ?_
      refine runs_v (D.bool (p == (0 : Int))) (by kernel_rfl) (by kernel_rfl) ?_
      refine runs_know 13 (d := .bool (p == (0 : Int))) (d' := .bool true) (by kernel_rfl) (congrArg D.bool (show (p == (0 : Int)) = true from (decide_eq_true (by assumption)))) ?_
      refine runs_no (by kernel_rfl) ?_
      refine runs_no (by kernel_rfl) ?_
      refine runs_no (by kernel_rfl) ?_
      refine runs_no (by kernel_rfl) ?_
      refine runs_v (D.bool true) (by kernel_rfl) (by kernel_rfl) ?_
      refine runs_v (D.bool true) (by kernel_rfl) (by kernel_rfl) ?_
      refine runs_no (by kernel_rfl) ?_
      refine runs_no (by kernel_rfl) ?_
      refine runs_no (by kernel_rfl) ?_
      refine runs_no (by kernel_rfl) ?_
      refine runs_no (by kernel_rfl) ?_
      refine runs_v (D.bool true) (by kernel_rfl) (by kernel_rfl) ?_
      refine k_done ?_
      refine k_skip_seq ?_
      refine k_cond_t (by kernel_rfl) ?_
      refine k_seq ?_
      refine runs_v (D.sl [] (some (3 : Nat))) (by kernel_rfl) (by kernel_rfl) ?_
      refine runs_v (D.int IntKind.i64 (50 : Int)) (by kernel_rfl) (by kernel_rfl) ?_
      refine k_done ?_
      refine k_skip_seq ?_
      refine k_ret ?_
      exact ⟨.inr rfl, rfl, by kernel_rfl⟩
    by_cases h1 : p ∈ a
    · by_cases h2 : IntKind.wrap IntKind.i64 (0 - p) ∈ b
      · exact absurd ⟨h0, h1, h2⟩ hm
      · refine k_seq ?_
        refine runs_v (D.sl [] (some (3 : Nat))) (by kernel_rfl) (by kernel_rfl) ?_
        refine runs_v (D.int IntKind.i64 (0 : Int)) (by kernel_rfl) (by kernel_rfl) ?_
        refine k_done ?_
        refine k_skip_seq ?_
        refine k_seq ?_
        refine k_seq ?_
        refine runs_v (D.int IntKind.i64 p) (by kernel_rfl) (by kernel_rfl) ?_
        refine runs_v (D.bool (p == (0 : Int))) (by kernel_rfl) (by kernel_rfl) ?_
        refine runs_v (D.bool (p == (0 : Int))) (by kernel_rfl) (by kernel_rfl) ?_
        refine runs_know 13 (d := .bool (p == (0 : Int))) (d' := .bool false) (by kernel_rfl) (congrArg D.bool (show (p == (0 : Int)) = false from (decide_eq_false (by assumption)))) ?_
        refine runs_v (D.sl (ints a) none) (by kernel_rfl) (by kernel_rfl) ?_
        refine runs_v (D.int IntKind.i64 p) (by kernel_rfl) (by kernel_rfl) ?_
        refine runs_call ([D.sl (ints a) none, D.int IntKind.i64 p]) (by kernel_rfl) (by kernel_rfl) (by kernel_rfl) (by kernel_rfl) (contains_ok _ _ _ _ _ (by omega) (by omega)) (by kernel_rfl) ?_
        refine runs_v (D.bool !decide (p ∈ a)) (by kernel_rfl) (by kernel_rfl) ?_
        refine runs_v (D.bool !decide (p ∈ a)) (by kernel_rfl) (by kernel_rfl) ?_
        refine runs_v (D.bool !decide (p ∈ a)) (by kernel_rfl) (by kernel_rfl) ?_
        refine runs_know 19 (d := .bool (!decide (p ∈ a))) (d' := .bool false) (by kernel_rfl) (congrArg D.bool (show (!decide (p ∈ a)) = false from (by simp only [*, decide_true, decide_false, not_false_eq_true, Bool.not_true, Bool.not_false]))) ?_
        refine runs_v (D.sl (ints b) none) (by kernel_rfl) (by kernel_rfl) ?_
        refine runs_v (D.int IntKind.i64 p) (by kernel_rfl) (by kernel_rfl) ?_
        refine runs_v (D.int IntKind.i64 (IntKind.wrap IntKind.i64 ((0 : Int) - p))) (by kernel_rfl) (by kernel_rfl) ?_
        refine runs_call ([D.sl (ints b) none, D.int IntKind.i64 (IntKind.wrap IntKind.i64 ((0 : Int) - p))]) (by kernel_rfl) (by kernel_rfl) (by kernel_rfl) (by kernel_rfl) (contains_ok _ _ _ _ _ (by omega) (by omega)) (by kernel_rfl) ?_
        refine runs_v (D.bool !decide (IntKind.wrap IntKind.i64 ((0 : Int) - p) ∈ b)) (by kernel_rfl) (by kernel_rfl) ?_
        refine runs_v (D.bool !decide (IntKind.wrap IntKind.i64 ((0 : Int) - p) ∈ b)) (by kernel_rfl) (by kernel_rfl) ?_
        refine k_done ?_
        refine k_skip_seq ?_
        refine runs_know 25 (d := .bool (!decide (IntKind.wrap IntKind.i64 ((0 : Int) - p) ∈ b))) (d' := .bool true) (by kernel_rfl) (congrArg D.bool (show (!decide (IntKind.wrap IntKind.i64 ((0 : Int) - p) ∈ b)) = true from (by simp only [*, decide_true, decide_false, not_false_eq_true, Bool.not_true, Bool.not_false]))) ?_
        refine k_cond_t (by kernel_rfl) ?_
        refine k_seq ?_
        refine runs_v (D.sl [] (some (3 : Nat))) (by kernel_rfl) (by kernel_rfl) ?_
        refine runs_v (D.int IntKind.i64 (50 : Int)) (by kernel_rfl) (by kernel_rfl) ?_
        refine k_done ?_
        refine k_skip_seq ?_
        refine k_ret ?_
        exact ⟨.inr rfl, rfl, by kernel_rfl⟩
    · refine k_seq ?_
      refine runs_v (D.sl [] (some (3 : Nat))) (by kernel_rfl) (by kernel_rfl) ?_
      refine runs_v (D.int IntKind.i64 (0 : Int)) (by kernel_rfl) (by kernel_rfl) ?_
      refine k_done ?_
      refine k_skip_seq ?_
      refine k_seq ?_
      refine k_seq ?_
      refine runs_v (D.int IntKind.i64 p) (by kernel_rfl) (by kernel_rfl) ?_
      refine runs_v (D.bool (p == (0 : Int))) (by kernel_rfl) (by kernel_rfl) ?_
      refine runs_v (D.bool (p == (0 : Int))) (by kernel_rfl) (by kernel_rfl) ?_
      refine runs_know 13 (d := .bool (p == (0 : Int))) (d' := .bool false) (by kernel_rfl) (congrArg D.bool (show (p == (0 : Int)) = false from (decide_eq_false (by assumption)))) ?_
      refine runs_v (D.sl (ints a) none) (by kernel_rfl) (by kernel_rfl) ?_
      refine runs_v (D.int IntKind.i64 p) (by kernel_rfl) (by kernel_rfl) ?_
      refine runs_call ([D.sl (ints a) none, D.int IntKind.i64 p]) (by kernel_rfl) (by kernel_rfl) (by kernel_rfl) (by kernel_rfl) (contains_ok _ _ _ _ _ (by omega) (by omega)) (by kernel_rfl) ?_
      refine runs_v (D.bool !decide (p ∈ a)) (by kernel_rfl) (by kernel_rfl) ?_
      refine runs_v (D.bool !decide (p ∈ a)) (by kernel_rfl) (by kernel_rfl) ?_
      refine runs_v (D.bool !decide (p ∈ a)) (by kernel_rfl) (by kernel_rfl) ?_
      refine runs_know 19 (d := .bool (!decide (p ∈ a))) (d' := .bool true) (by kernel_rfl) (congrArg D.bool (show (!decide (p ∈ a)) = true from (by simp only [*, decide_true, decide_false, not_false_eq_true, Bool.not_true, Bool.not_false]))) ?_
      refine runs_no (by kernel_rfl) ?_
      refine runs_no (by kernel_rfl) ?_
      refine runs_no (by kernel_rfl) ?_
      refine runs_no (by kernel_rfl) ?_
      refine runs_no (by kernel_rfl) ?_
      refine runs_v (D.bool true) (by kernel_rfl) (by kernel_rfl) ?_
      refine k_done ?_
      refine k_skip_seq ?_
      refine k_cond_t (by kernel_rfl) ?_
      refine k_seq ?_
      refine runs_v (D.sl [] (some (3 : Nat))) (by kernel_rfl) (by kernel_rfl) ?_
      refine runs_v (D.int IntKind.i64 (50 : Int)) (by kernel_rfl) (by kernel_rfl) ?_
      refine k_done ?_
      refine k_skip_seq ?_
      refine k_ret ?_
      exact ⟨.inr rfl, rfl, by kernel_rfl⟩

theorem awake_ok : callN T 99 12 [] [] = some (.bool true, []) := by kernel_rfl

def f5 (a b : List Int) (p e : Int) (c : List Int) (i : Int) : Fr := Fr.mk ([.sl (ints a) none, .sl (ints b) none, .int .i64 p, .junk, .junk, .junk, .bool false, .junk, .sl (ints c) none, .junk, .sl (ints c) none, .junk, .int .i64 i] ++ List.replicate 50 .junk) (List.replicate 63 none) []
theorem law_ok (a b : List Int) (p : Int) (o1 o2 : Option Nat) :
    ∃ σ, callN T 100 5 [.sl (ints a) o1, .sl (ints b) o2, .int .i64 p] [] = some (.bool true, σ) := by
  refine ⟨[], ?_⟩
  refine call_of (m := m5) rfl rfl (by decide) (k_start ?_)
  unfold m5
  by_cases h1 : a.length > 30
  · refine k_seq ?_
    refine runs_v (D.bool false) (by kernel_rfl) (by kernel_rfl) ?_
    refine k_done ?_
    refine k_skip_seq ?_
    refine k_seq ?_
    refine runs_call ([]) (by kernel_rfl) (by kernel_rfl) (by kernel_rfl) (by kernel_rfl) (awake_ok) (by kernel_rfl) ?_
    refine runs_assign0 (D.bool true) (by kernel_rfl) (by kernel_rfl) (by kernel_rfl) ?_
    refine k_done ?_
    refine k_skip_seq ?_
    refine k_seq ?_
    refine k_seq ?_
    refine runs_v (D.bool true) (by kernel_rfl) (by kernel_rfl) ?_
    refine runs_v (D.bool false) (by kernel_rfl) (by kernel_rfl) ?_
    refine k_done ?_
    refine k_skip_seq ?_
    refine k_cond_f (by kernel_rfl) ?_
    refine k_skip_seq ?_
    refine k_seq ?_
    refine k_seq ?_
    refine runs_v (D.sl (ints a) none) (by kernel_rfl) (by kernel_rfl) ?_
    refine runs_ve (D.int IntKind.i64 (↑(List.length (ints a)) : Int)) (.int IntKind.i64 ((↑(List.length a) : Int))) (by simp only [ints, eInt, List.length_map, List.length_append, List.length_cons, List.length_nil]) (by kernel_rfl) (by kernel_rfl) ?_
    refine runs_v (D.bool (decide ((↑(List.length a) : Int) > (30 : Int)))) (by kernel_rfl) (by kernel_rfl) ?_
    refine runs_v (D.bool (decide ((↑(List.length a) : Int) > (30 : Int)))) (by kernel_rfl) (by kernel_rfl) ?_
    refine runs_know 19 (d := .bool (decide ((↑(List.length a) : Int) > (30 : Int)))) (d' := .bool true) (by kernel_rfl) (congrArg D.bool (show (decide ((↑(List.length a) : Int) > (30 : Int))) = true from (decide_eq_true (by omega)))) ?_
    refine runs_no (by kernel_rfl) ?_
    refine runs_no (by kernel_rfl) ?_
    refine runs_no (by kernel_rfl) ?_
    refine runs_v (D.bool true) (by kernel_rfl) (by kernel_rfl) ?_
    refine k_done ?_
    refine k_skip_seq ?_
    refine k_cond_t (by kernel_rfl) ?_
    refine k_seq ?_
    refine runs_v (D.bool true) (by kernel_rfl) (by kernel_rfl) ?_
    refine k_done ?_
    refine k_skip_seq ?_
    refine k_ret ?_
    exact ⟨.inr rfl, by kernel_rfl, by kernel_rfl⟩
  by_cases h2 : b.length > 30
  · refine k_seq ?_
    refine runs_v (D.bool false) (by kernel_rfl) (by kernel_rfl) ?_
    refine k_done ?_
    refine k_skip_seq ?_
    refine k_seq ?_
    refine runs_call ([]) (by kernel_rfl) (by kernel_rfl) (by kernel_rfl) (by kernel_rfl) (awake_ok) (by kernel_rfl) ?_
    refine runs_assign0 (D.bool true) (by kernel_rfl) (by kernel_rfl) (by kernel_rfl) ?_
    refine k_done ?_
    refine k_skip_seq ?_
    refine k_seq ?_
    refine k_seq ?_
    refine runs_v (D.bool true) (by kernel_rfl) (by kernel_rfl) ?_
    refine runs_v (D.bool false) (by kernel_rfl) (by kernel_rfl) ?_
    refine k_done ?_
    refine k_skip_seq ?_
    refine k_cond_f (by kernel_rfl) ?_
    refine k_skip_seq ?_
    refine k_seq ?_
    refine k_seq ?_
    refine runs_v (D.sl (ints a) none) (by kernel_rfl) (by kernel_rfl) ?_
    refine runs_ve (D.int IntKind.i64 (↑(List.length (ints a)) : Int)) (.int IntKind.i64 ((↑(List.length a) : Int))) (by simp only [ints, eInt, List.length_map, List.length_append, List.length_cons, List.length_nil]) (by kernel_rfl) (by kernel_rfl) ?_
    refine runs_v (D.bool (decide ((↑(List.length a) : Int) > (30 : Int)))) (by kernel_rfl) (by kernel_rfl) ?_
    refine runs_v (D.bool (decide ((↑(List.length a) : Int) > (30 : Int)))) (by kernel_rfl) (by kernel_rfl) ?_
    refine runs_know 19 (d := .bool (decide ((↑(List.length a) : Int) > (30 : Int)))) (d' := .bool false) (by kernel_rfl) (congrArg D.bool (show (decide ((↑(List.length a) : Int) > (30 : Int))) = false from (decide_eq_false (by omega)))) ?_
    refine runs_v (D.sl (ints b) none) (by kernel_rfl) (by kernel_rfl) ?_
    refine runs_ve (D.int IntKind.i64 (↑(List.length (ints b)) : Int)) (.int IntKind.i64 ((↑(List.length b) : Int))) (by simp only [ints, eInt, List.length_map, List.length_append, List.length_cons, List.length_nil]) (by kernel_rfl) (by kernel_rfl) ?_
    refine runs_v (D.bool (decide ((↑(List.length b) : Int) > (30 : Int)))) (by kernel_rfl) (by kernel_rfl) ?_
    refine runs_v (D.bool (decide ((↑(List.length b) : Int) > (30 : Int)))) (by kernel_rfl) (by kernel_rfl) ?_
    refine k_done ?_
    refine k_skip_seq ?_
    refine runs_know 23 (d := .bool (decide ((↑(List.length b) : Int) > (30 : Int)))) (d' := .bool true) (by kernel_rfl) (congrArg D.bool (show (decide ((↑(List.length b) : Int) > (30 : Int))) = true from (decide_eq_true (by omega)))) ?_
    refine k_cond_t (by kernel_rfl) ?_
    refine k_seq ?_
    refine runs_v (D.bool true) (by kernel_rfl) (by kernel_rfl) ?_
    refine k_done ?_
    refine k_skip_seq ?_
    refine k_ret ?_
    exact ⟨.inr rfl, by kernel_rfl, by kernel_rfl⟩
  obtain ⟨σ, hmk⟩ := make_ok 96 a b p none none (by omega) (by omega)
  have hrf := refMake_ok 97 a b p none none [] (by omega) (by omega)
  have hlen : (makeR a b p).1.length ≤ 60 := by
    unfold makeR
    split
    · show (addAll (negI p) b (addAll p a [])).length ≤ 60
      have h3 := addAll_len (negI p) b (addAll p a [])
      have h4 := addAll_len p a []
      simp only [List.length_nil] at h4
      omega
    · simp
  generalize (makeR a b p).1 = c at hmk hrf hlen
  generalize (makeR a b p).2 = e at hmk hrf
  refine k_seq ?_
  refine runs_v (D.bool false) (by kernel_rfl) (by kernel_rfl) ?_
  refine k_done ?_
  refine k_skip_seq ?_
  refine k_seq ?_
  refine runs_call ([]) (by kernel_rfl) (by kernel_rfl) (by kernel_rfl) (by kernel_rfl) (awake_ok) (by kernel_rfl) ?_
  refine runs_assign0 (D.bool true) (by kernel_rfl) (by kernel_rfl) (by kernel_rfl) ?_
  refine k_done ?_
  refine k_skip_seq ?_
  refine k_seq ?_
  refine k_seq ?_
  refine runs_v (D.bool true) (by kernel_rfl) (by kernel_rfl) ?_
  refine runs_v (D.bool false) (by kernel_rfl) (by kernel_rfl) ?_
  refine k_done ?_
  refine k_skip_seq ?_
  refine k_cond_f (by kernel_rfl) ?_
  refine k_skip_seq ?_
  refine k_seq ?_
  refine k_seq ?_
  refine runs_v (D.sl (ints a) none) (by kernel_rfl) (by kernel_rfl) ?_
  refine runs_ve (D.int IntKind.i64 (↑(List.length (ints a)) : Int)) (.int IntKind.i64 ((↑(List.length a) : Int))) (by simp only [ints, eInt, List.length_map, List.length_append, List.length_cons, List.length_nil]) (by kernel_rfl) (by kernel_rfl) ?_
  refine runs_v (D.bool (decide ((↑(List.length a) : Int) > (30 : Int)))) (by kernel_rfl) (by kernel_rfl) ?_
  refine runs_v (D.bool (decide ((↑(List.length a) : Int) > (30 : Int)))) (by kernel_rfl) (by kernel_rfl) ?_
  refine runs_know 19 (d := .bool (decide ((↑(List.length a) : Int) > (30 : Int)))) (d' := .bool false) (by kernel_rfl) (congrArg D.bool (show (decide ((↑(List.length a) : Int) > (30 : Int))) = false from (decide_eq_false (by omega)))) ?_
  refine runs_v (D.sl (ints b) none) (by kernel_rfl) (by kernel_rfl) ?_
  refine runs_ve (D.int IntKind.i64 (↑(List.length (ints b)) : Int)) (.int IntKind.i64 ((↑(List.length b) : Int))) (by simp only [ints, eInt, List.length_map, List.length_append, List.length_cons, List.length_nil]) (by kernel_rfl) (by kernel_rfl) ?_
  refine runs_v (D.bool (decide ((↑(List.length b) : Int) > (30 : Int)))) (by kernel_rfl) (by kernel_rfl) ?_
  refine runs_v (D.bool (decide ((↑(List.length b) : Int) > (30 : Int)))) (by kernel_rfl) (by kernel_rfl) ?_
  refine k_done ?_
  refine k_skip_seq ?_
  refine runs_know 23 (d := .bool (decide ((↑(List.length b) : Int) > (30 : Int)))) (d' := .bool false) (by kernel_rfl) (congrArg D.bool (show (decide ((↑(List.length b) : Int) > (30 : Int))) = false from (decide_eq_false (by omega)))) ?_
  refine k_cond_f (by kernel_rfl) ?_
  refine k_skip_seq ?_
  refine k_seq ?_
  refine runs_v (D.sl (ints a) none) (by kernel_rfl) (by kernel_rfl) ?_
  refine runs_v (D.sl (ints b) none) (by kernel_rfl) (by kernel_rfl) ?_
  refine runs_v (D.int IntKind.i64 p) (by kernel_rfl) (by kernel_rfl) ?_
  refine runs_call ([D.sl (ints a) none, D.sl (ints b) none, D.int IntKind.i64 p]) (by kernel_rfl) (by kernel_rfl) (by kernel_rfl) (by kernel_rfl) (hmk) (by kernel_rfl) ?_
  refine runs_v (D.tup [D.sl (ints c) none, D.int IntKind.i64 e]) (by kernel_rfl) (by kernel_rfl) ?_
  refine runs_v (D.sl (ints c) none) (by kernel_rfl) (by kernel_rfl) ?_
  refine runs_v (D.int IntKind.i64 e) (by kernel_rfl) (by kernel_rfl) ?_
  refine runs_assign0 (D.sl (ints c) none) (by kernel_rfl) (by kernel_rfl) (by kernel_rfl) ?_
  refine runs_assign0 (D.int IntKind.i64 e) (by kernel_rfl) (by kernel_rfl) (by kernel_rfl) ?_
  refine k_done ?_
  refine k_skip_seq ?_
  refine k_seq ?_
  refine runs_v (D.sl (ints a) none) (by kernel_rfl) (by kernel_rfl) ?_
  refine runs_v (D.sl (ints b) none) (by kernel_rfl) (by kernel_rfl) ?_
  refine runs_v (D.int IntKind.i64 p) (by kernel_rfl) (by kernel_rfl) ?_
  refine runs_call ([D.sl (ints a) none, D.sl (ints b) none, D.int IntKind.i64 p]) (by kernel_rfl) (by kernel_rfl) (by kernel_rfl) (by kernel_rfl) (hrf) (by kernel_rfl) ?_
  refine runs_v (D.tup [D.sl (ints c) none, D.int IntKind.i64 e]) (by kernel_rfl) (by kernel_rfl) ?_
  refine runs_v (D.sl (ints c) none) (by kernel_rfl) (by kernel_rfl) ?_
  refine runs_v (D.int IntKind.i64 e) (by kernel_rfl) (by kernel_rfl) ?_
  refine runs_assign0 (D.sl (ints c) none) (by kernel_rfl) (by kernel_rfl) (by kernel_rfl) ?_
  refine runs_assign0 (D.int IntKind.i64 e) (by kernel_rfl) (by kernel_rfl) (by kernel_rfl) ?_
  refine k_done ?_
  refine k_skip_seq ?_
  refine k_seq ?_
  refine k_seq ?_
  refine runs_v (D.int IntKind.i64 e) (by kernel_rfl) (by kernel_rfl) ?_
  refine runs_v (D.int IntKind.i64 e) (by kernel_rfl) (by kernel_rfl) ?_
  refine runs_v (D.bool (e != e)) (by kernel_rfl) (by kernel_rfl) ?_
  refine runs_v (D.bool (e != e)) (by kernel_rfl) (by kernel_rfl) ?_
  refine runs_know 41 (d := .bool (e != e)) (d' := .bool false) (by kernel_rfl) (congrArg D.bool (show (e != e) = false from (bne_eq_false_iff_eq.2 (by omega)))) ?_
  refine runs_v (D.sl (ints c) none) (by kernel_rfl) (by kernel_rfl) ?_
  refine runs_ve (D.int IntKind.i64 (↑(List.length (ints c)) : Int)) (.int IntKind.i64 ((↑(List.length c) : Int))) (by simp only [ints, eInt, List.length_map, List.length_append, List.length_cons, List.length_nil]) (by kernel_rfl) (by kernel_rfl) ?_
  refine runs_v (D.sl (ints c) none) (by kernel_rfl) (by kernel_rfl) ?_
  refine runs_ve (D.int IntKind.i64 (↑(List.length (ints c)) : Int)) (.int IntKind.i64 ((↑(List.length c) : Int))) (by simp only [ints, eInt, List.length_map, List.length_append, List.length_cons, List.length_nil]) (by kernel_rfl) (by kernel_rfl) ?_
  refine runs_v (D.bool ((↑(List.length c) : Int) != (↑(List.length c) : Int))) (by kernel_rfl) (by kernel_rfl) ?_
  refine runs_v (D.bool ((↑(List.length c) : Int) != (↑(List.length c) : Int))) (by kernel_rfl) (by kernel_rfl) ?_
  refine k_done ?_
  refine k_skip_seq ?_
  refine runs_know 47 (d := .bool ((↑(List.length c) : Int) != (↑(List.length c) : Int))) (d' := .bool false) (by kernel_rfl) (congrArg D.bool (show ((↑(List.length c) : Int) != (↑(List.length c) : Int)) = false from (bne_eq_false_iff_eq.2 (by omega)))) ?_
  refine k_cond_f (by kernel_rfl) ?_
  refine k_skip_seq ?_
  refine k_seq ?_
  refine k_seq ?_
  refine runs_v (D.int IntKind.i64 (0 : Int)) (by kernel_rfl) (by kernel_rfl) ?_
  refine k_done ?_
  refine k_skip_seq ?_
  refine k_block ?_
  refine k_loop (fun i : Nat => f5 a b p e c i) (fun _ => []) (fun i => i ≤ c.length) (fun i => c.length - i) 0 (by kernel_rfl) rfl (by simp) (by omega) ?_
  intro i hi
  by_cases hlt : i < c.length
  · refine k_seq ?_
    refine k_seq ?_
    refine runs_v (D.int IntKind.i64 (↑i : Int)) (by kernel_rfl) (by kernel_rfl) ?_
    refine runs_v (D.sl (ints c) none) (by kernel_rfl) (by kernel_rfl) ?_
    refine runs_ve (D.int IntKind.i64 (↑(List.length (ints c)) : Int)) (.int IntKind.i64 ((↑(List.length c) : Int))) (by simp only [ints, eInt, List.length_map, List.length_append, List.length_cons, List.length_nil]) (by kernel_rfl) (by kernel_rfl) ?_
    refine runs_v (D.bool (decide ((↑i : Int) < (↑(List.length c) : Int)))) (by kernel_rfl) (by kernel_rfl) ?_
    refine k_done ?_
    refine k_skip_seq ?_
    refine runs_know 51 (d := .bool (decide ((↑i : Int) < (↑(List.length c) : Int)))) (d' := .bool true) (by kernel_rfl) (congrArg D.bool (show (decide ((↑i : Int) < (↑(List.length c) : Int))) = true from (decide_eq_true (by omega)))) ?_
    refine k_cond_t (by kernel_rfl) ?_
    refine k_skip_seq ?_
    refine k_seq ?_
    refine k_block ?_
    refine k_seq ?_
    refine runs_v (D.sl (ints c) none) (by kernel_rfl) (by kernel_rfl) ?_
    refine runs_v (D.int IntKind.i64 (↑i : Int)) (by kernel_rfl) (by kernel_rfl) ?_
    refine runs_index (c) (eInt) (o := none) (kd := IntKind.i64) (i) (by kernel_rfl) (by kernel_rfl) (by kernel_rfl) (by assumption) (by kernel_rfl) ?_
    refine runs_v (D.int IntKind.i64 c[i]) (by kernel_rfl) (by kernel_rfl) ?_
    refine runs_v (D.sl (ints c) none) (by kernel_rfl) (by kernel_rfl) ?_
    refine runs_v (D.int IntKind.i64 (↑i : Int)) (by kernel_rfl) (by kernel_rfl) ?_
    refine runs_index (c) (eInt) (o := none) (kd := IntKind.i64) (i) (by kernel_rfl) (by kernel_rfl) (by kernel_rfl) (by assumption) (by kernel_rfl) ?_
    refine runs_v (D.int IntKind.i64 c[i]) (by kernel_rfl) (by kernel_rfl) ?_
    refine runs_v (D.bool (c[i] != c[i])) (by kernel_rfl) (by kernel_rfl) ?_
    refine k_done ?_
    refine k_skip_seq ?_
    refine runs_know 62 (d := .bool (c[i] != c[i])) (d' := .bool false) (by kernel_rfl) (congrArg D.bool (show (c[i] != c[i]) = false from (bne_eq_false_iff_eq.2 (by omega)))) ?_
    refine k_cond_f (by kernel_rfl) ?_
    refine k_skip_block ?_
    refine k_skip_seq ?_
    refine runs_v (D.int IntKind.i64 (↑i : Int)) (by kernel_rfl) (by kernel_rfl) ?_
    refine runs_ve (D.int IntKind.i64 (IntKind.wrap IntKind.i64 ((↑i : Int) + (1 : Int)))) (.int IntKind.i64 ((i + 1 : Nat) : Int)) (congrArg (D.int IntKind.i64) (show IntKind.wrap IntKind.i64 ((↑i : Int) + (1 : Int)) = ((i + 1 : Nat) : Int) by rw [IntKind.wrap_i64] <;> omega)) (by kernel_rfl) (by kernel_rfl) ?_
    refine runs_assign0 (D.int IntKind.i64 (↑(i + (1 : Nat)) : Int)) (by kernel_rfl) (by kernel_rfl) (by kernel_rfl) ?_
    refine k_done ?_
    refine k_skip_back ?_
    exact ⟨i + 1, hlt, by omega, by kernel_rfl, rfl⟩
  · refine k_seq ?_
    refine k_seq ?_
    refine runs_v (D.int IntKind.i64 (↑i : Int)) (by kernel_rfl) (by kernel_rfl) ?_
    refine runs_v (D.sl (ints c) none) (by kernel_rfl) (by kernel_rfl) ?_
    refine runs_ve (D.int IntKind.i64 (↑(List.length (ints c)) : Int)) (.int IntKind.i64 ((↑(List.length c) : Int))) (by simp only [ints, eInt, List.length_map, List.length_append, List.length_cons, List.length_nil]) (by kernel_rfl) (by kernel_rfl) ?_
    refine runs_v (D.bool (decide ((↑i : Int) < (↑(List.length c) : Int)))) (by kernel_rfl) (by kernel_rfl) ?_
    refine k_done ?_
    refine k_skip_seq ?_
    refine runs_know 51 (d := .bool (decide ((↑i : Int) < (↑(List.length c) : Int)))) (d' := .bool false) (by kernel_rfl) (congrArg D.bool (show (decide ((↑i : Int) < (↑(List.length c) : Int))) = false from (decide_eq_false (by omega)))) ?_
    refine k_cond_f (by kernel_rfl) ?_
    refine k_exit_seq ?_
    refine k_exit_back ?_
    refine k_exit_hit rfl ?_
    refine k_skip_seq ?_
    refine k_seq ?_
    refine runs_v (D.bool true) (by kernel_rfl) (by kernel_rfl) ?_
    refine k_done ?_
    refine k_skip_seq ?_
    refine k_ret ?_
    exact ⟨.inr rfl, by kernel_rfl, by kernel_rfl⟩
end Go.Abs.B
