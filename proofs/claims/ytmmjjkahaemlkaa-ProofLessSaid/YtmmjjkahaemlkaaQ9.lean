import Derived.Test.YtmmjjkahaemlkaaKont
import Derived.Test.YtmmjjkahaemlkaaQ7
set_option linter.unusedVariables false
set_option linter.unusedSimpArgs false
/-
  What truths meet: Met of the document; the statement ProofSound as the machine code sees it.
-/
namespace Go.Abs.B
open Go Go.Abs
set_option maxRecDepth 8000
attribute [local irreducible] callN runC evalOp

def isB (n : Int) (a : List Bool) : Bool := decide (0 < n) && decide (n ≤ a.length) && a.getD (n - 1).toNat false
def soB (v : Int) (a : List Bool) : Bool := if v = 0 then false else (isB (if v < 0 then negI v else v) a == decide (0 < v))
def metC (c : List Int) (a : List Bool) : Bool := c.any fun v => soB v a
def metB (l : List (List Int)) (a : List Bool) : Bool := l.all fun c => metC c a

theorem isB_in {n : Int} {a : List Bool} (h0 : 0 < n) (h1 : (n - 1).toNat < a.length) : isB n a = a[(n - 1).toNat] := by
  unfold isB
  rw [decide_eq_true h0, decide_eq_true (by omega), List.getD_eq_getElem?_getD, List.getElem?_eq_getElem h1]
  rfl

theorem so31_ok (n : Nat) (v : Int) (a : List Bool) (o : Option Nat) (σ : St) (ha : a.length ≤ 9223372036854775807) :
    callN T (n + 1) 31 [.int .i64 v, .sl (bools a) o] σ = some (.bool (soB v a), σ) := by
  refine call_of (m := m31) rfl rfl (by decide) (k_start ?_)
  unfold m31
  by_cases h0 : v = 0
  · have : soB v a = false := if_pos h0
    rw [this]
    refine k_seq ?_
    refine rv (D.bool false) ?_
    refine k_done (k_skip_seq (k_seq (k_seq ?_)))
    refine rv (D.int IntKind.i64 v) ?_
    refine rv (D.bool (v == (0 : Int))) ?_
    refine k_done (k_skip_seq ?_)
    refine rkn 8 (v == (0 : Int)) true (decide_eq_true (by assumption)) ?_
    refine kct (k_seq ?_)
    refine rv (D.bool false) ?_
    refine k_done (k_skip_seq (k_ret ?_))
    exact ⟨.inr rfl, by kernel_rfl, by kernel_rfl⟩
  have hso : soB v a = ((isB (if v < 0 then negI v else v) a == decide (0 < v)) != false) := by
    rw [Bool.bne_false]
    exact if_neg h0
  rw [hso]
  by_cases hneg : v < 0
  · rw [if_pos hneg]
    have hn : IntKind.wrap IntKind.i64 (0 - v) = negI v := rfl
    by_cases h1 : 0 < IntKind.wrap IntKind.i64 (0 - v)
    · by_cases h2 : IntKind.wrap IntKind.i64 (0 - v) ≤ a.length
      · have h3 : (negI v - 1).toNat < a.length := by rw [← hn]; omega
        rw [isB_in (by rw [← hn]; exact h1) h3]
        refine k_seq ?_
        refine rv (D.bool false) ?_
        refine k_done (k_skip_seq (k_seq (k_seq ?_)))
        refine rv (D.int IntKind.i64 v) ?_
        refine rv (D.bool (v == (0 : Int))) ?_
        refine k_done (k_skip_seq ?_)
        refine rkn 8 (v == (0 : Int)) false (decide_eq_false (by assumption)) ?_
        refine kcf (k_skip_seq (k_seq ?_))
        refine rv (D.int IntKind.i64 v) ?_
        refine ra0 (D.int IntKind.i64 v) ?_
        refine k_done (k_skip_seq (k_seq (k_seq ?_)))
        refine rv (D.int IntKind.i64 v) ?_
        refine rv (D.bool (decide (v < (0 : Int)))) ?_
        refine k_done (k_skip_seq ?_)
        refine rkn 11 (decide (v < (0 : Int))) true (decide_eq_true (by assumption)) ?_
        refine kct ?_
        refine rv (D.int IntKind.i64 v) ?_
        refine rv (D.int IntKind.i64 (IntKind.wrap IntKind.i64 ((0 : Int) - v))) ?_
        refine ra0 (D.int IntKind.i64 (IntKind.wrap IntKind.i64 ((0 : Int) - v))) ?_
        refine k_done (k_skip_seq (k_seq ?_))
        refine rv (D.int IntKind.i64 (IntKind.wrap IntKind.i64 ((0 : Int) - v))) ?_
        refine rv (D.bool (decide (IntKind.wrap IntKind.i64 ((0 : Int) - v) > (0 : Int)))) ?_
        refine rv (D.bool (decide (IntKind.wrap IntKind.i64 ((0 : Int) - v) > (0 : Int)))) ?_
        refine rkn 16 (decide (IntKind.wrap IntKind.i64 ((0 : Int) - v) > (0 : Int))) true (decide_eq_true (by assumption)) ?_
        refine rv (D.int IntKind.i64 (IntKind.wrap IntKind.i64 ((0 : Int) - v))) ?_
        refine rv (D.sl (bools a) none) ?_
        refine rve (D.int IntKind.i64 (↑(List.length (bools a)) : Int)) (.int IntKind.i64 ((↑(List.length a) : Int))) (by simp only [ints, eInt, rows, eInts, bools, eBool, trips, eTrip, List.length_map]) ?_
        refine rv (D.bool (decide (IntKind.wrap IntKind.i64 ((0 : Int) - v) ≤ (↑(List.length a) : Int)))) ?_
        refine rv (D.bool (decide (IntKind.wrap IntKind.i64 ((0 : Int) - v) ≤ (↑(List.length a) : Int)))) ?_
        refine rv (D.bool (decide (IntKind.wrap IntKind.i64 ((0 : Int) - v) ≤ (↑(List.length a) : Int)))) ?_
        refine rkn 22 (decide (IntKind.wrap IntKind.i64 ((0 : Int) - v) ≤ (↑(List.length a) : Int))) true (decide_eq_true (by assumption)) ?_
        refine rv (D.sl (bools a) none) ?_
        refine rv (D.int IntKind.i64 (IntKind.wrap IntKind.i64 ((0 : Int) - v))) ?_
        refine rve (D.int IntKind.i64 (IntKind.wrap IntKind.i64 (IntKind.wrap IntKind.i64 ((0 : Int) - v) - (1 : Int)))) (.int IntKind.i64 (IntKind.wrap IntKind.i64 ((0 : Int) - v) - (1 : Int))) (congrArg (D.int IntKind.i64) (show IntKind.wrap IntKind.i64 (IntKind.wrap IntKind.i64 ((0 : Int) - v) - (1 : Int)) = (IntKind.wrap IntKind.i64 ((0 : Int) - v) - (1 : Int)) from wrap_eq (by omega) (by omega) (by omega))) ?_
        refine runs_indexI (a) (eBool) (o := none) (kd := IntKind.i64) (IntKind.wrap IntKind.i64 ((0 : Int) - v) - (1 : Int)) (by kernel_rfl) (by kernel_rfl) (by kernel_rfl) (by omega) (by omega) (by kernel_rfl) ?_
        refine rv (D.bool a[Int.toNat (IntKind.wrap IntKind.i64 ((0 : Int) - v) - (1 : Int))]) ?_
        refine rv (D.bool a[Int.toNat (IntKind.wrap IntKind.i64 ((0 : Int) - v) - (1 : Int))]) ?_
        refine ra0 (D.bool a[Int.toNat (IntKind.wrap IntKind.i64 ((0 : Int) - v) - (1 : Int))]) ?_
        refine k_done (k_skip_seq (k_seq ?_))
        refine rv (D.bool a[Int.toNat (IntKind.wrap IntKind.i64 ((0 : Int) - v) - (1 : Int))]) ?_
        refine rv (D.int IntKind.i64 v) ?_
        refine rv (D.bool (decide (v > (0 : Int)))) ?_
        refine rv (D.bool ((a[Int.toNat (IntKind.wrap IntKind.i64 ((0 : Int) - v) - (1 : Int))] == decide (v > (0 : Int))) != false)) ?_
        refine ra0 (D.bool ((a[Int.toNat (IntKind.wrap IntKind.i64 ((0 : Int) - v) - (1 : Int))] == decide (v > (0 : Int))) != false)) ?_
        refine k_done (k_skip_seq (k_ret ?_))
        exact ⟨.inr rfl, by kernel_rfl, by kernel_rfl⟩
      · have : isB (negI v) a = false := by unfold isB; rw [← hn, decide_eq_false h2]; simp
        rw [this]
        refine k_seq ?_
        refine rv (D.bool false) ?_
        refine k_done (k_skip_seq (k_seq (k_seq ?_)))
        refine rv (D.int IntKind.i64 v) ?_
        refine rv (D.bool (v == (0 : Int))) ?_
        refine k_done (k_skip_seq ?_)
        refine rkn 8 (v == (0 : Int)) false (decide_eq_false (by assumption)) ?_
        refine kcf (k_skip_seq (k_seq ?_))
        refine rv (D.int IntKind.i64 v) ?_
        refine ra0 (D.int IntKind.i64 v) ?_
        refine k_done (k_skip_seq (k_seq (k_seq ?_)))
        refine rv (D.int IntKind.i64 v) ?_
        refine rv (D.bool (decide (v < (0 : Int)))) ?_
        refine k_done (k_skip_seq ?_)
        refine rkn 11 (decide (v < (0 : Int))) true (decide_eq_true (by assumption)) ?_
        refine kct ?_
        refine rv (D.int IntKind.i64 v) ?_
        refine rv (D.int IntKind.i64 (IntKind.wrap IntKind.i64 ((0 : Int) - v))) ?_
        refine ra0 (D.int IntKind.i64 (IntKind.wrap IntKind.i64 ((0 : Int) - v))) ?_
        refine k_done (k_skip_seq (k_seq ?_))
        refine rv (D.int IntKind.i64 (IntKind.wrap IntKind.i64 ((0 : Int) - v))) ?_
        refine rv (D.bool (decide (IntKind.wrap IntKind.i64 ((0 : Int) - v) > (0 : Int)))) ?_
        refine rv (D.bool (decide (IntKind.wrap IntKind.i64 ((0 : Int) - v) > (0 : Int)))) ?_
        refine rkn 16 (decide (IntKind.wrap IntKind.i64 ((0 : Int) - v) > (0 : Int))) true (decide_eq_true (by assumption)) ?_
        refine rv (D.int IntKind.i64 (IntKind.wrap IntKind.i64 ((0 : Int) - v))) ?_
        refine rv (D.sl (bools a) none) ?_
        refine rve (D.int IntKind.i64 (↑(List.length (bools a)) : Int)) (.int IntKind.i64 ((↑(List.length a) : Int))) (by simp only [ints, eInt, rows, eInts, bools, eBool, trips, eTrip, List.length_map]) ?_
        refine rv (D.bool (decide (IntKind.wrap IntKind.i64 ((0 : Int) - v) ≤ (↑(List.length a) : Int)))) ?_
        refine rv (D.bool (decide (IntKind.wrap IntKind.i64 ((0 : Int) - v) ≤ (↑(List.length a) : Int)))) ?_
        refine rv (D.bool (decide (IntKind.wrap IntKind.i64 ((0 : Int) - v) ≤ (↑(List.length a) : Int)))) ?_
        refine rkn 22 (decide (IntKind.wrap IntKind.i64 ((0 : Int) - v) ≤ (↑(List.length a) : Int))) false (decide_eq_false (by assumption)) ?_
        refine rno (rno (rno (rno (rno ?_))))
        refine rv (D.bool false) ?_
        refine ra0 (D.bool false) ?_
        refine k_done (k_skip_seq (k_seq ?_))
        refine rv (D.bool false) ?_
        refine rv (D.int IntKind.i64 v) ?_
        refine rv (D.bool (decide (v > (0 : Int)))) ?_
        refine rv (D.bool ((false == decide (v > (0 : Int))) != false)) ?_
        refine ra0 (D.bool ((false == decide (v > (0 : Int))) != false)) ?_
        refine k_done (k_skip_seq (k_ret ?_))
        exact ⟨.inr rfl, by kernel_rfl, by kernel_rfl⟩
    · have : isB (negI v) a = false := by unfold isB; rw [← hn, decide_eq_false h1]; simp
      rw [this]
      refine k_seq ?_
      refine rv (D.bool false) ?_
      refine k_done (k_skip_seq (k_seq (k_seq ?_)))
      refine rv (D.int IntKind.i64 v) ?_
      refine rv (D.bool (v == (0 : Int))) ?_
      refine k_done (k_skip_seq ?_)
      refine rkn 8 (v == (0 : Int)) false (decide_eq_false (by assumption)) ?_
      refine kcf (k_skip_seq (k_seq ?_))
      refine rv (D.int IntKind.i64 v) ?_
      refine ra0 (D.int IntKind.i64 v) ?_
      refine k_done (k_skip_seq (k_seq (k_seq ?_)))
      refine rv (D.int IntKind.i64 v) ?_
      refine rv (D.bool (decide (v < (0 : Int)))) ?_
      refine k_done (k_skip_seq ?_)
      refine rkn 11 (decide (v < (0 : Int))) true (decide_eq_true (by assumption)) ?_
      refine kct ?_
      refine rv (D.int IntKind.i64 v) ?_
      refine rv (D.int IntKind.i64 (IntKind.wrap IntKind.i64 ((0 : Int) - v))) ?_
      refine ra0 (D.int IntKind.i64 (IntKind.wrap IntKind.i64 ((0 : Int) - v))) ?_
      refine k_done (k_skip_seq (k_seq ?_))
      refine rv (D.int IntKind.i64 (IntKind.wrap IntKind.i64 ((0 : Int) - v))) ?_
      refine rv (D.bool (decide (IntKind.wrap IntKind.i64 ((0 : Int) - v) > (0 : Int)))) ?_
      refine rv (D.bool (decide (IntKind.wrap IntKind.i64 ((0 : Int) - v) > (0 : Int)))) ?_
      refine rkn 16 (decide (IntKind.wrap IntKind.i64 ((0 : Int) - v) > (0 : Int))) false (decide_eq_false (by assumption)) ?_
      refine rno (rno (rno (rno ?_)))
      refine rv (D.bool false) ?_
      refine rv (D.bool false) ?_
      refine rno (rno (rno (rno (rno ?_))))
      refine rv (D.bool false) ?_
      refine ra0 (D.bool false) ?_
      refine k_done (k_skip_seq (k_seq ?_))
      refine rv (D.bool false) ?_
      refine rv (D.int IntKind.i64 v) ?_
      refine rv (D.bool (decide (v > (0 : Int)))) ?_
      refine rv (D.bool ((false == decide (v > (0 : Int))) != false)) ?_
      refine ra0 (D.bool ((false == decide (v > (0 : Int))) != false)) ?_
      refine k_done (k_skip_seq (k_ret ?_))
      exact ⟨.inr rfl, by kernel_rfl, by kernel_rfl⟩
  · rw [if_neg hneg]
    have h1 : 0 < v := by omega
    by_cases h2 : v ≤ a.length
    · have h3 : (v - 1).toNat < a.length := by omega
      rw [isB_in h1 h3]
      refine k_seq ?_
      refine rv (D.bool false) ?_
      refine k_done (k_skip_seq (k_seq (k_seq ?_)))
      refine rv (D.int IntKind.i64 v) ?_
      refine rv (D.bool (v == (0 : Int))) ?_
      refine k_done (k_skip_seq ?_)
      refine rkn 8 (v == (0 : Int)) false (decide_eq_false (by assumption)) ?_
      refine kcf (k_skip_seq (k_seq ?_))
      refine rv (D.int IntKind.i64 v) ?_
      refine ra0 (D.int IntKind.i64 v) ?_
      refine k_done (k_skip_seq (k_seq (k_seq ?_)))
      refine rv (D.int IntKind.i64 v) ?_
      refine rv (D.bool (decide (v < (0 : Int)))) ?_
      refine k_done (k_skip_seq ?_)
      refine rkn 11 (decide (v < (0 : Int))) false (decide_eq_false (by assumption)) ?_
      refine kcf (k_skip_seq (k_seq ?_))
      refine rv (D.int IntKind.i64 v) ?_
      refine rv (D.bool (decide (v > (0 : Int)))) ?_
      refine rv (D.bool (decide (v > (0 : Int)))) ?_
      refine rkn 16 (decide (v > (0 : Int))) true (decide_eq_true (by assumption)) ?_
      refine rv (D.int IntKind.i64 v) ?_
      refine rv (D.sl (bools a) none) ?_
      refine rve (D.int IntKind.i64 (↑(List.length (bools a)) : Int)) (.int IntKind.i64 ((↑(List.length a) : Int))) (by simp only [ints, eInt, rows, eInts, bools, eBool, trips, eTrip, List.length_map]) ?_
      refine rv (D.bool (decide (v ≤ (↑(List.length a) : Int)))) ?_
      refine rv (D.bool (decide (v ≤ (↑(List.length a) : Int)))) ?_
      refine rv (D.bool (decide (v ≤ (↑(List.length a) : Int)))) ?_
      refine rkn 22 (decide (v ≤ (↑(List.length a) : Int))) true (decide_eq_true (by assumption)) ?_
      refine rv (D.sl (bools a) none) ?_
      refine rv (D.int IntKind.i64 v) ?_
      refine rve (D.int IntKind.i64 (IntKind.wrap IntKind.i64 (v - (1 : Int)))) (.int IntKind.i64 (v - (1 : Int))) (congrArg (D.int IntKind.i64) (show IntKind.wrap IntKind.i64 (v - (1 : Int)) = (v - (1 : Int)) from wrap_eq (by omega) (by omega) (by omega))) ?_
      refine runs_indexI (a) (eBool) (o := none) (kd := IntKind.i64) (v - (1 : Int)) (by kernel_rfl) (by kernel_rfl) (by kernel_rfl) (by omega) (by omega) (by kernel_rfl) ?_
      refine rv (D.bool a[Int.toNat (v - (1 : Int))]) ?_
      refine rv (D.bool a[Int.toNat (v - (1 : Int))]) ?_
      refine ra0 (D.bool a[Int.toNat (v - (1 : Int))]) ?_
      refine k_done (k_skip_seq (k_seq ?_))
      refine rv (D.bool a[Int.toNat (v - (1 : Int))]) ?_
      refine rv (D.int IntKind.i64 v) ?_
      refine rv (D.bool (decide (v > (0 : Int)))) ?_
      refine rv (D.bool ((a[Int.toNat (v - (1 : Int))] == decide (v > (0 : Int))) != false)) ?_
      refine ra0 (D.bool ((a[Int.toNat (v - (1 : Int))] == decide (v > (0 : Int))) != false)) ?_
      refine k_done (k_skip_seq (k_ret ?_))
      exact ⟨.inr rfl, by kernel_rfl, by kernel_rfl⟩
    · have : isB v a = false := by unfold isB; rw [decide_eq_false h2]; simp
      rw [this]
      refine k_seq ?_
      refine rv (D.bool false) ?_
      refine k_done (k_skip_seq (k_seq (k_seq ?_)))
      refine rv (D.int IntKind.i64 v) ?_
      refine rv (D.bool (v == (0 : Int))) ?_
      refine k_done (k_skip_seq ?_)
      refine rkn 8 (v == (0 : Int)) false (decide_eq_false (by assumption)) ?_
      refine kcf (k_skip_seq (k_seq ?_))
      refine rv (D.int IntKind.i64 v) ?_
      refine ra0 (D.int IntKind.i64 v) ?_
      refine k_done (k_skip_seq (k_seq (k_seq ?_)))
      refine rv (D.int IntKind.i64 v) ?_
      refine rv (D.bool (decide (v < (0 : Int)))) ?_
      refine k_done (k_skip_seq ?_)
      refine rkn 11 (decide (v < (0 : Int))) false (decide_eq_false (by assumption)) ?_
      refine kcf (k_skip_seq (k_seq ?_))
      refine rv (D.int IntKind.i64 v) ?_
      refine rv (D.bool (decide (v > (0 : Int)))) ?_
      refine rv (D.bool (decide (v > (0 : Int)))) ?_
      refine rkn 16 (decide (v > (0 : Int))) true (decide_eq_true (by assumption)) ?_
      refine rv (D.int IntKind.i64 v) ?_
      refine rv (D.sl (bools a) none) ?_
      refine rve (D.int IntKind.i64 (↑(List.length (bools a)) : Int)) (.int IntKind.i64 ((↑(List.length a) : Int))) (by simp only [ints, eInt, rows, eInts, bools, eBool, trips, eTrip, List.length_map]) ?_
      refine rv (D.bool (decide (v ≤ (↑(List.length a) : Int)))) ?_
      refine rv (D.bool (decide (v ≤ (↑(List.length a) : Int)))) ?_
      refine rv (D.bool (decide (v ≤ (↑(List.length a) : Int)))) ?_
      refine rkn 22 (decide (v ≤ (↑(List.length a) : Int))) false (decide_eq_false (by assumption)) ?_
      refine rno (rno (rno (rno (rno ?_))))
      refine rv (D.bool false) ?_
      refine ra0 (D.bool false) ?_
      refine k_done (k_skip_seq (k_seq ?_))
      refine rv (D.bool false) ?_
      refine rv (D.int IntKind.i64 v) ?_
      refine rv (D.bool (decide (v > (0 : Int)))) ?_
      refine rv (D.bool ((false == decide (v > (0 : Int))) != false)) ?_
      refine ra0 (D.bool ((false == decide (v > (0 : Int))) != false)) ?_
      refine k_done (k_skip_seq (k_ret ?_))
      exact ⟨.inr rfl, by kernel_rfl, by kernel_rfl⟩

theorem any_take {α : Type} {p : α → Bool} {c : List α} {i : Nat} (h : i < c.length) : (c.take (i + 1)).any p = ((c.take i).any p || p c[i]) := by
  rw [List.take_succ_eq_append_getElem h, List.any_append]
  simp only [List.any_cons, List.any_nil, Bool.or_false]
theorem all_take {α : Type} {p : α → Bool} {c : List α} {i : Nat} (h : i < c.length) : (c.take (i + 1)).all p = ((c.take i).all p && p c[i]) := by
  rw [List.take_succ_eq_append_getElem h, List.all_append]
  simp only [List.all_cons, List.all_nil, Bool.and_true]

def f19 (l : List (List Int)) (a : List Bool) (i : Int) (m k : D) : Fr := Fr.mk ([.sl (rows l) none, .sl (bools a) none, .junk, .junk, .bool false, .int .i64 i, m, k] ++ List.replicate 31 .junk) (List.replicate 39 none) []
theorem met_ok (n : Nat) (l : List (List Int)) (a : List Bool) (o1 o2 : Option Nat) (σ : St) (ha : a.length ≤ 9223372036854775807) (hn : n < 4096) (hl : l.length < n) (hc : ∀ c ∈ l, c.length < n) :
    callN T (n + 2) 19 [.sl (rows l) o1, .sl (bools a) o2] σ = some (.bool (metB l a), σ) := by
  refine call_of (m := m19) rfl rfl (by decide) (k_start ?_)
  unfold m19
  refine k_seq ?_
  refine rv (D.bool false) ?_
  refine k_done (k_skip_seq (k_seq (k_seq ?_)))
  refine rv (D.int IntKind.i64 (0 : Int)) ?_
  refine k_done (k_skip_seq (k_block ?_))
  refine k_loop (S := Nat × D × D) (fun s => f19 l a s.1 s.2.1 s.2.2) (fun _ => σ) (fun s => s.1 ≤ l.length ∧ ((∃ b, s.2.1 = .bool b) ∨ s.2.1 = .junk) ∧ ((∃ b, s.2.2 = .int .i64 b) ∨ s.2.2 = .junk) ∧ (l.take s.1).all (metC · a) = true) (fun s => l.length - s.1) (0, .junk, .junk) (by kernel_rfl) rfl ⟨by simp, .inr rfl, .inr rfl, by simp⟩ (by intro s hs; omega) ?_
  rintro ⟨i, md, kd⟩ ⟨hi, hm, hk, hall⟩
  simp only [] at hi hm hk hall
  by_cases hlt : i < l.length
  · have hlc := hc l[i] (List.getElem_mem hlt)
    refine k_seq (k_seq ?_)
    refine rv (D.int IntKind.i64 (↑i : Int)) ?_
    refine rv (D.sl (rows l) none) ?_
    refine rve (D.int IntKind.i64 (↑(List.length (rows l)) : Int)) (.int IntKind.i64 ((↑(List.length l) : Int))) (by simp only [ints, eInt, rows, eInts, bools, eBool, trips, eTrip, List.length_map]) ?_
    refine rv (D.bool (decide ((↑i : Int) < (↑(List.length l) : Int)))) ?_
    refine k_done (k_skip_seq ?_)
    refine rkn 12 (decide ((↑i : Int) < (↑(List.length l) : Int))) true (decide_eq_true (by omega)) ?_
    refine kct (k_skip_seq (k_seq (k_block (k_seq ?_))))
    refine rv (D.bool false) ?_
    refine k_done (k_skip_seq (k_seq (k_seq ?_)))
    refine rv (D.int IntKind.i64 (0 : Int)) ?_
    refine k_done (k_skip_seq (k_block ?_))
    refine k_loop (S := Nat × Bool) (fun s => f19 l a i (.bool s.2) (.int .i64 s.1)) (fun _ => σ) (fun s => s.1 ≤ l[i].length ∧ s.2 = (l[i].take s.1).any (soB · a)) (fun s => l[i].length - s.1) (0, false) (by kernel_rfl) rfl ⟨by simp, by simp⟩ (by intro s hs; omega) ?_
    rintro ⟨k, b⟩ ⟨hk, hb⟩
    simp only [] at hk hb
    by_cases hlk : k < l[i].length
    · have hso := so31_ok n l[i][k] a none [] ha
      have hat := any_take (p := (soB · a)) hlk
      by_cases hbt : b = true
      · subst hbt
        refine k_seq (k_seq ?_)
        refine rv (D.int IntKind.i64 (↑k : Int)) ?_
        refine rv (D.sl (rows l) none) ?_
        refine rv (D.int IntKind.i64 (↑i : Int)) ?_
        refine runs_index (l) (eInts) (o := none) (kd := IntKind.i64) (i) (by kernel_rfl) (by kernel_rfl) (by kernel_rfl) (by assumption) (by kernel_rfl) ?_
        refine rv (D.sl (ints l[i]) none) ?_
        refine rve (D.int IntKind.i64 (↑(List.length (ints l[i])) : Int)) (.int IntKind.i64 ((↑(List.length l[i]) : Int))) (by simp only [ints, eInt, rows, eInts, bools, eBool, trips, eTrip, List.length_map]) ?_
        refine rv (D.bool (decide ((↑k : Int) < (↑(List.length l[i]) : Int)))) ?_
        refine k_done (k_skip_seq ?_)
        refine rkn 21 (decide ((↑k : Int) < (↑(List.length l[i]) : Int))) true (decide_eq_true (by omega)) ?_
        refine kct (k_skip_seq (k_seq (k_block (k_seq ?_))))
        refine rv (D.sl (rows l) none) ?_
        refine rv (D.int IntKind.i64 (↑i : Int)) ?_
        refine runs_index (l) (eInts) (o := none) (kd := IntKind.i64) (i) (by kernel_rfl) (by kernel_rfl) (by kernel_rfl) (by assumption) (by kernel_rfl) ?_
        refine rv (D.sl (ints l[i]) none) ?_
        refine rv (D.int IntKind.i64 (↑k : Int)) ?_
        refine runs_index (l[i]) (eInt) (o := none) (kd := IntKind.i64) (k) (by kernel_rfl) (by kernel_rfl) (by kernel_rfl) (by assumption) (by kernel_rfl) ?_
        refine rv (D.int IntKind.i64 l[i][k]) ?_
        refine rv (D.sl (bools a) none) ?_
        refine runs_call ([D.int IntKind.i64 l[i][k], D.sl (bools a) none]) (by kernel_rfl) (by kernel_rfl) (by kernel_rfl) (by kernel_rfl) (hso) (by kernel_rfl) ?_
        refine ra0 (D.bool (soB l[i][k] a)) ?_
        refine k_done (k_skip_seq ?_)
        refine rv (D.bool true) ?_
        refine rv (D.bool true) ?_
        refine rno ?_
        refine rv (D.bool true) ?_
        refine ra0 (D.bool true) ?_
        refine k_done (k_skip_block (k_skip_seq ?_))
        refine rv (D.int IntKind.i64 (↑k : Int)) ?_
        refine rve (D.int IntKind.i64 (IntKind.wrap IntKind.i64 ((↑k : Int) + (1 : Int)))) (.int IntKind.i64 ((k + 1 : Nat) : Int)) (congrArg (D.int IntKind.i64) (show IntKind.wrap IntKind.i64 ((↑k : Int) + (1 : Int)) = ((k + 1 : Nat) : Int) from wrap_eq (by omega) (by omega) (by omega))) ?_
        refine ra0 (D.int IntKind.i64 (↑(k + (1 : Nat)) : Int)) ?_
        refine k_done (k_skip_back ?_)
        refine ⟨(k + 1, true), ⟨hlk, ?_⟩, by simp only []; omega, by kernel_rfl, rfl⟩
        rw [hat, ← hb]
        rfl
      · have hbf : b = false := by simpa using hbt
        subst hbf
        refine k_seq (k_seq ?_)
        refine rv (D.int IntKind.i64 (↑k : Int)) ?_
        refine rv (D.sl (rows l) none) ?_
        refine rv (D.int IntKind.i64 (↑i : Int)) ?_
        refine runs_index (l) (eInts) (o := none) (kd := IntKind.i64) (i) (by kernel_rfl) (by kernel_rfl) (by kernel_rfl) (by assumption) (by kernel_rfl) ?_
        refine rv (D.sl (ints l[i]) none) ?_
        refine rve (D.int IntKind.i64 (↑(List.length (ints l[i])) : Int)) (.int IntKind.i64 ((↑(List.length l[i]) : Int))) (by simp only [ints, eInt, rows, eInts, bools, eBool, trips, eTrip, List.length_map]) ?_
        refine rv (D.bool (decide ((↑k : Int) < (↑(List.length l[i]) : Int)))) ?_
        refine k_done (k_skip_seq ?_)
        refine rkn 21 (decide ((↑k : Int) < (↑(List.length l[i]) : Int))) true (decide_eq_true (by omega)) ?_
        refine kct (k_skip_seq (k_seq (k_block (k_seq ?_))))
        refine rv (D.sl (rows l) none) ?_
        refine rv (D.int IntKind.i64 (↑i : Int)) ?_
        refine runs_index (l) (eInts) (o := none) (kd := IntKind.i64) (i) (by kernel_rfl) (by kernel_rfl) (by kernel_rfl) (by assumption) (by kernel_rfl) ?_
        refine rv (D.sl (ints l[i]) none) ?_
        refine rv (D.int IntKind.i64 (↑k : Int)) ?_
        refine runs_index (l[i]) (eInt) (o := none) (kd := IntKind.i64) (k) (by kernel_rfl) (by kernel_rfl) (by kernel_rfl) (by assumption) (by kernel_rfl) ?_
        refine rv (D.int IntKind.i64 l[i][k]) ?_
        refine rv (D.sl (bools a) none) ?_
        refine runs_call ([D.int IntKind.i64 l[i][k], D.sl (bools a) none]) (by kernel_rfl) (by kernel_rfl) (by kernel_rfl) (by kernel_rfl) (hso) (by kernel_rfl) ?_
        refine ra0 (D.bool (soB l[i][k] a)) ?_
        refine k_done (k_skip_seq ?_)
        refine rv (D.bool false) ?_
        refine rv (D.bool false) ?_
        refine rv (D.bool (soB l[i][k] a)) ?_
        refine rv (D.bool (soB l[i][k] a)) ?_
        refine ra0 (D.bool (soB l[i][k] a)) ?_
        refine k_done (k_skip_block (k_skip_seq ?_))
        refine rv (D.int IntKind.i64 (↑k : Int)) ?_
        refine rve (D.int IntKind.i64 (IntKind.wrap IntKind.i64 ((↑k : Int) + (1 : Int)))) (.int IntKind.i64 ((k + 1 : Nat) : Int)) (congrArg (D.int IntKind.i64) (show IntKind.wrap IntKind.i64 ((↑k : Int) + (1 : Int)) = ((k + 1 : Nat) : Int) from wrap_eq (by omega) (by omega) (by omega))) ?_
        refine ra0 (D.int IntKind.i64 (↑(k + (1 : Nat)) : Int)) ?_
        refine k_done (k_skip_back ?_)
        refine ⟨(k + 1, soB l[i][k] a), ⟨hlk, ?_⟩, by simp only []; omega, by kernel_rfl, rfl⟩
        rw [hat, ← hb]
        rfl
    · rw [List.take_of_length_le (by omega)] at hb
      have hb' : b = metC l[i] a := hb
      by_cases hbt : b = true
      · subst hbt
        refine k_seq (k_seq ?_)
        refine rv (D.int IntKind.i64 (↑k : Int)) ?_
        refine rv (D.sl (rows l) none) ?_
        refine rv (D.int IntKind.i64 (↑i : Int)) ?_
        refine runs_index (l) (eInts) (o := none) (kd := IntKind.i64) (i) (by kernel_rfl) (by kernel_rfl) (by kernel_rfl) (by assumption) (by kernel_rfl) ?_
        refine rv (D.sl (ints l[i]) none) ?_
        refine rve (D.int IntKind.i64 (↑(List.length (ints l[i])) : Int)) (.int IntKind.i64 ((↑(List.length l[i]) : Int))) (by simp only [ints, eInt, rows, eInts, bools, eBool, trips, eTrip, List.length_map]) ?_
        refine rv (D.bool (decide ((↑k : Int) < (↑(List.length l[i]) : Int)))) ?_
        refine k_done (k_skip_seq ?_)
        refine rkn 21 (decide ((↑k : Int) < (↑(List.length l[i]) : Int))) false (decide_eq_false (by omega)) ?_
        refine kcf (k_exit_seq (k_exit_back (k_exit_hit rfl (k_skip_seq (k_seq ?_)))))
        refine rv (D.bool true) ?_
        refine rv (D.bool false) ?_
        refine k_done (k_skip_seq (kcf (k_skip_block (k_skip_seq ?_))))
        refine rv (D.int IntKind.i64 (↑i : Int)) ?_
        refine rve (D.int IntKind.i64 (IntKind.wrap IntKind.i64 ((↑i : Int) + (1 : Int)))) (.int IntKind.i64 ((i + 1 : Nat) : Int)) (congrArg (D.int IntKind.i64) (show IntKind.wrap IntKind.i64 ((↑i : Int) + (1 : Int)) = ((i + 1 : Nat) : Int) from wrap_eq (by omega) (by omega) (by omega))) ?_
        refine ra0 (D.int IntKind.i64 (↑(i + (1 : Nat)) : Int)) ?_
        refine k_done (k_skip_back ?_)
        exact ⟨(i + 1, .bool true, .int .i64 k), ⟨hlt, .inl ⟨_, rfl⟩, .inl ⟨_, rfl⟩, by rw [all_take hlt, hall, ← hb']; rfl⟩, by simp only []; omega, by kernel_rfl, rfl⟩
      · have hbf : b = false := by simpa using hbt
        subst hbf
        have : metB l a = false := by
          unfold metB
          rw [Bool.eq_false_iff]
          intro h
          have := List.all_eq_true.1 h l[i] (List.getElem_mem hlt)
          rw [← hb'] at this
          cases this
        rw [this]
        refine k_seq (k_seq ?_)
        refine rv (D.int IntKind.i64 (↑k : Int)) ?_
        refine rv (D.sl (rows l) none) ?_
        refine rv (D.int IntKind.i64 (↑i : Int)) ?_
        refine runs_index (l) (eInts) (o := none) (kd := IntKind.i64) (i) (by kernel_rfl) (by kernel_rfl) (by kernel_rfl) (by assumption) (by kernel_rfl) ?_
        refine rv (D.sl (ints l[i]) none) ?_
        refine rve (D.int IntKind.i64 (↑(List.length (ints l[i])) : Int)) (.int IntKind.i64 ((↑(List.length l[i]) : Int))) (by simp only [ints, eInt, rows, eInts, bools, eBool, trips, eTrip, List.length_map]) ?_
        refine rv (D.bool (decide ((↑k : Int) < (↑(List.length l[i]) : Int)))) ?_
        refine k_done (k_skip_seq ?_)
        refine rkn 21 (decide ((↑k : Int) < (↑(List.length l[i]) : Int))) false (decide_eq_false (by omega)) ?_
        refine kcf (k_exit_seq (k_exit_back (k_exit_hit rfl (k_skip_seq (k_seq ?_)))))
        refine rv (D.bool false) ?_
        refine rv (D.bool true) ?_
        refine k_done (k_skip_seq (kct (k_seq ?_)))
        refine rv (D.bool false) ?_
        refine k_done (k_skip_seq (k_ret ?_))
        exact ⟨.inr rfl, by kernel_rfl, by kernel_rfl⟩
  · rw [List.take_of_length_le (by omega)] at hall
    have : metB l a = true := hall
    rw [this]
    refine k_seq (k_seq ?_)
    refine rv (D.int IntKind.i64 (↑i : Int)) ?_
    refine rv (D.sl (rows l) none) ?_
    refine rve (D.int IntKind.i64 (↑(List.length (rows l)) : Int)) (.int IntKind.i64 ((↑(List.length l) : Int))) (by simp only [ints, eInt, rows, eInts, bools, eBool, trips, eTrip, List.length_map]) ?_
    refine rv (D.bool (decide ((↑i : Int) < (↑(List.length l) : Int)))) ?_
    refine k_done (k_skip_seq ?_)
    refine rkn 12 (decide ((↑i : Int) < (↑(List.length l) : Int))) false (decide_eq_false (by omega)) ?_
    refine kcf (k_exit_seq (k_exit_back (k_exit_hit rfl (k_skip_seq (k_seq ?_)))))
    refine rv (D.bool true) ?_
    refine k_done (k_skip_seq (k_ret ?_))
    exact ⟨.inr rfl, by kernel_rfl, by kernel_rfl⟩

theorem negI_eq {p : Int} (h0 : -1099511627776 ≤ p) (h1 : p ≤ 1099511627776) : negI p = -p := wrap_eq (by omega) (by omega) (by omega)
theorem so_neg {p : Int} {a : List Bool} (hp : p ≠ 0) (h0 : -1099511627776 ≤ p) (h1 : p ≤ 1099511627776) (h : soB p a = true) : soB (-p) a = false := by
  unfold soB at h ⊢
  rw [if_neg hp] at h
  rw [if_neg (show ¬ -p = 0 by omega)]
  rw [negI_eq (p := -p) (by omega) (by omega), Int.neg_neg]
  rw [negI_eq h0 h1] at h
  by_cases hn : p < 0
  · rw [if_pos hn, decide_eq_false (show ¬ 0 < p by omega)] at h
    rw [if_neg (show ¬ -p < 0 by omega), decide_eq_true (show 0 < -p by omega)]
    have h' : isB (-p) a = false := by simpa using h
    rw [h']
    rfl
  · rw [if_neg hn, decide_eq_true (show 0 < p by omega)] at h
    rw [if_pos (show -p < 0 by omega), decide_eq_false (show ¬ 0 < -p by omega)]
    have h' : isB p a = true := by simpa using h
    rw [h']
    rfl

theorem addAll_in (w : Int) : ∀ (xs out : List Int) (v : Int), v ∈ out ∨ (v ∈ xs ∧ v ≠ w) → v ∈ addAll w xs out
  | [], out, v, h => h.resolve_right (fun h => by cases h.1)
  | x :: xs, out, v, h => by
    simp only [addAll]
    refine addAll_in w xs _ v ?_
    by_cases hc : x ≠ w ∧ x ∉ out
    · rw [if_pos hc]
      rcases h with h | ⟨h, hw⟩
      · exact .inl (List.mem_append_left _ h)
      · rcases List.mem_cons.1 h with h | h
        · subst h
          exact .inl (by simp)
        · exact .inr ⟨h, hw⟩
    · rw [if_neg hc]
      rcases h with h | ⟨h, hw⟩
      · exact .inl h
      · rcases List.mem_cons.1 h with h | h
        · subst h
          by_cases hx : v ∈ out
          · exact .inl hx
          · exact absurd ⟨hw, hx⟩ hc
        · exact .inr ⟨h, hw⟩

def inR (c : List Int) : Prop := ∀ v ∈ c, -1099511627776 ≤ v ∧ v ≤ 1099511627776
/-- Truths that meet two clauses meet what these make. -/
theorem met_made {a b : List Int} {p : Int} {t : List Bool} (hm : makes a b p) (hr : inR a) (h1 : metC a t = true) (h2 : metC b t = true) : metC (made a b p) t = true := by
  obtain ⟨hp, hpa, hpb⟩ := hm
  obtain ⟨x, hx, sx⟩ := List.any_eq_true.1 h1
  obtain ⟨y, hy, sy⟩ := List.any_eq_true.1 h2
  have hpr := hr p hpa
  by_cases hxp : x = p
  · subst hxp
    have hyp : y ≠ negI x := fun e => by
      rw [e, negI_eq hpr.1 hpr.2, so_neg hp hpr.1 hpr.2 sx] at sy
      cases sy
    exact List.any_eq_true.2 ⟨y, addAll_in _ _ _ _ (.inr ⟨hy, hyp⟩), sy⟩
  · exact List.any_eq_true.2 ⟨x, addAll_in _ _ _ _ (.inl (addAll_in _ _ _ _ (.inr ⟨hx, hxp⟩))), sx⟩

theorem allF_pre : ∀ (st : List Step3) (l out : List (List Int)), allF l st = some out → ∀ c ∈ l, c ∈ out
  | [], l, out, h, c, hc => by
    simp only [allF, Option.some.injEq] at h
    subst h
    exact hc
  | s :: st, l, out, h, c, hc => by
    simp only [allF] at h
    split at h
    · exact allF_pre st _ _ h c (List.mem_append_left _ hc)
    · cases h
theorem allF_met (t : List Bool) : ∀ (st : List Step3) (l out : List (List Int)), allF l st = some out → (∀ c ∈ out, inR c) → metB l t = true → metB out t = true
  | [], l, out, h, hr, hm => by
    simp only [allF, Option.some.injEq] at h
    subst h
    exact hm
  | s :: st, l, out, h, hr, hm => by
    simp only [allF] at h
    split at h
    · rename_i hc
      refine allF_met t st _ _ h hr ?_
      have hm' := List.all_eq_true.1 hm
      have ha := getC_mem hc.1.1 hc.1.2.1
      have hb := getC_mem hc.1.2.2.1 hc.1.2.2.2
      unfold metB
      rw [List.all_append, Bool.and_eq_true]
      refine ⟨hm, ?_⟩
      simp only [List.all_cons, List.all_nil, Bool.and_true]
      exact met_made hc.2 (hr _ (allF_pre st _ _ h _ (List.mem_append_left _ ha))) (hm' _ ha) (hm' _ hb)
    · cases h
end Go.Abs.B
