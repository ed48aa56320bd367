import Derived.Test.YtjmhfliaehhijaaKont
import Derived.Test.YtjmhfliaehhijaaA1
set_option linter.unusedVariables false
set_option linter.unusedSimpArgs false
/-
  What truths meet, of both; the statement ClausesMet as the machine code sees it.
-/
namespace Go.Abs.A
open Go Go.Abs
set_option maxRecDepth 8000
attribute [local irreducible] callN runC evalOp

def negI (p : Int) : Int := IntKind.i64.wrap (0 - p)
def isB (n : Int) (a : List Bool) : Bool := decide (0 < n) && decide (n ≤ a.length) && a.getD (n - 1).toNat false
def soB (v : Int) (a : List Bool) : Bool := if v = 0 then false else (isB (if v < 0 then negI v else v) a == decide (0 < v))
def metC (c : List Int) (a : List Bool) : Bool := c.any fun v => soB v a
def metB (l : List (List Int)) (a : List Bool) : Bool := l.all fun c => metC c a

theorem isB_in {n : Int} {a : List Bool} (h0 : 0 < n) (h1 : (n - 1).toNat < a.length) : isB n a = a[(n - 1).toNat] := by
  unfold isB
  rw [decide_eq_true h0, decide_eq_true (by omega), List.getD_eq_getElem?_getD, List.getElem?_eq_getElem h1]
  rfl

theorem so_ok (n : Nat) (v : Int) (a : List Bool) (o : Option Nat) (σ : St) (ha : a.length ≤ 9223372036854775807) :
    callN T (n + 1) 51 [.int .i64 v, .sl (bools a) o] σ = some (.bool (soB v a), σ) := by
  refine call_of (m := m51) rfl rfl (by decide) (k_start ?_)
  unfold m51
  by_cases h0 : v = 0
  · have : soB v a = false := if_pos h0
    rw [this]
    refine k_seq ?_
    refine rv (D.bool false) ?_
    refine k_done (k_skip_seq (k_seq (k_seq ?_)))
    refine rv (D.int IntKind.i64 v) ?_
    refine rv (D.bool (v == (0 : Int))) ?_
    refine k_done (k_skip_seq ?_)
    refine rkn 8 (v == (0 : Int)) true (decide_eq_true (by assumption)) ?_
    refine kct (k_seq ?_)
    refine rv (D.bool false) ?_
    refine k_done (k_skip_seq (k_ret ?_))
    exact ⟨.inr rfl, by kernel_rfl, by kernel_rfl⟩
  have hso : soB v a = ((isB (if v < 0 then negI v else v) a == decide (0 < v)) != false) := by
    rw [Bool.bne_false]
    exact if_neg h0
  rw [hso]
  by_cases hneg : v < 0
  · rw [if_pos hneg]
    have hn : IntKind.wrap IntKind.i64 (0 - v) = negI v := rfl
    by_cases h1 : 0 < IntKind.wrap IntKind.i64 (0 - v)
    · by_cases h2 : IntKind.wrap IntKind.i64 (0 - v) ≤ a.length
      · have h3 : (negI v - 1).toNat < a.length := by rw [← hn]; omega
        rw [isB_in (by rw [← hn]; exact h1) h3]
        refine k_seq ?_
        refine rv (D.bool false) ?_
        refine k_done (k_skip_seq (k_seq (k_seq ?_)))
        refine rv (D.int IntKind.i64 v) ?_
        refine rv (D.bool (v == (0 : Int))) ?_
        refine k_done (k_skip_seq ?_)
        refine rkn 8 (v == (0 : Int)) false (decide_eq_false (by assumption)) ?_
        refine kcf (k_skip_seq (k_seq ?_))
        refine rv (D.int IntKind.i64 v) ?_
        refine ra0 (D.int IntKind.i64 v) ?_
        refine k_done (k_skip_seq (k_seq (k_seq ?_)))
        refine rv (D.int IntKind.i64 v) ?_
        refine rv (D.bool (decide (v < (0 : Int)))) ?_
        refine k_done (k_skip_seq ?_)
        refine rkn 11 (decide (v < (0 : Int))) true (decide_eq_true (by assumption)) ?_
        refine kct ?_
        refine rv (D.int IntKind.i64 v) ?_
        refine rv (D.int IntKind.i64 (IntKind.wrap IntKind.i64 ((0 : Int) - v))) ?_
        refine ra0 (D.int IntKind.i64 (IntKind.wrap IntKind.i64 ((0 : Int) - v))) ?_
        refine k_done (k_skip_seq (k_seq ?_))
        refine rv (D.int IntKind.i64 (IntKind.wrap IntKind.i64 ((0 : Int) - v))) ?_
        refine rv (D.bool (decide (IntKind.wrap IntKind.i64 ((0 : Int) - v) > (0 : Int)))) ?_
        refine rv (D.bool (decide (IntKind.wrap IntKind.i64 ((0 : Int) - v) > (0 : Int)))) ?_
        refine rkn 16 (decide (IntKind.wrap IntKind.i64 ((0 : Int) - v) > (0 : Int))) true (decide_eq_true (by assumption)) ?_
        refine rv (D.int IntKind.i64 (IntKind.wrap IntKind.i64 ((0 : Int) - v))) ?_
        refine rv (D.sl (bools a) none) ?_
        refine rve (D.int IntKind.i64 (↑(List.length (bools a)) : Int)) (.int IntKind.i64 ((↑(List.length a) : Int))) (by simp only [ints, eInt, rows, eInts, bools, eBool, trips, eTrip, List.length_map]) ?_
        refine rv (D.bool (decide (IntKind.wrap IntKind.i64 ((0 : Int) - v) ≤ (↑(List.length a) : Int)))) ?_
        refine rv (D.bool (decide (IntKind.wrap IntKind.i64 ((0 : Int) - v) ≤ (↑(List.length a) : Int)))) ?_
        refine rv (D.bool (decide (IntKind.wrap IntKind.i64 ((0 : Int) - v) ≤ (↑(List.length a) : Int)))) ?_
        refine rkn 22 (decide (IntKind.wrap IntKind.i64 ((0 : Int) - v) ≤ (↑(List.length a) : Int))) true (decide_eq_true (by assumption)) ?_
        refine rv (D.sl (bools a) none) ?_
        refine rv (D.int IntKind.i64 (IntKind.wrap IntKind.i64 ((0 : Int) - v))) ?_
        refine rve (D.int IntKind.i64 (IntKind.wrap IntKind.i64 (IntKind.wrap IntKind.i64 ((0 : Int) - v) - (1 : Int)))) (.int IntKind.i64 (IntKind.wrap IntKind.i64 ((0 : Int) - v) - (1 : Int))) (congrArg (D.int IntKind.i64) (show IntKind.wrap IntKind.i64 (IntKind.wrap IntKind.i64 ((0 : Int) - v) - (1 : Int)) = (IntKind.wrap IntKind.i64 ((0 : Int) - v) - (1 : Int)) from wrap_eq (by omega) (by omega) (by omega))) ?_
        refine runs_indexI (a) (eBool) (o := none) (kd := IntKind.i64) (IntKind.wrap IntKind.i64 ((0 : Int) - v) - (1 : Int)) (by kernel_rfl) (by kernel_rfl) (by kernel_rfl) (by omega) (by omega) (by kernel_rfl) ?_
        refine rv (D.bool a[Int.toNat (IntKind.wrap IntKind.i64 ((0 : Int) - v) - (1 : Int))]) ?_
        refine rv (D.bool a[Int.toNat (IntKind.wrap IntKind.i64 ((0 : Int) - v) - (1 : Int))]) ?_
        refine ra0 (D.bool a[Int.toNat (IntKind.wrap IntKind.i64 ((0 : Int) - v) - (1 : Int))]) ?_
        refine k_done (k_skip_seq (k_seq ?_))
        refine rv (D.bool a[Int.toNat (IntKind.wrap IntKind.i64 ((0 : Int) - v) - (1 : Int))]) ?_
        refine rv (D.int IntKind.i64 v) ?_
        refine rv (D.bool (decide (v > (0 : Int)))) ?_
        refine rv (D.bool ((a[Int.toNat (IntKind.wrap IntKind.i64 ((0 : Int) - v) - (1 : Int))] == decide (v > (0 : Int))) != false)) ?_
        refine ra0 (D.bool ((a[Int.toNat (IntKind.wrap IntKind.i64 ((0 : Int) - v) - (1 : Int))] == decide (v > (0 : Int))) != false)) ?_
        refine k_done (k_skip_seq (k_ret ?_))
        exact ⟨.inr rfl, by kernel_rfl, by kernel_rfl⟩
      · have : isB (negI v) a = false := by unfold isB; rw [← hn, decide_eq_false h2]; simp
        rw [this]
        refine k_seq ?_
        refine rv (D.bool false) ?_
        refine k_done (k_skip_seq (k_seq (k_seq ?_)))
        refine rv (D.int IntKind.i64 v) ?_
        refine rv (D.bool (v == (0 : Int))) ?_
        refine k_done (k_skip_seq ?_)
        refine rkn 8 (v == (0 : Int)) false (decide_eq_false (by assumption)) ?_
        refine kcf (k_skip_seq (k_seq ?_))
        refine rv (D.int IntKind.i64 v) ?_
        refine ra0 (D.int IntKind.i64 v) ?_
        refine k_done (k_skip_seq (k_seq (k_seq ?_)))
        refine rv (D.int IntKind.i64 v) ?_
        refine rv (D.bool (decide (v < (0 : Int)))) ?_
        refine k_done (k_skip_seq ?_)
        refine rkn 11 (decide (v < (0 : Int))) true (decide_eq_true (by assumption)) ?_
        refine kct ?_
        refine rv (D.int IntKind.i64 v) ?_
        refine rv (D.int IntKind.i64 (IntKind.wrap IntKind.i64 ((0 : Int) - v))) ?_
        refine ra0 (D.int IntKind.i64 (IntKind.wrap IntKind.i64 ((0 : Int) - v))) ?_
        refine k_done (k_skip_seq (k_seq ?_))
        refine rv (D.int IntKind.i64 (IntKind.wrap IntKind.i64 ((0 : Int) - v))) ?_
        refine rv (D.bool (decide (IntKind.wrap IntKind.i64 ((0 : Int) - v) > (0 : Int)))) ?_
        refine rv (D.bool (decide (IntKind.wrap IntKind.i64 ((0 : Int) - v) > (0 : Int)))) ?_
        refine rkn 16 (decide (IntKind.wrap IntKind.i64 ((0 : Int) - v) > (0 : Int))) true (decide_eq_true (by assumption)) ?_
        refine rv (D.int IntKind.i64 (IntKind.wrap IntKind.i64 ((0 : Int) - v))) ?_
        refine rv (D.sl (bools a) none) ?_
        refine rve (D.int IntKind.i64 (↑(List.length (bools a)) : Int)) (.int IntKind.i64 ((↑(List.length a) : Int))) (by simp only [ints, eInt, rows, eInts, bools, eBool, trips, eTrip, List.length_map]) ?_
        refine rv (D.bool (decide (IntKind.wrap IntKind.i64 ((0 : Int) - v) ≤ (↑(List.length a) : Int)))) ?_
        refine rv (D.bool (decide (IntKind.wrap IntKind.i64 ((0 : Int) - v) ≤ (↑(List.length a) : Int)))) ?_
        refine rv (D.bool (decide (IntKind.wrap IntKind.i64 ((0 : Int) - v) ≤ (↑(List.length a) : Int)))) ?_
        refine rkn 22 (decide (IntKind.wrap IntKind.i64 ((0 : Int) - v) ≤ (↑(List.length a) : Int))) false (decide_eq_false (by assumption)) ?_
        refine rno (rno (rno (rno (rno ?_))))
        refine rv (D.bool false) ?_
        refine ra0 (D.bool false) ?_
        refine k_done (k_skip_seq (k_seq ?_))
        refine rv (D.bool false) ?_
        refine rv (D.int IntKind.i64 v) ?_
        refine rv (D.bool (decide (v > (0 : Int)))) ?_
        refine rv (D.bool ((false == decide (v > (0 : Int))) != false)) ?_
        refine ra0 (D.bool ((false == decide (v > (0 : Int))) != false)) ?_
        refine k_done (k_skip_seq (k_ret ?_))
        exact ⟨.inr rfl, by kernel_rfl, by kernel_rfl⟩
    · have : isB (negI v) a = false := by unfold isB; rw [← hn, decide_eq_false h1]; simp
      rw [this]
      refine k_seq ?_
      refine rv (D.bool false) ?_
      refine k_done (k_skip_seq (k_seq (k_seq ?_)))
      refine rv (D.int IntKind.i64 v) ?_
      refine rv (D.bool (v == (0 : Int))) ?_
      refine k_done (k_skip_seq ?_)
      refine rkn 8 (v == (0 : Int)) false (decide_eq_false (by assumption)) ?_
      refine kcf (k_skip_seq (k_seq ?_))
      refine rv (D.int IntKind.i64 v) ?_
      refine ra0 (D.int IntKind.i64 v) ?_
      refine k_done (k_skip_seq (k_seq (k_seq ?_)))
      refine rv (D.int IntKind.i64 v) ?_
      refine rv (D.bool (decide (v < (0 : Int)))) ?_
      refine k_done (k_skip_seq ?_)
      refine rkn 11 (decide (v < (0 : Int))) true (decide_eq_true (by assumption)) ?_
      refine kct ?_
      refine rv (D.int IntKind.i64 v) ?_
      refine rv (D.int IntKind.i64 (IntKind.wrap IntKind.i64 ((0 : Int) - v))) ?_
      refine ra0 (D.int IntKind.i64 (IntKind.wrap IntKind.i64 ((0 : Int) - v))) ?_
      refine k_done (k_skip_seq (k_seq ?_))
      refine rv (D.int IntKind.i64 (IntKind.wrap IntKind.i64 ((0 : Int) - v))) ?_
      refine rv (D.bool (decide (IntKind.wrap IntKind.i64 ((0 : Int) - v) > (0 : Int)))) ?_
      refine rv (D.bool (decide (IntKind.wrap IntKind.i64 ((0 : Int) - v) > (0 : Int)))) ?_
      refine rkn 16 (decide (IntKind.wrap IntKind.i64 ((0 : Int) - v) > (0 : Int))) false (decide_eq_false (by assumption)) ?_
      refine rno (rno (rno (rno ?_)))
      refine rv (D.bool false) ?_
      refine rv (D.bool false) ?_
      refine rno (rno (rno (rno (rno ?_))))
      refine rv (D.bool false) ?_
      refine ra0 (D.bool false) ?_
      refine k_done (k_skip_seq (k_seq ?_))
      refine rv (D.bool false) ?_
      refine rv (D.int IntKind.i64 v) ?_
      refine rv (D.bool (decide (v > (0 : Int)))) ?_
      refine rv (D.bool ((false == decide (v > (0 : Int))) != false)) ?_
      refine ra0 (D.bool ((false == decide (v > (0 : Int))) != false)) ?_
      refine k_done (k_skip_seq (k_ret ?_))
      exact ⟨.inr rfl, by kernel_rfl, by kernel_rfl⟩
  · rw [if_neg hneg]
    have h1 : 0 < v := by omega
    by_cases h2 : v ≤ a.length
    · have h3 : (v - 1).toNat < a.length := by omega
      rw [isB_in h1 h3]
      refine k_seq ?_
      refine rv (D.bool false) ?_
      refine k_done (k_skip_seq (k_seq (k_seq ?_)))
      refine rv (D.int IntKind.i64 v) ?_
      refine rv (D.bool (v == (0 : Int))) ?_
      refine k_done (k_skip_seq ?_)
      refine rkn 8 (v == (0 : Int)) false (decide_eq_false (by assumption)) ?_
      refine kcf (k_skip_seq (k_seq ?_))
      refine rv (D.int IntKind.i64 v) ?_
      refine ra0 (D.int IntKind.i64 v) ?_
      refine k_done (k_skip_seq (k_seq (k_seq ?_)))
      refine rv (D.int IntKind.i64 v) ?_
      refine rv (D.bool (decide (v < (0 : Int)))) ?_
      refine k_done (k_skip_seq ?_)
      refine rkn 11 (decide (v < (0 : Int))) false (decide_eq_false (by assumption)) ?_
      refine kcf (k_skip_seq (k_seq ?_))
      refine rv (D.int IntKind.i64 v) ?_
      refine rv (D.bool (decide (v > (0 : Int)))) ?_
      refine rv (D.bool (decide (v > (0 : Int)))) ?_
      refine rkn 16 (decide (v > (0 : Int))) true (decide_eq_true (by assumption)) ?_
      refine rv (D.int IntKind.i64 v) ?_
      refine rv (D.sl (bools a) none) ?_
      refine rve (D.int IntKind.i64 (↑(List.length (bools a)) : Int)) (.int IntKind.i64 ((↑(List.length a) : Int))) (by simp only [ints, eInt, rows, eInts, bools, eBool, trips, eTrip, List.length_map]) ?_
      refine rv (D.bool (decide (v ≤ (↑(List.length a) : Int)))) ?_
      refine rv (D.bool (decide (v ≤ (↑(List.length a) : Int)))) ?_
      refine rv (D.bool (decide (v ≤ (↑(List.length a) : Int)))) ?_
      refine rkn 22 (decide (v ≤ (↑(List.length a) : Int))) true (decide_eq_true (by assumption)) ?_
      refine rv (D.sl (bools a) none) ?_
      refine rv (D.int IntKind.i64 v) ?_
      refine rve (D.int IntKind.i64 (IntKind.wrap IntKind.i64 (v - (1 : Int)))) (.int IntKind.i64 (v - (1 : Int))) (congrArg (D.int IntKind.i64) (show IntKind.wrap IntKind.i64 (v - (1 : Int)) = (v - (1 : Int)) from wrap_eq (by omega) (by omega) (by omega))) ?_
      refine runs_indexI (a) (eBool) (o := none) (kd := IntKind.i64) (v - (1 : Int)) (by kernel_rfl) (by kernel_rfl) (by kernel_rfl) (by omega) (by omega) (by kernel_rfl) ?_
      refine rv (D.bool a[Int.toNat (v - (1 : Int))]) ?_
      refine rv (D.bool a[Int.toNat (v - (1 : Int))]) ?_
      refine ra0 (D.bool a[Int.toNat (v - (1 : Int))]) ?_
      refine k_done (k_skip_seq (k_seq ?_))
      refine rv (D.bool a[Int.toNat (v - (1 : Int))]) ?_
      refine rv (D.int IntKind.i64 v) ?_
      refine rv (D.bool (decide (v > (0 : Int)))) ?_
      refine rv (D.bool ((a[Int.toNat (v - (1 : Int))] == decide (v > (0 : Int))) != false)) ?_
      refine ra0 (D.bool ((a[Int.toNat (v - (1 : Int))] == decide (v > (0 : Int))) != false)) ?_
      refine k_done (k_skip_seq (k_ret ?_))
      exact ⟨.inr rfl, by kernel_rfl, by kernel_rfl⟩
    · have : isB v a = false := by unfold isB; rw [decide_eq_false h2]; simp
      rw [this]
      refine k_seq ?_
      refine rv (D.bool false) ?_
      refine k_done (k_skip_seq (k_seq (k_seq ?_)))
      refine rv (D.int IntKind.i64 v) ?_
      refine rv (D.bool (v == (0 : Int))) ?_
      refine k_done (k_skip_seq ?_)
      refine rkn 8 (v == (0 : Int)) false (decide_eq_false (by assumption)) ?_
      refine kcf (k_skip_seq (k_seq ?_))
      refine rv (D.int IntKind.i64 v) ?_
      refine ra0 (D.int IntKind.i64 v) ?_
      refine k_done (k_skip_seq (k_seq (k_seq ?_)))
      refine rv (D.int IntKind.i64 v) ?_
      refine rv (D.bool (decide (v < (0 : Int)))) ?_
      refine k_done (k_skip_seq ?_)
      refine rkn 11 (decide (v < (0 : Int))) false (decide_eq_false (by assumption)) ?_
      refine kcf (k_skip_seq (k_seq ?_))
      refine rv (D.int IntKind.i64 v) ?_
      refine rv (D.bool (decide (v > (0 : Int)))) ?_
      refine rv (D.bool (decide (v > (0 : Int)))) ?_
      refine rkn 16 (decide (v > (0 : Int))) true (decide_eq_true (by assumption)) ?_
      refine rv (D.int IntKind.i64 v) ?_
      refine rv (D.sl (bools a) none) ?_
      refine rve (D.int IntKind.i64 (↑(List.length (bools a)) : Int)) (.int IntKind.i64 ((↑(List.length a) : Int))) (by simp only [ints, eInt, rows, eInts, bools, eBool, trips, eTrip, List.length_map]) ?_
      refine rv (D.bool (decide (v ≤ (↑(List.length a) : Int)))) ?_
      refine rv (D.bool (decide (v ≤ (↑(List.length a) : Int)))) ?_
      refine rv (D.bool (decide (v ≤ (↑(List.length a) : Int)))) ?_
      refine rkn 22 (decide (v ≤ (↑(List.length a) : Int))) false (decide_eq_false (by assumption)) ?_
      refine rno (rno (rno (rno (rno ?_))))
      refine rv (D.bool false) ?_
      refine ra0 (D.bool false) ?_
      refine k_done (k_skip_seq (k_seq ?_))
      refine rv (D.bool false) ?_
      refine rv (D.int IntKind.i64 v) ?_
      refine rv (D.bool (decide (v > (0 : Int)))) ?_
      refine rv (D.bool ((false == decide (v > (0 : Int))) != false)) ?_
      refine ra0 (D.bool ((false == decide (v > (0 : Int))) != false)) ?_
      refine k_done (k_skip_seq (k_ret ?_))
      exact ⟨.inr rfl, by kernel_rfl, by kernel_rfl⟩

def f34 (l : List (List Int)) (a : List Bool) (i : Int) (m k : D) : Fr := Fr.mk ([.sl (rows l) none, .sl (bools a) none, .junk, .junk, .bool false, .int .i64 i, m, k] ++ List.replicate 31 .junk) (List.replicate 39 none) []
theorem met_ok (n : Nat) (l : List (List Int)) (a : List Bool) (o1 o2 : Option Nat) (σ : St) (ha : a.length ≤ 9223372036854775807) (hn : n < 100000) (hl : l.length < n) (hc : ∀ c ∈ l, c.length < n) :
    callN T (n + 2) 34 [.sl (rows l) o1, .sl (bools a) o2] σ = some (.bool (metB l a), σ) := by
  refine call_of (m := m34) rfl rfl (by decide) (k_start ?_)
  unfold m34
  refine k_seq ?_
  refine rv (D.bool false) ?_
  refine k_done (k_skip_seq (k_seq (k_seq ?_)))
  refine rv (D.int IntKind.i64 (0 : Int)) ?_
  refine k_done (k_skip_seq (k_block ?_))
  refine k_loop (S := Nat × D × D) (fun s => f34 l a s.1 s.2.1 s.2.2) (fun _ => σ) (fun s => s.1 ≤ l.length ∧ ((∃ b, s.2.1 = .bool b) ∨ s.2.1 = .junk) ∧ ((∃ b, s.2.2 = .int .i64 b) ∨ s.2.2 = .junk) ∧ (l.take s.1).all (metC · a) = true) (fun s => l.length - s.1) (0, .junk, .junk) (by kernel_rfl) rfl ⟨by simp, .inr rfl, .inr rfl, by simp⟩ (by intro s hs; omega) ?_
  rintro ⟨i, md, kd⟩ ⟨hi, hm, hk, hall⟩
  simp only [] at hi hm hk hall
  by_cases hlt : i < l.length
  · have hlc := hc l[i] (List.getElem_mem hlt)
    refine k_seq (k_seq ?_)
    refine rv (D.int IntKind.i64 (↑i : Int)) ?_
    refine rv (D.sl (rows l) none) ?_
    refine rve (D.int IntKind.i64 (↑(List.length (rows l)) : Int)) (.int IntKind.i64 ((↑(List.length l) : Int))) (by simp only [ints, eInt, rows, eInts, bools, eBool, trips, eTrip, List.length_map]) ?_
    refine rv (D.bool (decide ((↑i : Int) < (↑(List.length l) : Int)))) ?_
    refine k_done (k_skip_seq ?_)
    refine rkn 12 (decide ((↑i : Int) < (↑(List.length l) : Int))) true (decide_eq_true (by omega)) ?_
    refine kct (k_skip_seq (k_seq (k_block (k_seq ?_))))
    refine rv (D.bool false) ?_
    refine k_done (k_skip_seq (k_seq (k_seq ?_)))
    refine rv (D.int IntKind.i64 (0 : Int)) ?_
    refine k_done (k_skip_seq (k_block ?_))
    refine k_loop (S := Nat × Bool) (fun s => f34 l a i (.bool s.2) (.int .i64 s.1)) (fun _ => σ) (fun s => s.1 ≤ l[i].length ∧ s.2 = (l[i].take s.1).any (soB · a)) (fun s => l[i].length - s.1) (0, false) (by kernel_rfl) rfl ⟨by simp, by simp⟩ (by intro s hs; omega) ?_
    rintro ⟨k, b⟩ ⟨hk, hb⟩
    simp only [] at hk hb
    by_cases hlk : k < l[i].length
    · have hso := so_ok n l[i][k] a none [] ha
      have hat := any_take (p := (soB · a)) hlk
      by_cases hbt : b = true
      · subst hbt
        refine k_seq (k_seq ?_)
        refine rv (D.int IntKind.i64 (↑k : Int)) ?_
        refine rv (D.sl (rows l) none) ?_
        refine rv (D.int IntKind.i64 (↑i : Int)) ?_
        refine runs_index (l) (eInts) (o := none) (kd := IntKind.i64) (i) (by kernel_rfl) (by kernel_rfl) (by kernel_rfl) (by assumption) (by kernel_rfl) ?_
        refine rv (D.sl (ints l[i]) none) ?_
        refine rve (D.int IntKind.i64 (↑(List.length (ints l[i])) : Int)) (.int IntKind.i64 ((↑(List.length l[i]) : Int))) (by simp only [ints, eInt, rows, eInts, bools, eBool, trips, eTrip, List.length_map]) ?_
        refine rv (D.bool (decide ((↑k : Int) < (↑(List.length l[i]) : Int)))) ?_
        refine k_done (k_skip_seq ?_)
        refine rkn 21 (decide ((↑k : Int) < (↑(List.length l[i]) : Int))) true (decide_eq_true (by omega)) ?_
        refine kct (k_skip_seq (k_seq (k_block (k_seq ?_))))
        refine rv (D.sl (rows l) none) ?_
        refine rv (D.int IntKind.i64 (↑i : Int)) ?_
        refine runs_index (l) (eInts) (o := none) (kd := IntKind.i64) (i) (by kernel_rfl) (by kernel_rfl) (by kernel_rfl) (by assumption) (by kernel_rfl) ?_
        refine rv (D.sl (ints l[i]) none) ?_
        refine rv (D.int IntKind.i64 (↑k : Int)) ?_
        refine runs_index (l[i]) (eInt) (o := none) (kd := IntKind.i64) (k) (by kernel_rfl) (by kernel_rfl) (by kernel_rfl) (by assumption) (by kernel_rfl) ?_
        refine rv (D.int IntKind.i64 l[i][k]) ?_
        refine rv (D.sl (bools a) none) ?_
        refine runs_call ([D.int IntKind.i64 l[i][k], D.sl (bools a) none]) (by kernel_rfl) (by kernel_rfl) (by kernel_rfl) (by kernel_rfl) (hso) (by kernel_rfl) ?_
        refine ra0 (D.bool (soB l[i][k] a)) ?_
        refine k_done (k_skip_seq ?_)
        refine rv (D.bool true) ?_
        refine rv (D.bool true) ?_
        refine rno ?_
        refine rv (D.bool true) ?_
        refine ra0 (D.bool true) ?_
        refine k_done (k_skip_block (k_skip_seq ?_))
        refine rv (D.int IntKind.i64 (↑k : Int)) ?_
        refine rve (D.int IntKind.i64 (IntKind.wrap IntKind.i64 ((↑k : Int) + (1 : Int)))) (.int IntKind.i64 ((k + 1 : Nat) : Int)) (congrArg (D.int IntKind.i64) (show IntKind.wrap IntKind.i64 ((↑k : Int) + (1 : Int)) = ((k + 1 : Nat) : Int) from wrap_eq (by omega) (by omega) (by omega))) ?_
        refine ra0 (D.int IntKind.i64 (↑(k + (1 : Nat)) : Int)) ?_
        refine k_done (k_skip_back ?_)
        refine ⟨(k + 1, true), ⟨hlk, ?_⟩, by simp only []; omega, by kernel_rfl, rfl⟩
        rw [hat, ← hb]
        rfl
      · have hbf : b = false := by simpa using hbt
        subst hbf
        refine k_seq (k_seq ?_)
        refine rv (D.int IntKind.i64 (↑k : Int)) ?_
        refine rv (D.sl (rows l) none) ?_
        refine rv (D.int IntKind.i64 (↑i : Int)) ?_
        refine runs_index (l) (eInts) (o := none) (kd := IntKind.i64) (i) (by kernel_rfl) (by kernel_rfl) (by kernel_rfl) (by assumption) (by kernel_rfl) ?_
        refine rv (D.sl (ints l[i]) none) ?_
        refine rve (D.int IntKind.i64 (↑(List.length (ints l[i])) : Int)) (.int IntKind.i64 ((↑(List.length l[i]) : Int))) (by simp only [ints, eInt, rows, eInts, bools, eBool, trips, eTrip, List.length_map]) ?_
        refine rv (D.bool (decide ((↑k : Int) < (↑(List.length l[i]) : Int)))) ?_
        refine k_done (k_skip_seq ?_)
        refine rkn 21 (decide ((↑k : Int) < (↑(List.length l[i]) : Int))) true (decide_eq_true (by omega)) ?_
        refine kct (k_skip_seq (k_seq (k_block (k_seq ?_))))
        refine rv (D.sl (rows l) none) ?_
        refine rv (D.int IntKind.i64 (↑i : Int)) ?_
        refine runs_index (l) (eInts) (o := none) (kd := IntKind.i64) (i) (by kernel_rfl) (by kernel_rfl) (by kernel_rfl) (by assumption) (by kernel_rfl) ?_
        refine rv (D.sl (ints l[i]) none) ?_
        refine rv (D.int IntKind.i64 (↑k : Int)) ?_
        refine runs_index (l[i]) (eInt) (o := none) (kd := IntKind.i64) (k) (by kernel_rfl) (by kernel_rfl) (by kernel_rfl) (by assumption) (by kernel_rfl) ?_
        refine rv (D.int IntKind.i64 l[i][k]) ?_
        refine rv (D.sl (bools a) none) ?_
        refine runs_call ([D.int IntKind.i64 l[i][k], D.sl (bools a) none]) (by kernel_rfl) (by kernel_rfl) (by kernel_rfl) (by kernel_rfl) (hso) (by kernel_rfl) ?_
        refine ra0 (D.bool (soB l[i][k] a)) ?_
        refine k_done (k_skip_seq ?_)
        refine rv (D.bool false) ?_
        refine rv (D.bool false) ?_
        refine rv (D.bool (soB l[i][k] a)) ?_
        refine rv (D.bool (soB l[i][k] a)) ?_
        refine ra0 (D.bool (soB l[i][k] a)) ?_
        refine k_done (k_skip_block (k_skip_seq ?_))
        refine rv (D.int IntKind.i64 (↑k : Int)) ?_
        refine rve (D.int IntKind.i64 (IntKind.wrap IntKind.i64 ((↑k : Int) + (1 : Int)))) (.int IntKind.i64 ((k + 1 : Nat) : Int)) (congrArg (D.int IntKind.i64) (show IntKind.wrap IntKind.i64 ((↑k : Int) + (1 : Int)) = ((k + 1 : Nat) : Int) from wrap_eq (by omega) (by omega) (by omega))) ?_
        refine ra0 (D.int IntKind.i64 (↑(k + (1 : Nat)) : Int)) ?_
        refine k_done (k_skip_back ?_)
        refine ⟨(k + 1, soB l[i][k] a), ⟨hlk, ?_⟩, by simp only []; omega, by kernel_rfl, rfl⟩
        rw [hat, ← hb]
        rfl
    · rw [List.take_of_length_le (by omega)] at hb
      have hb' : b = metC l[i] a := hb
      by_cases hbt : b = true
      · subst hbt
        refine k_seq (k_seq ?_)
        refine rv (D.int IntKind.i64 (↑k : Int)) ?_
        refine rv (D.sl (rows l) none) ?_
        refine rv (D.int IntKind.i64 (↑i : Int)) ?_
        refine runs_index (l) (eInts) (o := none) (kd := IntKind.i64) (i) (by kernel_rfl) (by kernel_rfl) (by kernel_rfl) (by assumption) (by kernel_rfl) ?_
        refine rv (D.sl (ints l[i]) none) ?_
        refine rve (D.int IntKind.i64 (↑(List.length (ints l[i])) : Int)) (.int IntKind.i64 ((↑(List.length l[i]) : Int))) (by simp only [ints, eInt, rows, eInts, bools, eBool, trips, eTrip, List.length_map]) ?_
        refine rv (D.bool (decide ((↑k : Int) < (↑(List.length l[i]) : Int)))) ?_
        refine k_done (k_skip_seq ?_)
        refine rkn 21 (decide ((↑k : Int) < (↑(List.length l[i]) : Int))) false (decide_eq_false (by omega)) ?_
        refine kcf (k_exit_seq (k_exit_back (k_exit_hit rfl (k_skip_seq (k_seq ?_)))))
        refine rv (D.bool true) ?_
        refine rv (D.bool false) ?_
        refine k_done (k_skip_seq (kcf (k_skip_block (k_skip_seq ?_))))
        refine rv (D.int IntKind.i64 (↑i : Int)) ?_
        refine rve (D.int IntKind.i64 (IntKind.wrap IntKind.i64 ((↑i : Int) + (1 : Int)))) (.int IntKind.i64 ((i + 1 : Nat) : Int)) (congrArg (D.int IntKind.i64) (show IntKind.wrap IntKind.i64 ((↑i : Int) + (1 : Int)) = ((i + 1 : Nat) : Int) from wrap_eq (by omega) (by omega) (by omega))) ?_
        refine ra0 (D.int IntKind.i64 (↑(i + (1 : Nat)) : Int)) ?_
        refine k_done (k_skip_back ?_)
        exact ⟨(i + 1, .bool true, .int .i64 k), ⟨hlt, .inl ⟨_, rfl⟩, .inl ⟨_, rfl⟩, by rw [all_take hlt, hall, ← hb']; rfl⟩, by simp only []; omega, by kernel_rfl, rfl⟩
      · have hbf : b = false := by simpa using hbt
        subst hbf
        have : metB l a = false := by
          unfold metB
          rw [Bool.eq_false_iff]
          intro h
          have := List.all_eq_true.1 h l[i] (List.getElem_mem hlt)
          rw [← hb'] at this
          cases this
        rw [this]
        refine k_seq (k_seq ?_)
        refine rv (D.int IntKind.i64 (↑k : Int)) ?_
        refine rv (D.sl (rows l) none) ?_
        refine rv (D.int IntKind.i64 (↑i : Int)) ?_
        refine runs_index (l) (eInts) (o := none) (kd := IntKind.i64) (i) (by kernel_rfl) (by kernel_rfl) (by kernel_rfl) (by assumption) (by kernel_rfl) ?_
        refine rv (D.sl (ints l[i]) none) ?_
        refine rve (D.int IntKind.i64 (↑(List.length (ints l[i])) : Int)) (.int IntKind.i64 ((↑(List.length l[i]) : Int))) (by simp only [ints, eInt, rows, eInts, bools, eBool, trips, eTrip, List.length_map]) ?_
        refine rv (D.bool (decide ((↑k : Int) < (↑(List.length l[i]) : Int)))) ?_
        refine k_done (k_skip_seq ?_)
        refine rkn 21 (decide ((↑k : Int) < (↑(List.length l[i]) : Int))) false (decide_eq_false (by omega)) ?_
        refine kcf (k_exit_seq (k_exit_back (k_exit_hit rfl (k_skip_seq (k_seq ?_)))))
        refine rv (D.bool false) ?_
        refine rv (D.bool true) ?_
        refine k_done (k_skip_seq (kct (k_seq ?_)))
        refine rv (D.bool false) ?_
        refine k_done (k_skip_seq (k_ret ?_))
        exact ⟨.inr rfl, by kernel_rfl, by kernel_rfl⟩
  · rw [List.take_of_length_le (by omega)] at hall
    have : metB l a = true := hall
    rw [this]
    refine k_seq (k_seq ?_)
    refine rv (D.int IntKind.i64 (↑i : Int)) ?_
    refine rv (D.sl (rows l) none) ?_
    refine rve (D.int IntKind.i64 (↑(List.length (rows l)) : Int)) (.int IntKind.i64 ((↑(List.length l) : Int))) (by simp only [ints, eInt, rows, eInts, bools, eBool, trips, eTrip, List.length_map]) ?_
    refine rv (D.bool (decide ((↑i : Int) < (↑(List.length l) : Int)))) ?_
    refine k_done (k_skip_seq ?_)
    refine rkn 12 (decide ((↑i : Int) < (↑(List.length l) : Int))) false (decide_eq_false (by omega)) ?_
    refine kcf (k_exit_seq (k_exit_back (k_exit_hit rfl (k_skip_seq (k_seq ?_)))))
    refine rv (D.bool true) ?_
    refine k_done (k_skip_seq (k_ret ?_))
    exact ⟨.inr rfl, by kernel_rfl, by kernel_rfl⟩


/-! the given program's Met -/
theorem lit_ok (n : Nat) (v : Int) (a : List Bool) (rest : St) (hv : -9223372036854775808 ≤ v ∧ v ≤ 9223372036854775807) (ha : a.length ≤ 9223372036854775807) :
    callN T (n + 1) 47 [.int .i64 v, .ptr 0 0] (O0 a :: rest) = some (.bool (soB v a), O0 a :: rest) := by
  refine call_of (m := m47) rfl rfl (by decide) (k_start ?_)
  unfold m47
  have hwr : v ≠ -9223372036854775808 → IntKind.wrap IntKind.i64 (0 - v) = -v := fun h => wrap_eq (by omega) (by omega) (by omega)
  by_cases h0 : v = 0
  · have : soB v a = false := if_pos h0
    rw [this]
    have hw := hwr (by omega)
    refine k_seq ?_
    refine rv (D.bool false) ?_
    refine k_done (k_skip_seq (k_seq ?_))
    refine rv (D.int IntKind.i64 v) ?_
    refine rv (D.int IntKind.i64 v) ?_
    refine rve (D.int IntKind.i64 (IntKind.wrap IntKind.i64 ((0 : Int) - v))) (.int IntKind.i64 ((0 : Int) - v)) (congrArg (D.int IntKind.i64) (show IntKind.wrap IntKind.i64 ((0 : Int) - v) = ((0 : Int) - v) from wrap_eq (by omega) (by omega) (by omega))) ?_
    refine rve (D.int IntKind.i64 (if (0 : Int) - v > v then (0 : Int) - v else v)) (.int IntKind.i64 (v)) (congrArg (D.int IntKind.i64) (if_neg (by omega))) ?_
    refine ra0 (D.int IntKind.i64 v) ?_
    refine k_done (k_skip_seq (k_seq ?_))
    refine rv (D.int IntKind.i64 v) ?_
    refine rv (D.bool (decide (v > (0 : Int)))) ?_
    refine rv (D.bool (decide (v > (0 : Int)))) ?_
    refine rkn 12 (decide (v > (0 : Int))) false (decide_eq_false (by omega)) ?_
    refine rno (rno (rno (rno ?_)))
    refine rv (D.bool false) ?_
    refine rv (D.bool false) ?_
    refine rno (rno (rno (rno (rno ?_))))
    refine rv (D.bool false) ?_
    refine ra0 (D.bool false) ?_
    refine k_done (k_skip_seq (k_seq ?_))
    refine rv (D.int IntKind.i64 v) ?_
    refine rv (D.bool (v != (0 : Int))) ?_
    refine rv (D.bool (v != (0 : Int))) ?_
    refine rkn 27 (v != (0 : Int)) false (bne_eq_false_iff_eq.2 (by assumption)) ?_
    refine rno (rno (rno (rno ?_)))
    refine rv (D.bool false) ?_
    refine ra0 (D.bool false) ?_
    refine k_done (k_skip_seq (k_ret ?_))
    exact ⟨.inr rfl, by kernel_rfl, by kernel_rfl⟩
  have hso : soB v a = ((isB (if v < 0 then negI v else v) a == decide (0 < v)) != false) := by
    rw [Bool.bne_false]
    exact if_neg h0
  rw [hso]
  by_cases hneg : v < 0
  · rw [if_pos hneg]
    by_cases hmin : v = -9223372036854775808
    · have hw : IntKind.wrap IntKind.i64 (0 - v) = v := by rw [hmin]; rfl
      have hf : isB (negI v) a = false := by
        unfold isB
        rw [show negI v = v from hw, decide_eq_false (show ¬ 0 < v by omega)]
        simp
      rw [hf]
      have hc : ¬ IntKind.wrap IntKind.i64 (0 - v) > v := by omega
      refine k_seq ?_
      refine rv (D.bool false) ?_
      refine k_done (k_skip_seq (k_seq ?_))
      refine rv (D.int IntKind.i64 v) ?_
      refine rv (D.int IntKind.i64 v) ?_
      refine rv (D.int IntKind.i64 (IntKind.wrap IntKind.i64 ((0 : Int) - v))) ?_
      refine rve (D.int IntKind.i64 (if IntKind.wrap IntKind.i64 ((0 : Int) - v) > v then IntKind.wrap IntKind.i64 ((0 : Int) - v) else v)) (.int IntKind.i64 (v)) (congrArg (D.int IntKind.i64) (if_neg (by assumption))) ?_
      refine ra0 (D.int IntKind.i64 v) ?_
      refine k_done (k_skip_seq (k_seq ?_))
      refine rv (D.int IntKind.i64 v) ?_
      refine rv (D.bool (decide (v > (0 : Int)))) ?_
      refine rv (D.bool (decide (v > (0 : Int)))) ?_
      refine rkn 12 (decide (v > (0 : Int))) false (decide_eq_false (by omega)) ?_
      refine rno (rno (rno (rno ?_)))
      refine rv (D.bool false) ?_
      refine rv (D.bool false) ?_
      refine rno (rno (rno (rno (rno ?_))))
      refine rv (D.bool false) ?_
      refine ra0 (D.bool false) ?_
      refine k_done (k_skip_seq (k_seq ?_))
      refine rv (D.int IntKind.i64 v) ?_
      refine rv (D.bool (v != (0 : Int))) ?_
      refine rv (D.bool (v != (0 : Int))) ?_
      refine rkn 27 (v != (0 : Int)) true (bne_iff_ne.2 (by assumption)) ?_
      refine rv (D.bool false) ?_
      refine rv (D.int IntKind.i64 v) ?_
      refine rv (D.bool (decide (v > (0 : Int)))) ?_
      refine rv (D.bool ((false == decide (v > (0 : Int))) != false)) ?_
      refine rv (D.bool ((false == decide (v > (0 : Int))) != false)) ?_
      refine ra0 (D.bool ((false == decide (v > (0 : Int))) != false)) ?_
      refine k_done (k_skip_seq (k_ret ?_))
      exact ⟨.inr rfl, by kernel_rfl, by kernel_rfl⟩
    · have hw : negI v = 0 - v := wrap_eq rfl (by omega) (by omega)
      have hc : 0 - v > v := by omega
      have h1 : 0 - v > 0 := by omega
      rw [hw]
      by_cases h2 : 0 - v ≤ a.length
      · have h3 : (0 - v - 1).toNat < a.length := by omega
        rw [isB_in (show 0 < 0 - v from h1) h3]
        refine k_seq ?_
        refine rv (D.bool false) ?_
        refine k_done (k_skip_seq (k_seq ?_))
        refine rv (D.int IntKind.i64 v) ?_
        refine rv (D.int IntKind.i64 v) ?_
        refine rve (D.int IntKind.i64 (IntKind.wrap IntKind.i64 ((0 : Int) - v))) (.int IntKind.i64 ((0 : Int) - v)) (congrArg (D.int IntKind.i64) (show IntKind.wrap IntKind.i64 ((0 : Int) - v) = ((0 : Int) - v) from wrap_eq (by omega) (by omega) (by omega))) ?_
        refine rve (D.int IntKind.i64 (if (0 : Int) - v > v then (0 : Int) - v else v)) (.int IntKind.i64 ((0 : Int) - v)) (congrArg (D.int IntKind.i64) (if_pos (by assumption))) ?_
        refine ra0 (D.int IntKind.i64 ((0 : Int) - v)) ?_
        refine k_done (k_skip_seq (k_seq ?_))
        refine rv (D.int IntKind.i64 ((0 : Int) - v)) ?_
        refine rv (D.bool (decide ((0 : Int) - v > (0 : Int)))) ?_
        refine rv (D.bool (decide ((0 : Int) - v > (0 : Int)))) ?_
        refine rkn 12 (decide ((0 : Int) - v > (0 : Int))) true (decide_eq_true (by assumption)) ?_
        refine rv (D.int IntKind.i64 ((0 : Int) - v)) ?_
        refine rv (D.sl (bools a) none) ?_
        refine rve (D.int IntKind.i64 (↑(List.length (bools a)) : Int)) (.int IntKind.i64 ((↑(List.length a) : Int))) (by simp only [ints, eInt, rows, eInts, bools, eBool, trips, eTrip, List.length_map]) ?_
        refine rv (D.bool (decide ((0 : Int) - v ≤ (↑(List.length a) : Int)))) ?_
        refine rv (D.bool (decide ((0 : Int) - v ≤ (↑(List.length a) : Int)))) ?_
        refine rv (D.bool (decide ((0 : Int) - v ≤ (↑(List.length a) : Int)))) ?_
        refine rkn 18 (decide ((0 : Int) - v ≤ (↑(List.length a) : Int))) true (decide_eq_true (by assumption)) ?_
        refine rv (D.sl (bools a) none) ?_
        refine rv (D.int IntKind.i64 ((0 : Int) - v)) ?_
        refine rve (D.int IntKind.i64 (IntKind.wrap IntKind.i64 ((0 : Int) - v - (1 : Int)))) (.int IntKind.i64 ((0 : Int) - v - (1 : Int))) (congrArg (D.int IntKind.i64) (show IntKind.wrap IntKind.i64 ((0 : Int) - v - (1 : Int)) = ((0 : Int) - v - (1 : Int)) from wrap_eq (by omega) (by omega) (by omega))) ?_
        refine runs_indexI (a) (eBool) (o := none) (kd := IntKind.i64) ((0 : Int) - v - (1 : Int)) (by kernel_rfl) (by kernel_rfl) (by kernel_rfl) (by omega) (by omega) (by kernel_rfl) ?_
        refine rv (D.bool a[Int.toNat ((0 : Int) - v - (1 : Int))]) ?_
        refine rv (D.bool a[Int.toNat ((0 : Int) - v - (1 : Int))]) ?_
        refine ra0 (D.bool a[Int.toNat ((0 : Int) - v - (1 : Int))]) ?_
        refine k_done (k_skip_seq (k_seq ?_))
        refine rv (D.int IntKind.i64 v) ?_
        refine rv (D.bool (v != (0 : Int))) ?_
        refine rv (D.bool (v != (0 : Int))) ?_
        refine rkn 27 (v != (0 : Int)) true (bne_iff_ne.2 (by assumption)) ?_
        refine rv (D.bool a[Int.toNat ((0 : Int) - v - (1 : Int))]) ?_
        refine rv (D.int IntKind.i64 v) ?_
        refine rv (D.bool (decide (v > (0 : Int)))) ?_
        refine rv (D.bool ((a[Int.toNat ((0 : Int) - v - (1 : Int))] == decide (v > (0 : Int))) != false)) ?_
        refine rv (D.bool ((a[Int.toNat ((0 : Int) - v - (1 : Int))] == decide (v > (0 : Int))) != false)) ?_
        refine ra0 (D.bool ((a[Int.toNat ((0 : Int) - v - (1 : Int))] == decide (v > (0 : Int))) != false)) ?_
        refine k_done (k_skip_seq (k_ret ?_))
        exact ⟨.inr rfl, by kernel_rfl, by kernel_rfl⟩
      · have hf : isB (0 - v) a = false := by
          unfold isB
          rw [decide_eq_false h2]
          simp
        rw [hf]
        refine k_seq ?_
        refine rv (D.bool false) ?_
        refine k_done (k_skip_seq (k_seq ?_))
        refine rv (D.int IntKind.i64 v) ?_
        refine rv (D.int IntKind.i64 v) ?_
        refine rve (D.int IntKind.i64 (IntKind.wrap IntKind.i64 ((0 : Int) - v))) (.int IntKind.i64 ((0 : Int) - v)) (congrArg (D.int IntKind.i64) (show IntKind.wrap IntKind.i64 ((0 : Int) - v) = ((0 : Int) - v) from wrap_eq (by omega) (by omega) (by omega))) ?_
        refine rve (D.int IntKind.i64 (if (0 : Int) - v > v then (0 : Int) - v else v)) (.int IntKind.i64 ((0 : Int) - v)) (congrArg (D.int IntKind.i64) (if_pos (by assumption))) ?_
        refine ra0 (D.int IntKind.i64 ((0 : Int) - v)) ?_
        refine k_done (k_skip_seq (k_seq ?_))
        refine rv (D.int IntKind.i64 ((0 : Int) - v)) ?_
        refine rv (D.bool (decide ((0 : Int) - v > (0 : Int)))) ?_
        refine rv (D.bool (decide ((0 : Int) - v > (0 : Int)))) ?_
        refine rkn 12 (decide ((0 : Int) - v > (0 : Int))) true (decide_eq_true (by assumption)) ?_
        refine rv (D.int IntKind.i64 ((0 : Int) - v)) ?_
        refine rv (D.sl (bools a) none) ?_
        refine rve (D.int IntKind.i64 (↑(List.length (bools a)) : Int)) (.int IntKind.i64 ((↑(List.length a) : Int))) (by simp only [ints, eInt, rows, eInts, bools, eBool, trips, eTrip, List.length_map]) ?_
        refine rv (D.bool (decide ((0 : Int) - v ≤ (↑(List.length a) : Int)))) ?_
        refine rv (D.bool (decide ((0 : Int) - v ≤ (↑(List.length a) : Int)))) ?_
        refine rv (D.bool (decide ((0 : Int) - v ≤ (↑(List.length a) : Int)))) ?_
        refine rkn 18 (decide ((0 : Int) - v ≤ (↑(List.length a) : Int))) false (decide_eq_false (by assumption)) ?_
        refine rno (rno (rno (rno (rno ?_))))
        refine rv (D.bool false) ?_
        refine ra0 (D.bool false) ?_
        refine k_done (k_skip_seq (k_seq ?_))
        refine rv (D.int IntKind.i64 v) ?_
        refine rv (D.bool (v != (0 : Int))) ?_
        refine rv (D.bool (v != (0 : Int))) ?_
        refine rkn 27 (v != (0 : Int)) true (bne_iff_ne.2 (by assumption)) ?_
        refine rv (D.bool false) ?_
        refine rv (D.int IntKind.i64 v) ?_
        refine rv (D.bool (decide (v > (0 : Int)))) ?_
        refine rv (D.bool ((false == decide (v > (0 : Int))) != false)) ?_
        refine rv (D.bool ((false == decide (v > (0 : Int))) != false)) ?_
        refine ra0 (D.bool ((false == decide (v > (0 : Int))) != false)) ?_
        refine k_done (k_skip_seq (k_ret ?_))
        exact ⟨.inr rfl, by kernel_rfl, by kernel_rfl⟩
  · rw [if_neg hneg]
    have hc : ¬ 0 - v > v := by omega
    have h1 : v > 0 := by omega
    by_cases h2 : v ≤ a.length
    · have h3 : (v - 1).toNat < a.length := by omega
      rw [isB_in (show 0 < v from h1) h3]
      refine k_seq ?_
      refine rv (D.bool false) ?_
      refine k_done (k_skip_seq (k_seq ?_))
      refine rv (D.int IntKind.i64 v) ?_
      refine rv (D.int IntKind.i64 v) ?_
      refine rve (D.int IntKind.i64 (IntKind.wrap IntKind.i64 ((0 : Int) - v))) (.int IntKind.i64 ((0 : Int) - v)) (congrArg (D.int IntKind.i64) (show IntKind.wrap IntKind.i64 ((0 : Int) - v) = ((0 : Int) - v) from wrap_eq (by omega) (by omega) (by omega))) ?_
      refine rve (D.int IntKind.i64 (if (0 : Int) - v > v then (0 : Int) - v else v)) (.int IntKind.i64 (v)) (congrArg (D.int IntKind.i64) (if_neg (by assumption))) ?_
      refine ra0 (D.int IntKind.i64 v) ?_
      refine k_done (k_skip_seq (k_seq ?_))
      refine rv (D.int IntKind.i64 v) ?_
      refine rv (D.bool (decide (v > (0 : Int)))) ?_
      refine rv (D.bool (decide (v > (0 : Int)))) ?_
      refine rkn 12 (decide (v > (0 : Int))) true (decide_eq_true (by assumption)) ?_
      refine rv (D.int IntKind.i64 v) ?_
      refine rv (D.sl (bools a) none) ?_
      refine rve (D.int IntKind.i64 (↑(List.length (bools a)) : Int)) (.int IntKind.i64 ((↑(List.length a) : Int))) (by simp only [ints, eInt, rows, eInts, bools, eBool, trips, eTrip, List.length_map]) ?_
      refine rv (D.bool (decide (v ≤ (↑(List.length a) : Int)))) ?_
      refine rv (D.bool (decide (v ≤ (↑(List.length a) : Int)))) ?_
      refine rv (D.bool (decide (v ≤ (↑(List.length a) : Int)))) ?_
      refine rkn 18 (decide (v ≤ (↑(List.length a) : Int))) true (decide_eq_true (by assumption)) ?_
      refine rv (D.sl (bools a) none) ?_
      refine rv (D.int IntKind.i64 v) ?_
      refine rve (D.int IntKind.i64 (IntKind.wrap IntKind.i64 (v - (1 : Int)))) (.int IntKind.i64 (v - (1 : Int))) (congrArg (D.int IntKind.i64) (show IntKind.wrap IntKind.i64 (v - (1 : Int)) = (v - (1 : Int)) from wrap_eq (by omega) (by omega) (by omega))) ?_
      refine runs_indexI (a) (eBool) (o := none) (kd := IntKind.i64) (v - (1 : Int)) (by kernel_rfl) (by kernel_rfl) (by kernel_rfl) (by omega) (by omega) (by kernel_rfl) ?_
      refine rv (D.bool a[Int.toNat (v - (1 : Int))]) ?_
      refine rv (D.bool a[Int.toNat (v - (1 : Int))]) ?_
      refine ra0 (D.bool a[Int.toNat (v - (1 : Int))]) ?_
      refine k_done (k_skip_seq (k_seq ?_))
      refine rv (D.int IntKind.i64 v) ?_
      refine rv (D.bool (v != (0 : Int))) ?_
      refine rv (D.bool (v != (0 : Int))) ?_
      refine rkn 27 (v != (0 : Int)) true (bne_iff_ne.2 (by assumption)) ?_
      refine rv (D.bool a[Int.toNat (v - (1 : Int))]) ?_
      refine rv (D.int IntKind.i64 v) ?_
      refine rv (D.bool (decide (v > (0 : Int)))) ?_
      refine rv (D.bool ((a[Int.toNat (v - (1 : Int))] == decide (v > (0 : Int))) != false)) ?_
      refine rv (D.bool ((a[Int.toNat (v - (1 : Int))] == decide (v > (0 : Int))) != false)) ?_
      refine ra0 (D.bool ((a[Int.toNat (v - (1 : Int))] == decide (v > (0 : Int))) != false)) ?_
      refine k_done (k_skip_seq (k_ret ?_))
      exact ⟨.inr rfl, by kernel_rfl, by kernel_rfl⟩
    · have hf : isB v a = false := by
        unfold isB
        rw [decide_eq_false h2]
        simp
      rw [hf]
      refine k_seq ?_
      refine rv (D.bool false) ?_
      refine k_done (k_skip_seq (k_seq ?_))
      refine rv (D.int IntKind.i64 v) ?_
      refine rv (D.int IntKind.i64 v) ?_
      refine rve (D.int IntKind.i64 (IntKind.wrap IntKind.i64 ((0 : Int) - v))) (.int IntKind.i64 ((0 : Int) - v)) (congrArg (D.int IntKind.i64) (show IntKind.wrap IntKind.i64 ((0 : Int) - v) = ((0 : Int) - v) from wrap_eq (by omega) (by omega) (by omega))) ?_
      refine rve (D.int IntKind.i64 (if (0 : Int) - v > v then (0 : Int) - v else v)) (.int IntKind.i64 (v)) (congrArg (D.int IntKind.i64) (if_neg (by assumption))) ?_
      refine ra0 (D.int IntKind.i64 v) ?_
      refine k_done (k_skip_seq (k_seq ?_))
      refine rv (D.int IntKind.i64 v) ?_
      refine rv (D.bool (decide (v > (0 : Int)))) ?_
      refine rv (D.bool (decide (v > (0 : Int)))) ?_
      refine rkn 12 (decide (v > (0 : Int))) true (decide_eq_true (by assumption)) ?_
      refine rv (D.int IntKind.i64 v) ?_
      refine rv (D.sl (bools a) none) ?_
      refine rve (D.int IntKind.i64 (↑(List.length (bools a)) : Int)) (.int IntKind.i64 ((↑(List.length a) : Int))) (by simp only [ints, eInt, rows, eInts, bools, eBool, trips, eTrip, List.length_map]) ?_
      refine rv (D.bool (decide (v ≤ (↑(List.length a) : Int)))) ?_
      refine rv (D.bool (decide (v ≤ (↑(List.length a) : Int)))) ?_
      refine rv (D.bool (decide (v ≤ (↑(List.length a) : Int)))) ?_
      refine rkn 18 (decide (v ≤ (↑(List.length a) : Int))) false (decide_eq_false (by assumption)) ?_
      refine rno (rno (rno (rno (rno ?_))))
      refine rv (D.bool false) ?_
      refine ra0 (D.bool false) ?_
      refine k_done (k_skip_seq (k_seq ?_))
      refine rv (D.int IntKind.i64 v) ?_
      refine rv (D.bool (v != (0 : Int))) ?_
      refine rv (D.bool (v != (0 : Int))) ?_
      refine rkn 27 (v != (0 : Int)) true (bne_iff_ne.2 (by assumption)) ?_
      refine rv (D.bool false) ?_
      refine rv (D.int IntKind.i64 v) ?_
      refine rv (D.bool (decide (v > (0 : Int)))) ?_
      refine rv (D.bool ((false == decide (v > (0 : Int))) != false)) ?_
      refine rv (D.bool ((false == decide (v > (0 : Int))) != false)) ?_
      refine ra0 (D.bool ((false == decide (v > (0 : Int))) != false)) ?_
      refine k_done (k_skip_seq (k_ret ?_))
      exact ⟨.inr rfl, by kernel_rfl, by kernel_rfl⟩
end Go.Abs.A
