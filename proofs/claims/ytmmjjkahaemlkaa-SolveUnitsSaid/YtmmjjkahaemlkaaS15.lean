import Derived.Test.YtmmjjkahaemlkaaKont2
import Derived.Test.YtmmjjkahaemlkaaS14
set_option linter.unusedVariables false
set_option linter.unusedSimpArgs false
/-
  The statement SolveUnits as the machine code sees it.
-/
namespace Go.Abs.B
open Go Go.Abs
set_option maxRecDepth 8000
attribute [local irreducible] callN runC evalOp

def f9 (l : List Int) (vars R : Int) (c : List (List Int)) (ag : Bool) (i : Int) : Fr :=
  Fr.mk ([.sl (i8s l) none, .int .u8 vars, .junk, .junk, .bool false, .junk, .int .i64 R, .sl (rows c) (some 34), .msl 0 0 13 1, .bool ag, .int .i64 i] ++ List.replicate 121 .junk) (List.replicate 132 none) []
def f9b (l : List Int) (vars R : Int) (c : List (List Int)) (ag : Bool) (i : Int) (fr j : Int) : Fr :=
  Fr.mk ([.sl (i8s l) none, .int .u8 vars, .junk, .junk, .bool false, .junk, .int .i64 R, .sl (rows c) (some 34), .msl 0 0 13 1, .bool ag, .int .i64 i, .junk, .junk, .int .i64 fr, .int .i64 j] ++ List.replicate 117 .junk) (List.replicate 132 none) []
def f9c (l : List Int) (vars R : Int) (c : List (List Int)) (i : Int) (fr j : Int) (kd td : Int) (tr : List Bool) (st : List (Int × Int × Int)) (k : Int) : Fr :=
  Fr.mk ([.sl (i8s l) none, .int .u8 vars, .junk, .junk, .bool false, .junk, .int .i64 R, .sl (rows c) (some 34), .msl 0 0 13 1, .bool false, .int .i64 i, .junk, .junk, .int .i64 fr, .int .i64 j, .lptr 15 0, .int .i64 k] ++ List.replicate 115 .junk) ((List.replicate 132 none).set 15 (some [.int .i64 kd, .sl (bools tr) none, .sl (trips st) none, .int .i64 td])) []
theorem awakeU_ok : callN T 40000 22 [] [] = some (.bool true, []) := by kernel_rfl
theorem ils_set (s : List Int) (k : Nat) (v : Int) : (ils s).set k (.int .i64 v) = ils (s.set k v) := by simp [ils]
theorem freeU_le (s : List Int) (j : Nat) : freeU s j ≤ j := by
  unfold freeU zeros
  refine Nat.le_trans List.count_le_length ?_
  rw [List.length_drop, List.length_take]
  omega
set_option maxHeartbeats 1600000 in
theorem lawUnits_ok (l : List Int) (vars : Int) (o : Option Nat) (hl8 : ∀ n ∈ l, -128 ≤ n ∧ n ≤ 127) (hv : 0 ≤ vars ∧ vars ≤ 255) : ∃ σ, callN T 40001 9 [.sl (i8s l) o, .int .u8 vars] [] = some (.bool true, σ) := by
  obtain ⟨n, hR, hn⟩ : ∃ n : Nat, IntKind.wrap IntKind.i64 (Int.tmod vars (12 : Int)) = n ∧ n ≤ 11 := by
    have h1 : Int.tmod vars 12 = vars % 12 := Int.tmod_eq_emod_of_nonneg hv.1
    rw [h1, wrap_eq rfl (by omega) (by omega)]
    exact ⟨(vars % 12).toNat, by omega, by omega⟩
  refine call_ofE (m := m9) rfl rfl (by decide) (k_start ?_)
  unfold m9
  refine k_seq ?_
  refine rv (D.bool false) ?_
  refine k_done (k_skip_seq (k_seq ?_))
  refine runs_call ([]) (by kernel_rfl) (by kernel_rfl) (by kernel_rfl) (by kernel_rfl) (awakeU_ok) (by kernel_rfl) ?_
  refine ra0 (D.bool true) ?_
  refine k_done (k_skip_seq (k_seq (k_seq ?_)))
  refine rv (D.bool true) ?_
  refine rv (D.bool false) ?_
  refine k_done (k_skip_seq (kcf (k_skip_seq (k_seq ?_))))
  refine rv (D.int IntKind.u8 vars) ?_
  refine rv (D.int IntKind.u8 (Int.tmod vars (12 : Int))) ?_
  refine rv (D.int IntKind.i64 (IntKind.wrap IntKind.i64 (Int.tmod vars (12 : Int)))) ?_
  refine ra0 (D.int IntKind.i64 (IntKind.wrap IntKind.i64 (Int.tmod vars (12 : Int)))) ?_
  refine k_done (k_skip_seq (k_seq ?_))
  refine rv (D.sl [] (some (34 : Nat))) ?_
  refine k_done (k_skip_seq (k_seq ?_))
  refine rgs (D.msl (0 : Nat) (0 : Nat) (13 : Nat) (1 : Nat)) ([Obj.cells [D.int IntKind.i64 (0 : Int), D.int IntKind.i64 (0 : Int), D.int IntKind.i64 (0 : Int), D.int IntKind.i64 (0 : Int), D.int IntKind.i64 (0 : Int), D.int IntKind.i64 (0 : Int), D.int IntKind.i64 (0 : Int), D.int IntKind.i64 (0 : Int), D.int IntKind.i64 (0 : Int), D.int IntKind.i64 (0 : Int), D.int IntKind.i64 (0 : Int), D.int IntKind.i64 (0 : Int), D.int IntKind.i64 (0 : Int)]]) ?_
  refine ra0 (D.msl (0 : Nat) (0 : Nat) (13 : Nat) (1 : Nat)) ?_
  refine k_done (k_skip_seq (k_seq ?_))
  refine rv (D.bool false) ?_
  refine k_done (k_skip_seq (k_seq (k_seq ?_)))
  refine rv (D.int IntKind.i64 (0 : Int)) ?_
  refine k_done (k_skip_seq (k_block ?_))
  refine k_loop (fun i : Nat => f9 l vars (IntKind.wrap IntKind.i64 (Int.tmod vars (12 : Int))) (uC n (l.take i)) (uA n z13 (l.take i)) i) (fun i => [.cells (ils (uS n z13 (l.take i)))]) (fun i => i ≤ l.length ∧ i ≤ 30) (fun i => 30 - i) 0 (by kernel_rfl) rfl (by simp) (by intro s hs; omega) ?_
  rintro i ⟨hi, hi30⟩
  by_cases hgo : i < l.length ∧ i < 30
  · obtain ⟨hlt, hlt30⟩ := hgo
    have hb8 := hl8 l[i] (List.getElem_mem hlt)
    have htk := List.take_succ_eq_append_getElem hlt
    have hC := uC_snoc n l[i] (l.take i)
    have hA := uA_snoc n l[i] (l.take i) z13
    have hS := uS_snoc n l[i] (l.take i) z13
    rw [← htk] at hC hA hS
    have hsl : (uS n z13 (l.take i)).length = 13 := uS_len _ _ _
    have hcl : (uC n (l.take i)).length ≤ i := Nat.le_trans (uC_len n _) (by rw [List.length_take]; omega)
    generalize uC n (l.take i) = c at *
    generalize uA n z13 (l.take i) = ag at *
    generalize uS n z13 (l.take i) = s at *
    by_cases hbad : uBad n l[i]
    · rw [if_pos hbad] at hC hA hS
      by_cases hz : l[i] = 0
      · refine k_seq (k_seq ?_)
        refine rv (D.int IntKind.i64 (↑i : Int)) ?_
        refine rv (D.sl (i8s l) none) ?_
        refine rve (D.int IntKind.i64 (↑(List.length (i8s l)) : Int)) (.int IntKind.i64 ((↑(List.length l) : Int))) (by simp only [ints, eInt, rows, eInts, bools, eBool, trips, eTrip, i8s, List.length_map]) ?_
        refine rv (D.bool (decide ((↑i : Int) < (↑(List.length l) : Int)))) ?_
        refine rv (D.bool (decide ((↑i : Int) < (↑(List.length l) : Int)))) ?_
        refine rkn 28 (decide ((↑i : Int) < (↑(List.length l) : Int))) true (decide_eq_true (by omega)) ?_
        refine rv (D.int IntKind.i64 (↑i : Int)) ?_
        refine rv (D.bool (decide ((↑i : Int) < (30 : Int)))) ?_
        refine rv (D.bool (decide ((↑i : Int) < (30 : Int)))) ?_
        refine k_done (k_skip_seq ?_)
        refine rkn 31 (decide ((↑i : Int) < (30 : Int))) true (decide_eq_true (by omega)) ?_
        refine kct (k_skip_seq (k_seq (k_block (k_seq ?_))))
        refine rv (D.sl (i8s l) none) ?_
        refine rv (D.int IntKind.i64 (↑i : Int)) ?_
        refine runs_index (l) (fun n => [D.int IntKind.i8 n]) (o := none) (kd := IntKind.i64) (i) (by kernel_rfl) (by kernel_rfl) (by kernel_rfl) (by assumption) (by kernel_rfl) ?_
        refine rv (D.int IntKind.i8 l[i]) ?_
        refine rve (D.int IntKind.i64 (IntKind.wrap IntKind.i64 l[i])) (.int IntKind.i64 (l[i])) (congrArg (D.int IntKind.i64) (show IntKind.wrap IntKind.i64 l[i] = (l[i]) from wrap_eq (by omega) (by omega) (by omega))) ?_
        refine ra0 (D.int IntKind.i64 l[i]) ?_
        refine k_done (k_skip_seq (k_seq ?_))
        refine rv (D.int IntKind.i64 l[i]) ?_
        refine ra0 (D.int IntKind.i64 l[i]) ?_
        refine k_done (k_skip_seq (k_seq (k_seq ?_)))
        refine rv (D.int IntKind.i64 l[i]) ?_
        refine rv (D.bool (decide (l[i] < (0 : Int)))) ?_
        refine k_done (k_skip_seq ?_)
        refine rkn 41 (decide (l[i] < (0 : Int))) false (decide_eq_false (by omega)) ?_
        refine kcf (k_skip_seq (k_seq (k_seq ?_)))
        refine rv (D.int IntKind.i64 l[i]) ?_
        refine rv (D.bool (l[i] == (0 : Int))) ?_
        refine rv (D.bool (l[i] == (0 : Int))) ?_
        refine rkn 46 (l[i] == (0 : Int)) true (decide_eq_true (by assumption)) ?_
        refine rno (rno (rno ?_))
        refine rv (D.bool true) ?_
        refine k_done (k_skip_seq (kct (k_exit_seq (k_exit_hit rfl (k_skip_seq ?_)))))
        refine rv (D.int IntKind.i64 (↑i : Int)) ?_
        refine rve (D.int IntKind.i64 (IntKind.wrap IntKind.i64 ((↑i : Int) + (1 : Int)))) (.int IntKind.i64 ((i + 1 : Nat) : Int)) (congrArg (D.int IntKind.i64) (show IntKind.wrap IntKind.i64 ((↑i : Int) + (1 : Int)) = ((i + 1 : Nat) : Int) from wrap_eq (by omega) (by omega) (by omega))) ?_
        refine ra0 (D.int IntKind.i64 (↑(i + (1 : Nat)) : Int)) ?_
        refine k_done (k_skip_back ?_)
        exact ⟨i + 1, ⟨hlt, hlt30⟩, by omega, by rw [hC, hA]; kernel_rfl, by rw [hS]⟩
      · have hbig : l[i].natAbs > n := hbad.resolve_left hz
        by_cases hneg : l[i] < 0
        · refine k_seq (k_seq ?_)
          refine rv (D.int IntKind.i64 (↑i : Int)) ?_
          refine rv (D.sl (i8s l) none) ?_
          refine rve (D.int IntKind.i64 (↑(List.length (i8s l)) : Int)) (.int IntKind.i64 ((↑(List.length l) : Int))) (by simp only [ints, eInt, rows, eInts, bools, eBool, trips, eTrip, i8s, List.length_map]) ?_
          refine rv (D.bool (decide ((↑i : Int) < (↑(List.length l) : Int)))) ?_
          refine rv (D.bool (decide ((↑i : Int) < (↑(List.length l) : Int)))) ?_
          refine rkn 28 (decide ((↑i : Int) < (↑(List.length l) : Int))) true (decide_eq_true (by omega)) ?_
          refine rv (D.int IntKind.i64 (↑i : Int)) ?_
          refine rv (D.bool (decide ((↑i : Int) < (30 : Int)))) ?_
          refine rv (D.bool (decide ((↑i : Int) < (30 : Int)))) ?_
          refine k_done (k_skip_seq ?_)
          refine rkn 31 (decide ((↑i : Int) < (30 : Int))) true (decide_eq_true (by omega)) ?_
          refine kct (k_skip_seq (k_seq (k_block (k_seq ?_))))
          refine rv (D.sl (i8s l) none) ?_
          refine rv (D.int IntKind.i64 (↑i : Int)) ?_
          refine runs_index (l) (fun n => [D.int IntKind.i8 n]) (o := none) (kd := IntKind.i64) (i) (by kernel_rfl) (by kernel_rfl) (by kernel_rfl) (by assumption) (by kernel_rfl) ?_
          refine rv (D.int IntKind.i8 l[i]) ?_
          refine rve (D.int IntKind.i64 (IntKind.wrap IntKind.i64 l[i])) (.int IntKind.i64 (l[i])) (congrArg (D.int IntKind.i64) (show IntKind.wrap IntKind.i64 l[i] = (l[i]) from wrap_eq (by omega) (by omega) (by omega))) ?_
          refine ra0 (D.int IntKind.i64 l[i]) ?_
          refine k_done (k_skip_seq (k_seq ?_))
          refine rv (D.int IntKind.i64 l[i]) ?_
          refine ra0 (D.int IntKind.i64 l[i]) ?_
          refine k_done (k_skip_seq (k_seq (k_seq ?_)))
          refine rv (D.int IntKind.i64 l[i]) ?_
          refine rv (D.bool (decide (l[i] < (0 : Int)))) ?_
          refine k_done (k_skip_seq ?_)
          refine rkn 41 (decide (l[i] < (0 : Int))) true (decide_eq_true (by assumption)) ?_
          refine kct ?_
          refine rv (D.int IntKind.i64 l[i]) ?_
          refine rve (D.int IntKind.i64 (IntKind.wrap IntKind.i64 ((0 : Int) - l[i]))) (.int IntKind.i64 ((0 : Int) - l[i])) (congrArg (D.int IntKind.i64) (show IntKind.wrap IntKind.i64 ((0 : Int) - l[i]) = ((0 : Int) - l[i]) from wrap_eq (by omega) (by omega) (by omega))) ?_
          refine ra0 (D.int IntKind.i64 ((0 : Int) - l[i])) ?_
          refine k_done (k_skip_seq (k_seq (k_seq ?_)))
          refine rv (D.int IntKind.i64 l[i]) ?_
          refine rv (D.bool (l[i] == (0 : Int))) ?_
          refine rv (D.bool (l[i] == (0 : Int))) ?_
          refine rkn 46 (l[i] == (0 : Int)) false (decide_eq_false (by assumption)) ?_
          refine rv (D.int IntKind.i64 ((0 : Int) - l[i])) ?_
          refine rv (D.int IntKind.i64 (IntKind.wrap IntKind.i64 (Int.tmod vars (12 : Int)))) ?_
          refine rv (D.bool (decide ((0 : Int) - l[i] > IntKind.wrap IntKind.i64 (Int.tmod vars (12 : Int))))) ?_
          refine rv (D.bool (decide ((0 : Int) - l[i] > IntKind.wrap IntKind.i64 (Int.tmod vars (12 : Int))))) ?_
          refine k_done (k_skip_seq ?_)
          refine rkn 50 (decide ((0 : Int) - l[i] > IntKind.wrap IntKind.i64 (Int.tmod vars (12 : Int)))) true (decide_eq_true (by omega)) ?_
          refine kct (k_exit_seq (k_exit_hit rfl (k_skip_seq ?_)))
          refine rv (D.int IntKind.i64 (↑i : Int)) ?_
          refine rve (D.int IntKind.i64 (IntKind.wrap IntKind.i64 ((↑i : Int) + (1 : Int)))) (.int IntKind.i64 ((i + 1 : Nat) : Int)) (congrArg (D.int IntKind.i64) (show IntKind.wrap IntKind.i64 ((↑i : Int) + (1 : Int)) = ((i + 1 : Nat) : Int) from wrap_eq (by omega) (by omega) (by omega))) ?_
          refine ra0 (D.int IntKind.i64 (↑(i + (1 : Nat)) : Int)) ?_
          refine k_done (k_skip_back ?_)
          exact ⟨i + 1, ⟨hlt, hlt30⟩, by omega, by rw [hC, hA]; kernel_rfl, by rw [hS]⟩
        · refine k_seq (k_seq ?_)
          refine rv (D.int IntKind.i64 (↑i : Int)) ?_
          refine rv (D.sl (i8s l) none) ?_
          refine rve (D.int IntKind.i64 (↑(List.length (i8s l)) : Int)) (.int IntKind.i64 ((↑(List.length l) : Int))) (by simp only [ints, eInt, rows, eInts, bools, eBool, trips, eTrip, i8s, List.length_map]) ?_
          refine rv (D.bool (decide ((↑i : Int) < (↑(List.length l) : Int)))) ?_
          refine rv (D.bool (decide ((↑i : Int) < (↑(List.length l) : Int)))) ?_
          refine rkn 28 (decide ((↑i : Int) < (↑(List.length l) : Int))) true (decide_eq_true (by omega)) ?_
          refine rv (D.int IntKind.i64 (↑i : Int)) ?_
          refine rv (D.bool (decide ((↑i : Int) < (30 : Int)))) ?_
          refine rv (D.bool (decide ((↑i : Int) < (30 : Int)))) ?_
          refine k_done (k_skip_seq ?_)
          refine rkn 31 (decide ((↑i : Int) < (30 : Int))) true (decide_eq_true (by omega)) ?_
          refine kct (k_skip_seq (k_seq (k_block (k_seq ?_))))
          refine rv (D.sl (i8s l) none) ?_
          refine rv (D.int IntKind.i64 (↑i : Int)) ?_
          refine runs_index (l) (fun n => [D.int IntKind.i8 n]) (o := none) (kd := IntKind.i64) (i) (by kernel_rfl) (by kernel_rfl) (by kernel_rfl) (by assumption) (by kernel_rfl) ?_
          refine rv (D.int IntKind.i8 l[i]) ?_
          refine rve (D.int IntKind.i64 (IntKind.wrap IntKind.i64 l[i])) (.int IntKind.i64 (l[i])) (congrArg (D.int IntKind.i64) (show IntKind.wrap IntKind.i64 l[i] = (l[i]) from wrap_eq (by omega) (by omega) (by omega))) ?_
          refine ra0 (D.int IntKind.i64 l[i]) ?_
          refine k_done (k_skip_seq (k_seq ?_))
          refine rv (D.int IntKind.i64 l[i]) ?_
          refine ra0 (D.int IntKind.i64 l[i]) ?_
          refine k_done (k_skip_seq (k_seq (k_seq ?_)))
          refine rv (D.int IntKind.i64 l[i]) ?_
          refine rv (D.bool (decide (l[i] < (0 : Int)))) ?_
          refine k_done (k_skip_seq ?_)
          refine rkn 41 (decide (l[i] < (0 : Int))) false (decide_eq_false (by assumption)) ?_
          refine kcf (k_skip_seq (k_seq (k_seq ?_)))
          refine rv (D.int IntKind.i64 l[i]) ?_
          refine rv (D.bool (l[i] == (0 : Int))) ?_
          refine rv (D.bool (l[i] == (0 : Int))) ?_
          refine rkn 46 (l[i] == (0 : Int)) false (decide_eq_false (by assumption)) ?_
          refine rv (D.int IntKind.i64 l[i]) ?_
          refine rv (D.int IntKind.i64 (IntKind.wrap IntKind.i64 (Int.tmod vars (12 : Int)))) ?_
          refine rv (D.bool (decide (l[i] > IntKind.wrap IntKind.i64 (Int.tmod vars (12 : Int))))) ?_
          refine rv (D.bool (decide (l[i] > IntKind.wrap IntKind.i64 (Int.tmod vars (12 : Int))))) ?_
          refine k_done (k_skip_seq ?_)
          refine rkn 50 (decide (l[i] > IntKind.wrap IntKind.i64 (Int.tmod vars (12 : Int)))) true (decide_eq_true (by omega)) ?_
          refine kct (k_exit_seq (k_exit_hit rfl (k_skip_seq ?_)))
          refine rv (D.int IntKind.i64 (↑i : Int)) ?_
          refine rve (D.int IntKind.i64 (IntKind.wrap IntKind.i64 ((↑i : Int) + (1 : Int)))) (.int IntKind.i64 ((i + 1 : Nat) : Int)) (congrArg (D.int IntKind.i64) (show IntKind.wrap IntKind.i64 ((↑i : Int) + (1 : Int)) = ((i + 1 : Nat) : Int) from wrap_eq (by omega) (by omega) (by omega))) ?_
          refine ra0 (D.int IntKind.i64 (↑(i + (1 : Nat)) : Int)) ?_
          refine k_done (k_skip_back ?_)
          exact ⟨i + 1, ⟨hlt, hlt30⟩, by omega, by rw [hC, hA]; kernel_rfl, by rw [hS]⟩
    · rw [if_neg hbad] at hC hA hS
      have h0 : l[i] ≠ 0 := fun q => hbad (.inl q)
      have hle : l[i].natAbs ≤ n := by
        have : ¬ l[i].natAbs > n := fun q => hbad (.inr q)
        omega
      have hok : okL s.length l[i] := ⟨h0, by omega⟩
      by_cases hneg : l[i] < 0
      · have hat : (ils s)[(0 : Nat) + Int.toNat (0 - l[i]) * (1 : Nat)]? = some (D.int .i64 (s.getD l[i].natAbs 0)) := at_neg hok hneg
        by_cases hz : s.getD l[i].natAbs 0 = 0
        · have hp : uPut s l[i] = s.set l[i].natAbs l[i] := if_pos hz
          by_cases hag : ag = true
          · subst hag
            refine k_seq (k_seq ?_)
            refine rv (D.int IntKind.i64 (↑i : Int)) ?_
            refine rv (D.sl (i8s l) none) ?_
            refine rve (D.int IntKind.i64 (↑(List.length (i8s l)) : Int)) (.int IntKind.i64 ((↑(List.length l) : Int))) (by simp only [ints, eInt, rows, eInts, bools, eBool, trips, eTrip, i8s, List.length_map]) ?_
            refine rv (D.bool (decide ((↑i : Int) < (↑(List.length l) : Int)))) ?_
            refine rv (D.bool (decide ((↑i : Int) < (↑(List.length l) : Int)))) ?_
            refine rkn 28 (decide ((↑i : Int) < (↑(List.length l) : Int))) true (decide_eq_true (by omega)) ?_
            refine rv (D.int IntKind.i64 (↑i : Int)) ?_
            refine rv (D.bool (decide ((↑i : Int) < (30 : Int)))) ?_
            refine rv (D.bool (decide ((↑i : Int) < (30 : Int)))) ?_
            refine k_done (k_skip_seq ?_)
            refine rkn 31 (decide ((↑i : Int) < (30 : Int))) true (decide_eq_true (by omega)) ?_
            refine kct (k_skip_seq (k_seq (k_block (k_seq ?_))))
            refine rv (D.sl (i8s l) none) ?_
            refine rv (D.int IntKind.i64 (↑i : Int)) ?_
            refine runs_index (l) (fun n => [D.int IntKind.i8 n]) (o := none) (kd := IntKind.i64) (i) (by kernel_rfl) (by kernel_rfl) (by kernel_rfl) (by assumption) (by kernel_rfl) ?_
            refine rv (D.int IntKind.i8 l[i]) ?_
            refine rve (D.int IntKind.i64 (IntKind.wrap IntKind.i64 l[i])) (.int IntKind.i64 (l[i])) (congrArg (D.int IntKind.i64) (show IntKind.wrap IntKind.i64 l[i] = (l[i]) from wrap_eq (by omega) (by omega) (by omega))) ?_
            refine ra0 (D.int IntKind.i64 l[i]) ?_
            refine k_done (k_skip_seq (k_seq ?_))
            refine rv (D.int IntKind.i64 l[i]) ?_
            refine ra0 (D.int IntKind.i64 l[i]) ?_
            refine k_done (k_skip_seq (k_seq (k_seq ?_)))
            refine rv (D.int IntKind.i64 l[i]) ?_
            refine rv (D.bool (decide (l[i] < (0 : Int)))) ?_
            refine k_done (k_skip_seq ?_)
            refine rkn 41 (decide (l[i] < (0 : Int))) true (decide_eq_true (by assumption)) ?_
            refine kct ?_
            refine rv (D.int IntKind.i64 l[i]) ?_
            refine rve (D.int IntKind.i64 (IntKind.wrap IntKind.i64 ((0 : Int) - l[i]))) (.int IntKind.i64 ((0 : Int) - l[i])) (congrArg (D.int IntKind.i64) (show IntKind.wrap IntKind.i64 ((0 : Int) - l[i]) = ((0 : Int) - l[i]) from wrap_eq (by omega) (by omega) (by omega))) ?_
            refine ra0 (D.int IntKind.i64 ((0 : Int) - l[i])) ?_
            refine k_done (k_skip_seq (k_seq (k_seq ?_)))
            refine rv (D.int IntKind.i64 l[i]) ?_
            refine rv (D.bool (l[i] == (0 : Int))) ?_
            refine rv (D.bool (l[i] == (0 : Int))) ?_
            refine rkn 46 (l[i] == (0 : Int)) false (decide_eq_false (by assumption)) ?_
            refine rv (D.int IntKind.i64 ((0 : Int) - l[i])) ?_
            refine rv (D.int IntKind.i64 (IntKind.wrap IntKind.i64 (Int.tmod vars (12 : Int)))) ?_
            refine rv (D.bool (decide ((0 : Int) - l[i] > IntKind.wrap IntKind.i64 (Int.tmod vars (12 : Int))))) ?_
            refine rv (D.bool (decide ((0 : Int) - l[i] > IntKind.wrap IntKind.i64 (Int.tmod vars (12 : Int))))) ?_
            refine k_done (k_skip_seq ?_)
            refine rkn 50 (decide ((0 : Int) - l[i] > IntKind.wrap IntKind.i64 (Int.tmod vars (12 : Int)))) false (decide_eq_false (by omega)) ?_
            refine kcf (k_skip_seq (k_seq ?_))
            refine runs_steal (D.sl (rows c) (some (34 : Nat))) (by kernel_rfl) (by kernel_rfl) ?_
            refine rv (D.int IntKind.i64 l[i]) ?_
            refine rv (D.sl [[D.int IntKind.i64 l[i]]] (some (3 : Nat))) ?_
            refine rv (D.sl [[D.sl [[D.int IntKind.i64 l[i]]] none]] (some (34 : Nat))) ?_
            refine runs_append (rows c) ([[D.sl [[D.int IntKind.i64 l[i]]] none]]) (rows (c ++ [[l[i]]])) (by kernel_rfl) (by kernel_rfl) (by kernel_rfl) (by kernel_rfl) (by simp [ints, eInt, rows, eInts, bools, eBool, trips, eTrip, i8s, room]; omega) (by simp [ints, eInt, rows, eInts, bools, eBool, trips, eTrip, i8s]) ?_
            refine runs_assign (D.sl (rows (c ++ [[l[i]]])) (some (34 : Nat))) (by kernel_rfl) (by kernel_rfl) ?_
            refine k_done (k_skip_seq (k_seq ?_))
            refine rv (D.bool true) ?_
            refine rv (D.bool true) ?_
            refine rno (rno (rno (rno (rno (rno (rno ?_))))))
            refine rv (D.bool true) ?_
            refine ra0 (D.bool true) ?_
            refine k_done (k_skip_seq (k_seq ?_))
            refine rv (D.msl (0 : Nat) (0 : Nat) (13 : Nat) (1 : Nat)) ?_
            refine rv (D.int IntKind.i64 ((0 : Int) - l[i])) ?_
            refine runs_indexMI (kd := IntKind.i64) ((0 : Nat)) ((0 : Nat)) ((13 : Nat)) ((0 : Int) - l[i]) (by kernel_rfl) (by kernel_rfl) (by kernel_rfl) (by omega) (by omega) ?_
            refine runs_loadP ((0 : Nat)) ((0 : Nat) + Int.toNat ((0 : Int) - l[i]) * (1 : Nat)) (ils s) _ (by kernel_rfl) (by kernel_rfl) (by kernel_rfl) (by assumption) ?_
            refine rv (D.bool (List.getD s (Int.natAbs l[i]) (0 : Int) == (0 : Int))) ?_
            refine k_done (k_skip_seq ?_)
            refine rkn 70 (List.getD s (Int.natAbs l[i]) (0 : Int) == (0 : Int)) true (decide_eq_true (by assumption)) ?_
            refine kct ?_
            refine rv (D.msl (0 : Nat) (0 : Nat) (13 : Nat) (1 : Nat)) ?_
            refine rv (D.int IntKind.i64 ((0 : Int) - l[i])) ?_
            refine rv (D.int IntKind.i64 l[i]) ?_
            refine runs_indexMI (kd := IntKind.i64) ((0 : Nat)) ((0 : Nat)) ((13 : Nat)) ((0 : Int) - l[i]) (by kernel_rfl) (by kernel_rfl) (by kernel_rfl) (by omega) (by omega) ?_
            refine runs_storeP ((0 : Nat)) ((0 : Nat) + Int.toNat ((0 : Int) - l[i]) * (1 : Nat)) (ils s) (ils (List.set (s) ((0 : Nat) + Int.toNat ((0 : Int) - l[i]) * (1 : Nat)) (l[i]))) (D.int IntKind.i64 l[i]) ([.cells (ils (List.set (s) ((0 : Nat) + Int.toNat ((0 : Int) - l[i]) * (1 : Nat)) (l[i])))]) (by kernel_rfl) (by kernel_rfl) (by kernel_rfl) (by kernel_rfl) (by kernel_rfl) (by kernel_rfl) (by kernel_rfl) (by rw [ils_len]; first | assumption | omega | (simp; omega)) (ils_set _ _ _) (by kernel_rfl) ?_
            refine k_done (k_skip_block (k_skip_seq ?_))
            refine rv (D.int IntKind.i64 (↑i : Int)) ?_
            refine rve (D.int IntKind.i64 (IntKind.wrap IntKind.i64 ((↑i : Int) + (1 : Int)))) (.int IntKind.i64 ((i + 1 : Nat) : Int)) (congrArg (D.int IntKind.i64) (show IntKind.wrap IntKind.i64 ((↑i : Int) + (1 : Int)) = ((i + 1 : Nat) : Int) from wrap_eq (by omega) (by omega) (by omega))) ?_
            refine ra0 (D.int IntKind.i64 (↑(i + (1 : Nat)) : Int)) ?_
            refine k_done (k_skip_back ?_)
            refine ⟨i + 1, ⟨hlt, hlt30⟩, by omega, by rw [hC, hA]; kernel_rfl, ?_⟩
            have hix : (0 : Nat) + Int.toNat (0 - l[i]) * (1 : Nat) = l[i].natAbs := by omega
            rw [hS, hp, ← hix]
          · have hag' : ag = false := by simpa using hag
            subst hag'
            refine k_seq (k_seq ?_)
            refine rv (D.int IntKind.i64 (↑i : Int)) ?_
            refine rv (D.sl (i8s l) none) ?_
            refine rve (D.int IntKind.i64 (↑(List.length (i8s l)) : Int)) (.int IntKind.i64 ((↑(List.length l) : Int))) (by simp only [ints, eInt, rows, eInts, bools, eBool, trips, eTrip, i8s, List.length_map]) ?_
            refine rv (D.bool (decide ((↑i : Int) < (↑(List.length l) : Int)))) ?_
            refine rv (D.bool (decide ((↑i : Int) < (↑(List.length l) : Int)))) ?_
            refine rkn 28 (decide ((↑i : Int) < (↑(List.length l) : Int))) true (decide_eq_true (by omega)) ?_
            refine rv (D.int IntKind.i64 (↑i : Int)) ?_
            refine rv (D.bool (decide ((↑i : Int) < (30 : Int)))) ?_
            refine rv (D.bool (decide ((↑i : Int) < (30 : Int)))) ?_
            refine k_done (k_skip_seq ?_)
            refine rkn 31 (decide ((↑i : Int) < (30 : Int))) true (decide_eq_true (by omega)) ?_
            refine kct (k_skip_seq (k_seq (k_block (k_seq ?_))))
            refine rv (D.sl (i8s l) none) ?_
            refine rv (D.int IntKind.i64 (↑i : Int)) ?_
            refine runs_index (l) (fun n => [D.int IntKind.i8 n]) (o := none) (kd := IntKind.i64) (i) (by kernel_rfl) (by kernel_rfl) (by kernel_rfl) (by assumption) (by kernel_rfl) ?_
            refine rv (D.int IntKind.i8 l[i]) ?_
            refine rve (D.int IntKind.i64 (IntKind.wrap IntKind.i64 l[i])) (.int IntKind.i64 (l[i])) (congrArg (D.int IntKind.i64) (show IntKind.wrap IntKind.i64 l[i] = (l[i]) from wrap_eq (by omega) (by omega) (by omega))) ?_
            refine ra0 (D.int IntKind.i64 l[i]) ?_
            refine k_done (k_skip_seq (k_seq ?_))
            refine rv (D.int IntKind.i64 l[i]) ?_
            refine ra0 (D.int IntKind.i64 l[i]) ?_
            refine k_done (k_skip_seq (k_seq (k_seq ?_)))
            refine rv (D.int IntKind.i64 l[i]) ?_
            refine rv (D.bool (decide (l[i] < (0 : Int)))) ?_
            refine k_done (k_skip_seq ?_)
            refine rkn 41 (decide (l[i] < (0 : Int))) true (decide_eq_true (by assumption)) ?_
            refine kct ?_
            refine rv (D.int IntKind.i64 l[i]) ?_
            refine rve (D.int IntKind.i64 (IntKind.wrap IntKind.i64 ((0 : Int) - l[i]))) (.int IntKind.i64 ((0 : Int) - l[i])) (congrArg (D.int IntKind.i64) (show IntKind.wrap IntKind.i64 ((0 : Int) - l[i]) = ((0 : Int) - l[i]) from wrap_eq (by omega) (by omega) (by omega))) ?_
            refine ra0 (D.int IntKind.i64 ((0 : Int) - l[i])) ?_
            refine k_done (k_skip_seq (k_seq (k_seq ?_)))
            refine rv (D.int IntKind.i64 l[i]) ?_
            refine rv (D.bool (l[i] == (0 : Int))) ?_
            refine rv (D.bool (l[i] == (0 : Int))) ?_
            refine rkn 46 (l[i] == (0 : Int)) false (decide_eq_false (by assumption)) ?_
            refine rv (D.int IntKind.i64 ((0 : Int) - l[i])) ?_
            refine rv (D.int IntKind.i64 (IntKind.wrap IntKind.i64 (Int.tmod vars (12 : Int)))) ?_
            refine rv (D.bool (decide ((0 : Int) - l[i] > IntKind.wrap IntKind.i64 (Int.tmod vars (12 : Int))))) ?_
            refine rv (D.bool (decide ((0 : Int) - l[i] > IntKind.wrap IntKind.i64 (Int.tmod vars (12 : Int))))) ?_
            refine k_done (k_skip_seq ?_)
            refine rkn 50 (decide ((0 : Int) - l[i] > IntKind.wrap IntKind.i64 (Int.tmod vars (12 : Int)))) false (decide_eq_false (by omega)) ?_
            refine kcf (k_skip_seq (k_seq ?_))
            refine runs_steal (D.sl (rows c) (some (34 : Nat))) (by kernel_rfl) (by kernel_rfl) ?_
            refine rv (D.int IntKind.i64 l[i]) ?_
            refine rv (D.sl [[D.int IntKind.i64 l[i]]] (some (3 : Nat))) ?_
            refine rv (D.sl [[D.sl [[D.int IntKind.i64 l[i]]] none]] (some (34 : Nat))) ?_
            refine runs_append (rows c) ([[D.sl [[D.int IntKind.i64 l[i]]] none]]) (rows (c ++ [[l[i]]])) (by kernel_rfl) (by kernel_rfl) (by kernel_rfl) (by kernel_rfl) (by simp [ints, eInt, rows, eInts, bools, eBool, trips, eTrip, i8s, room]; omega) (by simp [ints, eInt, rows, eInts, bools, eBool, trips, eTrip, i8s]) ?_
            refine runs_assign (D.sl (rows (c ++ [[l[i]]])) (some (34 : Nat))) (by kernel_rfl) (by kernel_rfl) ?_
            refine k_done (k_skip_seq (k_seq ?_))
            refine rv (D.bool false) ?_
            refine rv (D.bool false) ?_
            refine rv (D.msl (0 : Nat) (0 : Nat) (13 : Nat) (1 : Nat)) ?_
            refine rv (D.int IntKind.i64 ((0 : Int) - l[i])) ?_
            refine runs_indexMI (kd := IntKind.i64) ((0 : Nat)) ((0 : Nat)) ((13 : Nat)) ((0 : Int) - l[i]) (by kernel_rfl) (by kernel_rfl) (by kernel_rfl) (by omega) (by omega) ?_
            refine runs_loadP ((0 : Nat)) ((0 : Nat) + Int.toNat ((0 : Int) - l[i]) * (1 : Nat)) (ils s) _ (by kernel_rfl) (by kernel_rfl) (by kernel_rfl) (by assumption) ?_
            refine rv (D.int IntKind.i64 l[i]) ?_
            refine rve (D.int IntKind.i64 (IntKind.wrap IntKind.i64 ((0 : Int) - l[i]))) (.int IntKind.i64 ((0 : Int) - l[i])) (congrArg (D.int IntKind.i64) (show IntKind.wrap IntKind.i64 ((0 : Int) - l[i]) = ((0 : Int) - l[i]) from wrap_eq (by omega) (by omega) (by omega))) ?_
            refine rv (D.bool (List.getD s (Int.natAbs l[i]) (0 : Int) == (0 : Int) - l[i])) ?_
            refine rv (D.bool (List.getD s (Int.natAbs l[i]) (0 : Int) == (0 : Int) - l[i])) ?_
            refine ra0 (D.bool (List.getD s (Int.natAbs l[i]) (0 : Int) == (0 : Int) - l[i])) ?_
            refine k_done (k_skip_seq (k_seq ?_))
            refine rv (D.msl (0 : Nat) (0 : Nat) (13 : Nat) (1 : Nat)) ?_
            refine rv (D.int IntKind.i64 ((0 : Int) - l[i])) ?_
            refine runs_indexMI (kd := IntKind.i64) ((0 : Nat)) ((0 : Nat)) ((13 : Nat)) ((0 : Int) - l[i]) (by kernel_rfl) (by kernel_rfl) (by kernel_rfl) (by omega) (by omega) ?_
            refine runs_loadP ((0 : Nat)) ((0 : Nat) + Int.toNat ((0 : Int) - l[i]) * (1 : Nat)) (ils s) _ (by kernel_rfl) (by kernel_rfl) (by kernel_rfl) (by assumption) ?_
            refine rv (D.bool (List.getD s (Int.natAbs l[i]) (0 : Int) == (0 : Int))) ?_
            refine k_done (k_skip_seq ?_)
            refine rkn 70 (List.getD s (Int.natAbs l[i]) (0 : Int) == (0 : Int)) true (decide_eq_true (by assumption)) ?_
            refine kct ?_
            refine rv (D.msl (0 : Nat) (0 : Nat) (13 : Nat) (1 : Nat)) ?_
            refine rv (D.int IntKind.i64 ((0 : Int) - l[i])) ?_
            refine rv (D.int IntKind.i64 l[i]) ?_
            refine runs_indexMI (kd := IntKind.i64) ((0 : Nat)) ((0 : Nat)) ((13 : Nat)) ((0 : Int) - l[i]) (by kernel_rfl) (by kernel_rfl) (by kernel_rfl) (by omega) (by omega) ?_
            refine runs_storeP ((0 : Nat)) ((0 : Nat) + Int.toNat ((0 : Int) - l[i]) * (1 : Nat)) (ils s) (ils (List.set (s) ((0 : Nat) + Int.toNat ((0 : Int) - l[i]) * (1 : Nat)) (l[i]))) (D.int IntKind.i64 l[i]) ([.cells (ils (List.set (s) ((0 : Nat) + Int.toNat ((0 : Int) - l[i]) * (1 : Nat)) (l[i])))]) (by kernel_rfl) (by kernel_rfl) (by kernel_rfl) (by kernel_rfl) (by kernel_rfl) (by kernel_rfl) (by kernel_rfl) (by rw [ils_len]; first | assumption | omega | (simp; omega)) (ils_set _ _ _) (by kernel_rfl) ?_
            refine k_done (k_skip_block (k_skip_seq ?_))
            refine rv (D.int IntKind.i64 (↑i : Int)) ?_
            refine rve (D.int IntKind.i64 (IntKind.wrap IntKind.i64 ((↑i : Int) + (1 : Int)))) (.int IntKind.i64 ((i + 1 : Nat) : Int)) (congrArg (D.int IntKind.i64) (show IntKind.wrap IntKind.i64 ((↑i : Int) + (1 : Int)) = ((i + 1 : Nat) : Int) from wrap_eq (by omega) (by omega) (by omega))) ?_
            refine ra0 (D.int IntKind.i64 (↑(i + (1 : Nat)) : Int)) ?_
            refine k_done (k_skip_back ?_)
            refine ⟨i + 1, ⟨hlt, hlt30⟩, by omega, by rw [hC, hA]; kernel_rfl, ?_⟩
            have hix : (0 : Nat) + Int.toNat (0 - l[i]) * (1 : Nat) = l[i].natAbs := by omega
            rw [hS, hp, ← hix]
        · have hp : uPut s l[i] = s := if_neg hz
          rw [hp] at hS
          by_cases hag : ag = true
          · subst hag
            refine k_seq (k_seq ?_)
            refine rv (D.int IntKind.i64 (↑i : Int)) ?_
            refine rv (D.sl (i8s l) none) ?_
            refine rve (D.int IntKind.i64 (↑(List.length (i8s l)) : Int)) (.int IntKind.i64 ((↑(List.length l) : Int))) (by simp only [ints, eInt, rows, eInts, bools, eBool, trips, eTrip, i8s, List.length_map]) ?_
            refine rv (D.bool (decide ((↑i : Int) < (↑(List.length l) : Int)))) ?_
            refine rv (D.bool (decide ((↑i : Int) < (↑(List.length l) : Int)))) ?_
            refine rkn 28 (decide ((↑i : Int) < (↑(List.length l) : Int))) true (decide_eq_true (by omega)) ?_
            refine rv (D.int IntKind.i64 (↑i : Int)) ?_
            refine rv (D.bool (decide ((↑i : Int) < (30 : Int)))) ?_
            refine rv (D.bool (decide ((↑i : Int) < (30 : Int)))) ?_
            refine k_done (k_skip_seq ?_)
            refine rkn 31 (decide ((↑i : Int) < (30 : Int))) true (decide_eq_true (by omega)) ?_
            refine kct (k_skip_seq (k_seq (k_block (k_seq ?_))))
            refine rv (D.sl (i8s l) none) ?_
            refine rv (D.int IntKind.i64 (↑i : Int)) ?_
            refine runs_index (l) (fun n => [D.int IntKind.i8 n]) (o := none) (kd := IntKind.i64) (i) (by kernel_rfl) (by kernel_rfl) (by kernel_rfl) (by assumption) (by kernel_rfl) ?_
            refine rv (D.int IntKind.i8 l[i]) ?_
            refine rve (D.int IntKind.i64 (IntKind.wrap IntKind.i64 l[i])) (.int IntKind.i64 (l[i])) (congrArg (D.int IntKind.i64) (show IntKind.wrap IntKind.i64 l[i] = (l[i]) from wrap_eq (by omega) (by omega) (by omega))) ?_
            refine ra0 (D.int IntKind.i64 l[i]) ?_
            refine k_done (k_skip_seq (k_seq ?_))
            refine rv (D.int IntKind.i64 l[i]) ?_
            refine ra0 (D.int IntKind.i64 l[i]) ?_
            refine k_done (k_skip_seq (k_seq (k_seq ?_)))
            refine rv (D.int IntKind.i64 l[i]) ?_
            refine rv (D.bool (decide (l[i] < (0 : Int)))) ?_
            refine k_done (k_skip_seq ?_)
            refine rkn 41 (decide (l[i] < (0 : Int))) true (decide_eq_true (by assumption)) ?_
            refine kct ?_
            refine rv (D.int IntKind.i64 l[i]) ?_
            refine rve (D.int IntKind.i64 (IntKind.wrap IntKind.i64 ((0 : Int) - l[i]))) (.int IntKind.i64 ((0 : Int) - l[i])) (congrArg (D.int IntKind.i64) (show IntKind.wrap IntKind.i64 ((0 : Int) - l[i]) = ((0 : Int) - l[i]) from wrap_eq (by omega) (by omega) (by omega))) ?_
            refine ra0 (D.int IntKind.i64 ((0 : Int) - l[i])) ?_
            refine k_done (k_skip_seq (k_seq (k_seq ?_)))
            refine rv (D.int IntKind.i64 l[i]) ?_
            refine rv (D.bool (l[i] == (0 : Int))) ?_
            refine rv (D.bool (l[i] == (0 : Int))) ?_
            refine rkn 46 (l[i] == (0 : Int)) false (decide_eq_false (by assumption)) ?_
            refine rv (D.int IntKind.i64 ((0 : Int) - l[i])) ?_
            refine rv (D.int IntKind.i64 (IntKind.wrap IntKind.i64 (Int.tmod vars (12 : Int)))) ?_
            refine rv (D.bool (decide ((0 : Int) - l[i] > IntKind.wrap IntKind.i64 (Int.tmod vars (12 : Int))))) ?_
            refine rv (D.bool (decide ((0 : Int) - l[i] > IntKind.wrap IntKind.i64 (Int.tmod vars (12 : Int))))) ?_
            refine k_done (k_skip_seq ?_)
            refine rkn 50 (decide ((0 : Int) - l[i] > IntKind.wrap IntKind.i64 (Int.tmod vars (12 : Int)))) false (decide_eq_false (by omega)) ?_
            refine kcf (k_skip_seq (k_seq ?_))
            refine runs_steal (D.sl (rows c) (some (34 : Nat))) (by kernel_rfl) (by kernel_rfl) ?_
            refine rv (D.int IntKind.i64 l[i]) ?_
            refine rv (D.sl [[D.int IntKind.i64 l[i]]] (some (3 : Nat))) ?_
            refine rv (D.sl [[D.sl [[D.int IntKind.i64 l[i]]] none]] (some (34 : Nat))) ?_
            refine runs_append (rows c) ([[D.sl [[D.int IntKind.i64 l[i]]] none]]) (rows (c ++ [[l[i]]])) (by kernel_rfl) (by kernel_rfl) (by kernel_rfl) (by kernel_rfl) (by simp [ints, eInt, rows, eInts, bools, eBool, trips, eTrip, i8s, room]; omega) (by simp [ints, eInt, rows, eInts, bools, eBool, trips, eTrip, i8s]) ?_
            refine runs_assign (D.sl (rows (c ++ [[l[i]]])) (some (34 : Nat))) (by kernel_rfl) (by kernel_rfl) ?_
            refine k_done (k_skip_seq (k_seq ?_))
            refine rv (D.bool true) ?_
            refine rv (D.bool true) ?_
            refine rno (rno (rno (rno (rno (rno (rno ?_))))))
            refine rv (D.bool true) ?_
            refine ra0 (D.bool true) ?_
            refine k_done (k_skip_seq (k_seq ?_))
            refine rv (D.msl (0 : Nat) (0 : Nat) (13 : Nat) (1 : Nat)) ?_
            refine rv (D.int IntKind.i64 ((0 : Int) - l[i])) ?_
            refine runs_indexMI (kd := IntKind.i64) ((0 : Nat)) ((0 : Nat)) ((13 : Nat)) ((0 : Int) - l[i]) (by kernel_rfl) (by kernel_rfl) (by kernel_rfl) (by omega) (by omega) ?_
            refine runs_loadP ((0 : Nat)) ((0 : Nat) + Int.toNat ((0 : Int) - l[i]) * (1 : Nat)) (ils s) _ (by kernel_rfl) (by kernel_rfl) (by kernel_rfl) (by assumption) ?_
            refine rv (D.bool (List.getD s (Int.natAbs l[i]) (0 : Int) == (0 : Int))) ?_
            refine k_done (k_skip_seq ?_)
            refine rkn 70 (List.getD s (Int.natAbs l[i]) (0 : Int) == (0 : Int)) false (decide_eq_false (by assumption)) ?_
            refine kcf (k_skip_block (k_skip_seq ?_))
            refine rv (D.int IntKind.i64 (↑i : Int)) ?_
            refine rve (D.int IntKind.i64 (IntKind.wrap IntKind.i64 ((↑i : Int) + (1 : Int)))) (.int IntKind.i64 ((i + 1 : Nat) : Int)) (congrArg (D.int IntKind.i64) (show IntKind.wrap IntKind.i64 ((↑i : Int) + (1 : Int)) = ((i + 1 : Nat) : Int) from wrap_eq (by omega) (by omega) (by omega))) ?_
            refine ra0 (D.int IntKind.i64 (↑(i + (1 : Nat)) : Int)) ?_
            refine k_done (k_skip_back ?_)
            exact ⟨i + 1, ⟨hlt, hlt30⟩, by omega, by rw [hC, hA]; kernel_rfl, by rw [hS]⟩
          · have hag' : ag = false := by simpa using hag
            subst hag'
            refine k_seq (k_seq ?_)
            refine rv (D.int IntKind.i64 (↑i : Int)) ?_
            refine rv (D.sl (i8s l) none) ?_
            refine rve (D.int IntKind.i64 (↑(List.length (i8s l)) : Int)) (.int IntKind.i64 ((↑(List.length l) : Int))) (by simp only [ints, eInt, rows, eInts, bools, eBool, trips, eTrip, i8s, List.length_map]) ?_
            refine rv (D.bool (decide ((↑i : Int) < (↑(List.length l) : Int)))) ?_
            refine rv (D.bool (decide ((↑i : Int) < (↑(List.length l) : Int)))) ?_
            refine rkn 28 (decide ((↑i : Int) < (↑(List.length l) : Int))) true (decide_eq_true (by omega)) ?_
            refine rv (D.int IntKind.i64 (↑i : Int)) ?_
            refine rv (D.bool (decide ((↑i : Int) < (30 : Int)))) ?_
            refine rv (D.bool (decide ((↑i : Int) < (30 : Int)))) ?_
            refine k_done (k_skip_seq ?_)
            refine rkn 31 (decide ((↑i : Int) < (30 : Int))) true (decide_eq_true (by omega)) ?_
            refine kct (k_skip_seq (k_seq (k_block (k_seq ?_))))
            refine rv (D.sl (i8s l) none) ?_
            refine rv (D.int IntKind.i64 (↑i : Int)) ?_
            refine runs_index (l) (fun n => [D.int IntKind.i8 n]) (o := none) (kd := IntKind.i64) (i) (by kernel_rfl) (by kernel_rfl) (by kernel_rfl) (by assumption) (by kernel_rfl) ?_
            refine rv (D.int IntKind.i8 l[i]) ?_
            refine rve (D.int IntKind.i64 (IntKind.wrap IntKind.i64 l[i])) (.int IntKind.i64 (l[i])) (congrArg (D.int IntKind.i64) (show IntKind.wrap IntKind.i64 l[i] = (l[i]) from wrap_eq (by omega) (by omega) (by omega))) ?_
            refine ra0 (D.int IntKind.i64 l[i]) ?_
            refine k_done (k_skip_seq (k_seq ?_))
            refine rv (D.int IntKind.i64 l[i]) ?_
            refine ra0 (D.int IntKind.i64 l[i]) ?_
            refine k_done (k_skip_seq (k_seq (k_seq ?_)))
            refine rv (D.int IntKind.i64 l[i]) ?_
            refine rv (D.bool (decide (l[i] < (0 : Int)))) ?_
            refine k_done (k_skip_seq ?_)
            refine rkn 41 (decide (l[i] < (0 : Int))) true (decide_eq_true (by assumption)) ?_
            refine kct ?_
            refine rv (D.int IntKind.i64 l[i]) ?_
            refine rve (D.int IntKind.i64 (IntKind.wrap IntKind.i64 ((0 : Int) - l[i]))) (.int IntKind.i64 ((0 : Int) - l[i])) (congrArg (D.int IntKind.i64) (show IntKind.wrap IntKind.i64 ((0 : Int) - l[i]) = ((0 : Int) - l[i]) from wrap_eq (by omega) (by omega) (by omega))) ?_
            refine ra0 (D.int IntKind.i64 ((0 : Int) - l[i])) ?_
            refine k_done (k_skip_seq (k_seq (k_seq ?_)))
            refine rv (D.int IntKind.i64 l[i]) ?_
            refine rv (D.bool (l[i] == (0 : Int))) ?_
            refine rv (D.bool (l[i] == (0 : Int))) ?_
            refine rkn 46 (l[i] == (0 : Int)) false (decide_eq_false (by assumption)) ?_
            refine rv (D.int IntKind.i64 ((0 : Int) - l[i])) ?_
            refine rv (D.int IntKind.i64 (IntKind.wrap IntKind.i64 (Int.tmod vars (12 : Int)))) ?_
            refine rv (D.bool (decide ((0 : Int) - l[i] > IntKind.wrap IntKind.i64 (Int.tmod vars (12 : Int))))) ?_
            refine rv (D.bool (decide ((0 : Int) - l[i] > IntKind.wrap IntKind.i64 (Int.tmod vars (12 : Int))))) ?_
            refine k_done (k_skip_seq ?_)
            refine rkn 50 (decide ((0 : Int) - l[i] > IntKind.wrap IntKind.i64 (Int.tmod vars (12 : Int)))) false (decide_eq_false (by omega)) ?_
            refine kcf (k_skip_seq (k_seq ?_))
            refine runs_steal (D.sl (rows c) (some (34 : Nat))) (by kernel_rfl) (by kernel_rfl) ?_
            refine rv (D.int IntKind.i64 l[i]) ?_
            refine rv (D.sl [[D.int IntKind.i64 l[i]]] (some (3 : Nat))) ?_
            refine rv (D.sl [[D.sl [[D.int IntKind.i64 l[i]]] none]] (some (34 : Nat))) ?_
            refine runs_append (rows c) ([[D.sl [[D.int IntKind.i64 l[i]]] none]]) (rows (c ++ [[l[i]]])) (by kernel_rfl) (by kernel_rfl) (by kernel_rfl) (by kernel_rfl) (by simp [ints, eInt, rows, eInts, bools, eBool, trips, eTrip, i8s, room]; omega) (by simp [ints, eInt, rows, eInts, bools, eBool, trips, eTrip, i8s]) ?_
            refine runs_assign (D.sl (rows (c ++ [[l[i]]])) (some (34 : Nat))) (by kernel_rfl) (by kernel_rfl) ?_
            refine k_done (k_skip_seq (k_seq ?_))
            refine rv (D.bool false) ?_
            refine rv (D.bool false) ?_
            refine rv (D.msl (0 : Nat) (0 : Nat) (13 : Nat) (1 : Nat)) ?_
            refine rv (D.int IntKind.i64 ((0 : Int) - l[i])) ?_
            refine runs_indexMI (kd := IntKind.i64) ((0 : Nat)) ((0 : Nat)) ((13 : Nat)) ((0 : Int) - l[i]) (by kernel_rfl) (by kernel_rfl) (by kernel_rfl) (by omega) (by omega) ?_
            refine runs_loadP ((0 : Nat)) ((0 : Nat) + Int.toNat ((0 : Int) - l[i]) * (1 : Nat)) (ils s) _ (by kernel_rfl) (by kernel_rfl) (by kernel_rfl) (by assumption) ?_
            refine rv (D.int IntKind.i64 l[i]) ?_
            refine rve (D.int IntKind.i64 (IntKind.wrap IntKind.i64 ((0 : Int) - l[i]))) (.int IntKind.i64 ((0 : Int) - l[i])) (congrArg (D.int IntKind.i64) (show IntKind.wrap IntKind.i64 ((0 : Int) - l[i]) = ((0 : Int) - l[i]) from wrap_eq (by omega) (by omega) (by omega))) ?_
            refine rv (D.bool (List.getD s (Int.natAbs l[i]) (0 : Int) == (0 : Int) - l[i])) ?_
            refine rv (D.bool (List.getD s (Int.natAbs l[i]) (0 : Int) == (0 : Int) - l[i])) ?_
            refine ra0 (D.bool (List.getD s (Int.natAbs l[i]) (0 : Int) == (0 : Int) - l[i])) ?_
            refine k_done (k_skip_seq (k_seq ?_))
            refine rv (D.msl (0 : Nat) (0 : Nat) (13 : Nat) (1 : Nat)) ?_
            refine rv (D.int IntKind.i64 ((0 : Int) - l[i])) ?_
            refine runs_indexMI (kd := IntKind.i64) ((0 : Nat)) ((0 : Nat)) ((13 : Nat)) ((0 : Int) - l[i]) (by kernel_rfl) (by kernel_rfl) (by kernel_rfl) (by omega) (by omega) ?_
            refine runs_loadP ((0 : Nat)) ((0 : Nat) + Int.toNat ((0 : Int) - l[i]) * (1 : Nat)) (ils s) _ (by kernel_rfl) (by kernel_rfl) (by kernel_rfl) (by assumption) ?_
            refine rv (D.bool (List.getD s (Int.natAbs l[i]) (0 : Int) == (0 : Int))) ?_
            refine k_done (k_skip_seq ?_)
            refine rkn 70 (List.getD s (Int.natAbs l[i]) (0 : Int) == (0 : Int)) false (decide_eq_false (by assumption)) ?_
            refine kcf (k_skip_block (k_skip_seq ?_))
            refine rv (D.int IntKind.i64 (↑i : Int)) ?_
            refine rve (D.int IntKind.i64 (IntKind.wrap IntKind.i64 ((↑i : Int) + (1 : Int)))) (.int IntKind.i64 ((i + 1 : Nat) : Int)) (congrArg (D.int IntKind.i64) (show IntKind.wrap IntKind.i64 ((↑i : Int) + (1 : Int)) = ((i + 1 : Nat) : Int) from wrap_eq (by omega) (by omega) (by omega))) ?_
            refine ra0 (D.int IntKind.i64 (↑(i + (1 : Nat)) : Int)) ?_
            refine k_done (k_skip_back ?_)
            exact ⟨i + 1, ⟨hlt, hlt30⟩, by omega, by rw [hC, hA]; kernel_rfl, by rw [hS]⟩
      · have hat : (ils s)[(0 : Nat) + Int.toNat l[i] * (1 : Nat)]? = some (D.int .i64 (s.getD l[i].natAbs 0)) := at_pos hok (by omega)
        by_cases hz : s.getD l[i].natAbs 0 = 0
        · have hp : uPut s l[i] = s.set l[i].natAbs l[i] := if_pos hz
          by_cases hag : ag = true
          · subst hag
            refine k_seq (k_seq ?_)
            refine rv (D.int IntKind.i64 (↑i : Int)) ?_
            refine rv (D.sl (i8s l) none) ?_
            refine rve (D.int IntKind.i64 (↑(List.length (i8s l)) : Int)) (.int IntKind.i64 ((↑(List.length l) : Int))) (by simp only [ints, eInt, rows, eInts, bools, eBool, trips, eTrip, i8s, List.length_map]) ?_
            refine rv (D.bool (decide ((↑i : Int) < (↑(List.length l) : Int)))) ?_
            refine rv (D.bool (decide ((↑i : Int) < (↑(List.length l) : Int)))) ?_
            refine rkn 28 (decide ((↑i : Int) < (↑(List.length l) : Int))) true (decide_eq_true (by omega)) ?_
            refine rv (D.int IntKind.i64 (↑i : Int)) ?_
            refine rv (D.bool (decide ((↑i : Int) < (30 : Int)))) ?_
            refine rv (D.bool (decide ((↑i : Int) < (30 : Int)))) ?_
            refine k_done (k_skip_seq ?_)
            refine rkn 31 (decide ((↑i : Int) < (30 : Int))) true (decide_eq_true (by omega)) ?_
            refine kct (k_skip_seq (k_seq (k_block (k_seq ?_))))
            refine rv (D.sl (i8s l) none) ?_
            refine rv (D.int IntKind.i64 (↑i : Int)) ?_
            refine runs_index (l) (fun n => [D.int IntKind.i8 n]) (o := none) (kd := IntKind.i64) (i) (by kernel_rfl) (by kernel_rfl) (by kernel_rfl) (by assumption) (by kernel_rfl) ?_
            refine rv (D.int IntKind.i8 l[i]) ?_
            refine rve (D.int IntKind.i64 (IntKind.wrap IntKind.i64 l[i])) (.int IntKind.i64 (l[i])) (congrArg (D.int IntKind.i64) (show IntKind.wrap IntKind.i64 l[i] = (l[i]) from wrap_eq (by omega) (by omega) (by omega))) ?_
            refine ra0 (D.int IntKind.i64 l[i]) ?_
            refine k_done (k_skip_seq (k_seq ?_))
            refine rv (D.int IntKind.i64 l[i]) ?_
            refine ra0 (D.int IntKind.i64 l[i]) ?_
            refine k_done (k_skip_seq (k_seq (k_seq ?_)))
            refine rv (D.int IntKind.i64 l[i]) ?_
            refine rv (D.bool (decide (l[i] < (0 : Int)))) ?_
            refine k_done (k_skip_seq ?_)
            refine rkn 41 (decide (l[i] < (0 : Int))) false (decide_eq_false (by assumption)) ?_
            refine kcf (k_skip_seq (k_seq (k_seq ?_)))
            refine rv (D.int IntKind.i64 l[i]) ?_
            refine rv (D.bool (l[i] == (0 : Int))) ?_
            refine rv (D.bool (l[i] == (0 : Int))) ?_
            refine rkn 46 (l[i] == (0 : Int)) false (decide_eq_false (by assumption)) ?_
            refine rv (D.int IntKind.i64 l[i]) ?_
            refine rv (D.int IntKind.i64 (IntKind.wrap IntKind.i64 (Int.tmod vars (12 : Int)))) ?_
            refine rv (D.bool (decide (l[i] > IntKind.wrap IntKind.i64 (Int.tmod vars (12 : Int))))) ?_
            refine rv (D.bool (decide (l[i] > IntKind.wrap IntKind.i64 (Int.tmod vars (12 : Int))))) ?_
            refine k_done (k_skip_seq ?_)
            refine rkn 50 (decide (l[i] > IntKind.wrap IntKind.i64 (Int.tmod vars (12 : Int)))) false (decide_eq_false (by omega)) ?_
            refine kcf (k_skip_seq (k_seq ?_))
            refine runs_steal (D.sl (rows c) (some (34 : Nat))) (by kernel_rfl) (by kernel_rfl) ?_
            refine rv (D.int IntKind.i64 l[i]) ?_
            refine rv (D.sl [[D.int IntKind.i64 l[i]]] (some (3 : Nat))) ?_
            refine rv (D.sl [[D.sl [[D.int IntKind.i64 l[i]]] none]] (some (34 : Nat))) ?_
            refine runs_append (rows c) ([[D.sl [[D.int IntKind.i64 l[i]]] none]]) (rows (c ++ [[l[i]]])) (by kernel_rfl) (by kernel_rfl) (by kernel_rfl) (by kernel_rfl) (by simp [ints, eInt, rows, eInts, bools, eBool, trips, eTrip, i8s, room]; omega) (by simp [ints, eInt, rows, eInts, bools, eBool, trips, eTrip, i8s]) ?_
            refine runs_assign (D.sl (rows (c ++ [[l[i]]])) (some (34 : Nat))) (by kernel_rfl) (by kernel_rfl) ?_
            refine k_done (k_skip_seq (k_seq ?_))
            refine rv (D.bool true) ?_
            refine rv (D.bool true) ?_
            refine rno (rno (rno (rno (rno (rno (rno ?_))))))
            refine rv (D.bool true) ?_
            refine ra0 (D.bool true) ?_
            refine k_done (k_skip_seq (k_seq ?_))
            refine rv (D.msl (0 : Nat) (0 : Nat) (13 : Nat) (1 : Nat)) ?_
            refine rv (D.int IntKind.i64 l[i]) ?_
            refine runs_indexMI (kd := IntKind.i64) ((0 : Nat)) ((0 : Nat)) ((13 : Nat)) (l[i]) (by kernel_rfl) (by kernel_rfl) (by kernel_rfl) (by omega) (by omega) ?_
            refine runs_loadP ((0 : Nat)) ((0 : Nat) + Int.toNat l[i] * (1 : Nat)) (ils s) _ (by kernel_rfl) (by kernel_rfl) (by kernel_rfl) (by assumption) ?_
            refine rv (D.bool (List.getD s (Int.natAbs l[i]) (0 : Int) == (0 : Int))) ?_
            refine k_done (k_skip_seq ?_)
            refine rkn 70 (List.getD s (Int.natAbs l[i]) (0 : Int) == (0 : Int)) true (decide_eq_true (by assumption)) ?_
            refine kct ?_
            refine rv (D.msl (0 : Nat) (0 : Nat) (13 : Nat) (1 : Nat)) ?_
            refine rv (D.int IntKind.i64 l[i]) ?_
            refine rv (D.int IntKind.i64 l[i]) ?_
            refine runs_indexMI (kd := IntKind.i64) ((0 : Nat)) ((0 : Nat)) ((13 : Nat)) (l[i]) (by kernel_rfl) (by kernel_rfl) (by kernel_rfl) (by omega) (by omega) ?_
            refine runs_storeP ((0 : Nat)) ((0 : Nat) + Int.toNat l[i] * (1 : Nat)) (ils s) (ils (List.set (s) ((0 : Nat) + Int.toNat l[i] * (1 : Nat)) (l[i]))) (D.int IntKind.i64 l[i]) ([.cells (ils (List.set (s) ((0 : Nat) + Int.toNat l[i] * (1 : Nat)) (l[i])))]) (by kernel_rfl) (by kernel_rfl) (by kernel_rfl) (by kernel_rfl) (by kernel_rfl) (by kernel_rfl) (by kernel_rfl) (by rw [ils_len]; first | assumption | omega | (simp; omega)) (ils_set _ _ _) (by kernel_rfl) ?_
            refine k_done (k_skip_block (k_skip_seq ?_))
            refine rv (D.int IntKind.i64 (↑i : Int)) ?_
            refine rve (D.int IntKind.i64 (IntKind.wrap IntKind.i64 ((↑i : Int) + (1 : Int)))) (.int IntKind.i64 ((i + 1 : Nat) : Int)) (congrArg (D.int IntKind.i64) (show IntKind.wrap IntKind.i64 ((↑i : Int) + (1 : Int)) = ((i + 1 : Nat) : Int) from wrap_eq (by omega) (by omega) (by omega))) ?_
            refine ra0 (D.int IntKind.i64 (↑(i + (1 : Nat)) : Int)) ?_
            refine k_done (k_skip_back ?_)
            refine ⟨i + 1, ⟨hlt, hlt30⟩, by omega, by rw [hC, hA]; kernel_rfl, ?_⟩
            have hix : (0 : Nat) + Int.toNat l[i] * (1 : Nat) = l[i].natAbs := by omega
            rw [hS, hp, ← hix]
          · have hag' : ag = false := by simpa using hag
            subst hag'
            refine k_seq (k_seq ?_)
            refine rv (D.int IntKind.i64 (↑i : Int)) ?_
            refine rv (D.sl (i8s l) none) ?_
            refine rve (D.int IntKind.i64 (↑(List.length (i8s l)) : Int)) (.int IntKind.i64 ((↑(List.length l) : Int))) (by simp only [ints, eInt, rows, eInts, bools, eBool, trips, eTrip, i8s, List.length_map]) ?_
            refine rv (D.bool (decide ((↑i : Int) < (↑(List.length l) : Int)))) ?_
            refine rv (D.bool (decide ((↑i : Int) < (↑(List.length l) : Int)))) ?_
            refine rkn 28 (decide ((↑i : Int) < (↑(List.length l) : Int))) true (decide_eq_true (by omega)) ?_
            refine rv (D.int IntKind.i64 (↑i : Int)) ?_
            refine rv (D.bool (decide ((↑i : Int) < (30 : Int)))) ?_
            refine rv (D.bool (decide ((↑i : Int) < (30 : Int)))) ?_
            refine k_done (k_skip_seq ?_)
            refine rkn 31 (decide ((↑i : Int) < (30 : Int))) true (decide_eq_true (by omega)) ?_
            refine kct (k_skip_seq (k_seq (k_block (k_seq ?_))))
            refine rv (D.sl (i8s l) none) ?_
            refine rv (D.int IntKind.i64 (↑i : Int)) ?_
            refine runs_index (l) (fun n => [D.int IntKind.i8 n]) (o := none) (kd := IntKind.i64) (i) (by kernel_rfl) (by kernel_rfl) (by kernel_rfl) (by assumption) (by kernel_rfl) ?_
            refine rv (D.int IntKind.i8 l[i]) ?_
            refine rve (D.int IntKind.i64 (IntKind.wrap IntKind.i64 l[i])) (.int IntKind.i64 (l[i])) (congrArg (D.int IntKind.i64) (show IntKind.wrap IntKind.i64 l[i] = (l[i]) from wrap_eq (by omega) (by omega) (by omega))) ?_
            refine ra0 (D.int IntKind.i64 l[i]) ?_
            refine k_done (k_skip_seq (k_seq ?_))
            refine rv (D.int IntKind.i64 l[i]) ?_
            refine ra0 (D.int IntKind.i64 l[i]) ?_
            refine k_done (k_skip_seq (k_seq (k_seq ?_)))
            refine rv (D.int IntKind.i64 l[i]) ?_
            refine rv (D.bool (decide (l[i] < (0 : Int)))) ?_
            refine k_done (k_skip_seq ?_)
            refine rkn 41 (decide (l[i] < (0 : Int))) false (decide_eq_false (by assumption)) ?_
            refine kcf (k_skip_seq (k_seq (k_seq ?_)))
            refine rv (D.int IntKind.i64 l[i]) ?_
            refine rv (D.bool (l[i] == (0 : Int))) ?_
            refine rv (D.bool (l[i] == (0 : Int))) ?_
            refine rkn 46 (l[i] == (0 : Int)) false (decide_eq_false (by assumption)) ?_
            refine rv (D.int IntKind.i64 l[i]) ?_
            refine rv (D.int IntKind.i64 (IntKind.wrap IntKind.i64 (Int.tmod vars (12 : Int)))) ?_
            refine rv (D.bool (decide (l[i] > IntKind.wrap IntKind.i64 (Int.tmod vars (12 : Int))))) ?_
            refine rv (D.bool (decide (l[i] > IntKind.wrap IntKind.i64 (Int.tmod vars (12 : Int))))) ?_
            refine k_done (k_skip_seq ?_)
            refine rkn 50 (decide (l[i] > IntKind.wrap IntKind.i64 (Int.tmod vars (12 : Int)))) false (decide_eq_false (by omega)) ?_
            refine kcf (k_skip_seq (k_seq ?_))
            refine runs_steal (D.sl (rows c) (some (34 : Nat))) (by kernel_rfl) (by kernel_rfl) ?_
            refine rv (D.int IntKind.i64 l[i]) ?_
            refine rv (D.sl [[D.int IntKind.i64 l[i]]] (some (3 : Nat))) ?_
            refine rv (D.sl [[D.sl [[D.int IntKind.i64 l[i]]] none]] (some (34 : Nat))) ?_
            refine runs_append (rows c) ([[D.sl [[D.int IntKind.i64 l[i]]] none]]) (rows (c ++ [[l[i]]])) (by kernel_rfl) (by kernel_rfl) (by kernel_rfl) (by kernel_rfl) (by simp [ints, eInt, rows, eInts, bools, eBool, trips, eTrip, i8s, room]; omega) (by simp [ints, eInt, rows, eInts, bools, eBool, trips, eTrip, i8s]) ?_
            refine runs_assign (D.sl (rows (c ++ [[l[i]]])) (some (34 : Nat))) (by kernel_rfl) (by kernel_rfl) ?_
            refine k_done (k_skip_seq (k_seq ?_))
            refine rv (D.bool false) ?_
            refine rv (D.bool false) ?_
            refine rv (D.msl (0 : Nat) (0 : Nat) (13 : Nat) (1 : Nat)) ?_
            refine rv (D.int IntKind.i64 l[i]) ?_
            refine runs_indexMI (kd := IntKind.i64) ((0 : Nat)) ((0 : Nat)) ((13 : Nat)) (l[i]) (by kernel_rfl) (by kernel_rfl) (by kernel_rfl) (by omega) (by omega) ?_
            refine runs_loadP ((0 : Nat)) ((0 : Nat) + Int.toNat l[i] * (1 : Nat)) (ils s) _ (by kernel_rfl) (by kernel_rfl) (by kernel_rfl) (by assumption) ?_
            refine rv (D.int IntKind.i64 l[i]) ?_
            refine rve (D.int IntKind.i64 (IntKind.wrap IntKind.i64 ((0 : Int) - l[i]))) (.int IntKind.i64 ((0 : Int) - l[i])) (congrArg (D.int IntKind.i64) (show IntKind.wrap IntKind.i64 ((0 : Int) - l[i]) = ((0 : Int) - l[i]) from wrap_eq (by omega) (by omega) (by omega))) ?_
            refine rv (D.bool (List.getD s (Int.natAbs l[i]) (0 : Int) == (0 : Int) - l[i])) ?_
            refine rv (D.bool (List.getD s (Int.natAbs l[i]) (0 : Int) == (0 : Int) - l[i])) ?_
            refine ra0 (D.bool (List.getD s (Int.natAbs l[i]) (0 : Int) == (0 : Int) - l[i])) ?_
            refine k_done (k_skip_seq (k_seq ?_))
            refine rv (D.msl (0 : Nat) (0 : Nat) (13 : Nat) (1 : Nat)) ?_
            refine rv (D.int IntKind.i64 l[i]) ?_
            refine runs_indexMI (kd := IntKind.i64) ((0 : Nat)) ((0 : Nat)) ((13 : Nat)) (l[i]) (by kernel_rfl) (by kernel_rfl) (by kernel_rfl) (by omega) (by omega) ?_
            refine runs_loadP ((0 : Nat)) ((0 : Nat) + Int.toNat l[i] * (1 : Nat)) (ils s) _ (by kernel_rfl) (by kernel_rfl) (by kernel_rfl) (by assumption) ?_
            refine rv (D.bool (List.getD s (Int.natAbs l[i]) (0 : Int) == (0 : Int))) ?_
            refine k_done (k_skip_seq ?_)
            refine rkn 70 (List.getD s (Int.natAbs l[i]) (0 : Int) == (0 : Int)) true (decide_eq_true (by assumption)) ?_
            refine kct ?_
            refine rv (D.msl (0 : Nat) (0 : Nat) (13 : Nat) (1 : Nat)) ?_
            refine rv (D.int IntKind.i64 l[i]) ?_
            refine rv (D.int IntKind.i64 l[i]) ?_
            refine runs_indexMI (kd := IntKind.i64) ((0 : Nat)) ((0 : Nat)) ((13 : Nat)) (l[i]) (by kernel_rfl) (by kernel_rfl) (by kernel_rfl) (by omega) (by omega) ?_
            refine runs_storeP ((0 : Nat)) ((0 : Nat) + Int.toNat l[i] * (1 : Nat)) (ils s) (ils (List.set (s) ((0 : Nat) + Int.toNat l[i] * (1 : Nat)) (l[i]))) (D.int IntKind.i64 l[i]) ([.cells (ils (List.set (s) ((0 : Nat) + Int.toNat l[i] * (1 : Nat)) (l[i])))]) (by kernel_rfl) (by kernel_rfl) (by kernel_rfl) (by kernel_rfl) (by kernel_rfl) (by kernel_rfl) (by kernel_rfl) (by rw [ils_len]; first | assumption | omega | (simp; omega)) (ils_set _ _ _) (by kernel_rfl) ?_
            refine k_done (k_skip_block (k_skip_seq ?_))
            refine rv (D.int IntKind.i64 (↑i : Int)) ?_
            refine rve (D.int IntKind.i64 (IntKind.wrap IntKind.i64 ((↑i : Int) + (1 : Int)))) (.int IntKind.i64 ((i + 1 : Nat) : Int)) (congrArg (D.int IntKind.i64) (show IntKind.wrap IntKind.i64 ((↑i : Int) + (1 : Int)) = ((i + 1 : Nat) : Int) from wrap_eq (by omega) (by omega) (by omega))) ?_
            refine ra0 (D.int IntKind.i64 (↑(i + (1 : Nat)) : Int)) ?_
            refine k_done (k_skip_back ?_)
            refine ⟨i + 1, ⟨hlt, hlt30⟩, by omega, by rw [hC, hA]; kernel_rfl, ?_⟩
            have hix : (0 : Nat) + Int.toNat l[i] * (1 : Nat) = l[i].natAbs := by omega
            rw [hS, hp, ← hix]
        · have hp : uPut s l[i] = s := if_neg hz
          rw [hp] at hS
          by_cases hag : ag = true
          · subst hag
            refine k_seq (k_seq ?_)
            refine rv (D.int IntKind.i64 (↑i : Int)) ?_
            refine rv (D.sl (i8s l) none) ?_
            refine rve (D.int IntKind.i64 (↑(List.length (i8s l)) : Int)) (.int IntKind.i64 ((↑(List.length l) : Int))) (by simp only [ints, eInt, rows, eInts, bools, eBool, trips, eTrip, i8s, List.length_map]) ?_
            refine rv (D.bool (decide ((↑i : Int) < (↑(List.length l) : Int)))) ?_
            refine rv (D.bool (decide ((↑i : Int) < (↑(List.length l) : Int)))) ?_
            refine rkn 28 (decide ((↑i : Int) < (↑(List.length l) : Int))) true (decide_eq_true (by omega)) ?_
            refine rv (D.int IntKind.i64 (↑i : Int)) ?_
            refine rv (D.bool (decide ((↑i : Int) < (30 : Int)))) ?_
            refine rv (D.bool (decide ((↑i : Int) < (30 : Int)))) ?_
            refine k_done (k_skip_seq ?_)
            refine rkn 31 (decide ((↑i : Int) < (30 : Int))) true (decide_eq_true (by omega)) ?_
            refine kct (k_skip_seq (k_seq (k_block (k_seq ?_))))
            refine rv (D.sl (i8s l) none) ?_
            refine rv (D.int IntKind.i64 (↑i : Int)) ?_
            refine runs_index (l) (fun n => [D.int IntKind.i8 n]) (o := none) (kd := IntKind.i64) (i) (by kernel_rfl) (by kernel_rfl) (by kernel_rfl) (by assumption) (by kernel_rfl) ?_
            refine rv (D.int IntKind.i8 l[i]) ?_
            refine rve (D.int IntKind.i64 (IntKind.wrap IntKind.i64 l[i])) (.int IntKind.i64 (l[i])) (congrArg (D.int IntKind.i64) (show IntKind.wrap IntKind.i64 l[i] = (l[i]) from wrap_eq (by omega) (by omega) (by omega))) ?_
            refine ra0 (D.int IntKind.i64 l[i]) ?_
            refine k_done (k_skip_seq (k_seq ?_))
            refine rv (D.int IntKind.i64 l[i]) ?_
            refine ra0 (D.int IntKind.i64 l[i]) ?_
            refine k_done (k_skip_seq (k_seq (k_seq ?_)))
            refine rv (D.int IntKind.i64 l[i]) ?_
            refine rv (D.bool (decide (l[i] < (0 : Int)))) ?_
            refine k_done (k_skip_seq ?_)
            refine rkn 41 (decide (l[i] < (0 : Int))) false (decide_eq_false (by assumption)) ?_
            refine kcf (k_skip_seq (k_seq (k_seq ?_)))
            refine rv (D.int IntKind.i64 l[i]) ?_
            refine rv (D.bool (l[i] == (0 : Int))) ?_
            refine rv (D.bool (l[i] == (0 : Int))) ?_
            refine rkn 46 (l[i] == (0 : Int)) false (decide_eq_false (by assumption)) ?_
            refine rv (D.int IntKind.i64 l[i]) ?_
            refine rv (D.int IntKind.i64 (IntKind.wrap IntKind.i64 (Int.tmod vars (12 : Int)))) ?_
            refine rv (D.bool (decide (l[i] > IntKind.wrap IntKind.i64 (Int.tmod vars (12 : Int))))) ?_
            refine rv (D.bool (decide (l[i] > IntKind.wrap IntKind.i64 (Int.tmod vars (12 : Int))))) ?_
            refine k_done (k_skip_seq ?_)
            refine rkn 50 (decide (l[i] > IntKind.wrap IntKind.i64 (Int.tmod vars (12 : Int)))) false (decide_eq_false (by omega)) ?_
            refine kcf (k_skip_seq (k_seq ?_))
            refine runs_steal (D.sl (rows c) (some (34 : Nat))) (by kernel_rfl) (by kernel_rfl) ?_
            refine rv (D.int IntKind.i64 l[i]) ?_
            refine rv (D.sl [[D.int IntKind.i64 l[i]]] (some (3 : Nat))) ?_
            refine rv (D.sl [[D.sl [[D.int IntKind.i64 l[i]]] none]] (some (34 : Nat))) ?_
            refine runs_append (rows c) ([[D.sl [[D.int IntKind.i64 l[i]]] none]]) (rows (c ++ [[l[i]]])) (by kernel_rfl) (by kernel_rfl) (by kernel_rfl) (by kernel_rfl) (by simp [ints, eInt, rows, eInts, bools, eBool, trips, eTrip, i8s, room]; omega) (by simp [ints, eInt, rows, eInts, bools, eBool, trips, eTrip, i8s]) ?_
            refine runs_assign (D.sl (rows (c ++ [[l[i]]])) (some (34 : Nat))) (by kernel_rfl) (by kernel_rfl) ?_
            refine k_done (k_skip_seq (k_seq ?_))
            refine rv (D.bool true) ?_
            refine rv (D.bool true) ?_
            refine rno (rno (rno (rno (rno (rno (rno ?_))))))
            refine rv (D.bool true) ?_
            refine ra0 (D.bool true) ?_
            refine k_done (k_skip_seq (k_seq ?_))
            refine rv (D.msl (0 : Nat) (0 : Nat) (13 : Nat) (1 : Nat)) ?_
            refine rv (D.int IntKind.i64 l[i]) ?_
            refine runs_indexMI (kd := IntKind.i64) ((0 : Nat)) ((0 : Nat)) ((13 : Nat)) (l[i]) (by kernel_rfl) (by kernel_rfl) (by kernel_rfl) (by omega) (by omega) ?_
            refine runs_loadP ((0 : Nat)) ((0 : Nat) + Int.toNat l[i] * (1 : Nat)) (ils s) _ (by kernel_rfl) (by kernel_rfl) (by kernel_rfl) (by assumption) ?_
            refine rv (D.bool (List.getD s (Int.natAbs l[i]) (0 : Int) == (0 : Int))) ?_
            refine k_done (k_skip_seq ?_)
            refine rkn 70 (List.getD s (Int.natAbs l[i]) (0 : Int) == (0 : Int)) false (decide_eq_false (by assumption)) ?_
            refine kcf (k_skip_block (k_skip_seq ?_))
            refine rv (D.int IntKind.i64 (↑i : Int)) ?_
            refine rve (D.int IntKind.i64 (IntKind.wrap IntKind.i64 ((↑i : Int) + (1 : Int)))) (.int IntKind.i64 ((i + 1 : Nat) : Int)) (congrArg (D.int IntKind.i64) (show IntKind.wrap IntKind.i64 ((↑i : Int) + (1 : Int)) = ((i + 1 : Nat) : Int) from wrap_eq (by omega) (by omega) (by omega))) ?_
            refine ra0 (D.int IntKind.i64 (↑(i + (1 : Nat)) : Int)) ?_
            refine k_done (k_skip_back ?_)
            exact ⟨i + 1, ⟨hlt, hlt30⟩, by omega, by rw [hC, hA]; kernel_rfl, by rw [hS]⟩
          · have hag' : ag = false := by simpa using hag
            subst hag'
            refine k_seq (k_seq ?_)
            refine rv (D.int IntKind.i64 (↑i : Int)) ?_
            refine rv (D.sl (i8s l) none) ?_
            refine rve (D.int IntKind.i64 (↑(List.length (i8s l)) : Int)) (.int IntKind.i64 ((↑(List.length l) : Int))) (by simp only [ints, eInt, rows, eInts, bools, eBool, trips, eTrip, i8s, List.length_map]) ?_
            refine rv (D.bool (decide ((↑i : Int) < (↑(List.length l) : Int)))) ?_
            refine rv (D.bool (decide ((↑i : Int) < (↑(List.length l) : Int)))) ?_
            refine rkn 28 (decide ((↑i : Int) < (↑(List.length l) : Int))) true (decide_eq_true (by omega)) ?_
            refine rv (D.int IntKind.i64 (↑i : Int)) ?_
            refine rv (D.bool (decide ((↑i : Int) < (30 : Int)))) ?_
            refine rv (D.bool (decide ((↑i : Int) < (30 : Int)))) ?_
            refine k_done (k_skip_seq ?_)
            refine rkn 31 (decide ((↑i : Int) < (30 : Int))) true (decide_eq_true (by omega)) ?_
            refine kct (k_skip_seq (k_seq (k_block (k_seq ?_))))
            refine rv (D.sl (i8s l) none) ?_
            refine rv (D.int IntKind.i64 (↑i : Int)) ?_
            refine runs_index (l) (fun n => [D.int IntKind.i8 n]) (o := none) (kd := IntKind.i64) (i) (by kernel_rfl) (by kernel_rfl) (by kernel_rfl) (by assumption) (by kernel_rfl) ?_
            refine rv (D.int IntKind.i8 l[i]) ?_
            refine rve (D.int IntKind.i64 (IntKind.wrap IntKind.i64 l[i])) (.int IntKind.i64 (l[i])) (congrArg (D.int IntKind.i64) (show IntKind.wrap IntKind.i64 l[i] = (l[i]) from wrap_eq (by omega) (by omega) (by omega))) ?_
            refine ra0 (D.int IntKind.i64 l[i]) ?_
            refine k_done (k_skip_seq (k_seq ?_))
            refine rv (D.int IntKind.i64 l[i]) ?_
            refine ra0 (D.int IntKind.i64 l[i]) ?_
            refine k_done (k_skip_seq (k_seq (k_seq ?_)))
            refine rv (D.int IntKind.i64 l[i]) ?_
            refine rv (D.bool (decide (l[i] < (0 : Int)))) ?_
            refine k_done (k_skip_seq ?_)
            refine rkn 41 (decide (l[i] < (0 : Int))) false (decide_eq_false (by assumption)) ?_
            refine kcf (k_skip_seq (k_seq (k_seq ?_)))
            refine rv (D.int IntKind.i64 l[i]) ?_
            refine rv (D.bool (l[i] == (0 : Int))) ?_
            refine rv (D.bool (l[i] == (0 : Int))) ?_
            refine rkn 46 (l[i] == (0 : Int)) false (decide_eq_false (by assumption)) ?_
            refine rv (D.int IntKind.i64 l[i]) ?_
            refine rv (D.int IntKind.i64 (IntKind.wrap IntKind.i64 (Int.tmod vars (12 : Int)))) ?_
            refine rv (D.bool (decide (l[i] > IntKind.wrap IntKind.i64 (Int.tmod vars (12 : Int))))) ?_
            refine rv (D.bool (decide (l[i] > IntKind.wrap IntKind.i64 (Int.tmod vars (12 : Int))))) ?_
            refine k_done (k_skip_seq ?_)
            refine rkn 50 (decide (l[i] > IntKind.wrap IntKind.i64 (Int.tmod vars (12 : Int)))) false (decide_eq_false (by omega)) ?_
            refine kcf (k_skip_seq (k_seq ?_))
            refine runs_steal (D.sl (rows c) (some (34 : Nat))) (by kernel_rfl) (by kernel_rfl) ?_
            refine rv (D.int IntKind.i64 l[i]) ?_
            refine rv (D.sl [[D.int IntKind.i64 l[i]]] (some (3 : Nat))) ?_
            refine rv (D.sl [[D.sl [[D.int IntKind.i64 l[i]]] none]] (some (34 : Nat))) ?_
            refine runs_append (rows c) ([[D.sl [[D.int IntKind.i64 l[i]]] none]]) (rows (c ++ [[l[i]]])) (by kernel_rfl) (by kernel_rfl) (by kernel_rfl) (by kernel_rfl) (by simp [ints, eInt, rows, eInts, bools, eBool, trips, eTrip, i8s, room]; omega) (by simp [ints, eInt, rows, eInts, bools, eBool, trips, eTrip, i8s]) ?_
            refine runs_assign (D.sl (rows (c ++ [[l[i]]])) (some (34 : Nat))) (by kernel_rfl) (by kernel_rfl) ?_
            refine k_done (k_skip_seq (k_seq ?_))
            refine rv (D.bool false) ?_
            refine rv (D.bool false) ?_
            refine rv (D.msl (0 : Nat) (0 : Nat) (13 : Nat) (1 : Nat)) ?_
            refine rv (D.int IntKind.i64 l[i]) ?_
            refine runs_indexMI (kd := IntKind.i64) ((0 : Nat)) ((0 : Nat)) ((13 : Nat)) (l[i]) (by kernel_rfl) (by kernel_rfl) (by kernel_rfl) (by omega) (by omega) ?_
            refine runs_loadP ((0 : Nat)) ((0 : Nat) + Int.toNat l[i] * (1 : Nat)) (ils s) _ (by kernel_rfl) (by kernel_rfl) (by kernel_rfl) (by assumption) ?_
            refine rv (D.int IntKind.i64 l[i]) ?_
            refine rve (D.int IntKind.i64 (IntKind.wrap IntKind.i64 ((0 : Int) - l[i]))) (.int IntKind.i64 ((0 : Int) - l[i])) (congrArg (D.int IntKind.i64) (show IntKind.wrap IntKind.i64 ((0 : Int) - l[i]) = ((0 : Int) - l[i]) from wrap_eq (by omega) (by omega) (by omega))) ?_
            refine rv (D.bool (List.getD s (Int.natAbs l[i]) (0 : Int) == (0 : Int) - l[i])) ?_
            refine rv (D.bool (List.getD s (Int.natAbs l[i]) (0 : Int) == (0 : Int) - l[i])) ?_
            refine ra0 (D.bool (List.getD s (Int.natAbs l[i]) (0 : Int) == (0 : Int) - l[i])) ?_
            refine k_done (k_skip_seq (k_seq ?_))
            refine rv (D.msl (0 : Nat) (0 : Nat) (13 : Nat) (1 : Nat)) ?_
            refine rv (D.int IntKind.i64 l[i]) ?_
            refine runs_indexMI (kd := IntKind.i64) ((0 : Nat)) ((0 : Nat)) ((13 : Nat)) (l[i]) (by kernel_rfl) (by kernel_rfl) (by kernel_rfl) (by omega) (by omega) ?_
            refine runs_loadP ((0 : Nat)) ((0 : Nat) + Int.toNat l[i] * (1 : Nat)) (ils s) _ (by kernel_rfl) (by kernel_rfl) (by kernel_rfl) (by assumption) ?_
            refine rv (D.bool (List.getD s (Int.natAbs l[i]) (0 : Int) == (0 : Int))) ?_
            refine k_done (k_skip_seq ?_)
            refine rkn 70 (List.getD s (Int.natAbs l[i]) (0 : Int) == (0 : Int)) false (decide_eq_false (by assumption)) ?_
            refine kcf (k_skip_block (k_skip_seq ?_))
            refine rv (D.int IntKind.i64 (↑i : Int)) ?_
            refine rve (D.int IntKind.i64 (IntKind.wrap IntKind.i64 ((↑i : Int) + (1 : Int)))) (.int IntKind.i64 ((i + 1 : Nat) : Int)) (congrArg (D.int IntKind.i64) (show IntKind.wrap IntKind.i64 ((↑i : Int) + (1 : Int)) = ((i + 1 : Nat) : Int) from wrap_eq (by omega) (by omega) (by omega))) ?_
            refine ra0 (D.int IntKind.i64 (↑(i + (1 : Nat)) : Int)) ?_
            refine k_done (k_skip_back ?_)
            exact ⟨i + 1, ⟨hlt, hlt30⟩, by omega, by rw [hC, hA]; kernel_rfl, by rw [hS]⟩
  · have hlen : (l.take i).length ≤ 30 := by rw [List.length_take]; omega
    have hI := okI_units (l := l.take i) hn hlen
    have hck := check_units (l := l.take i) hn
    have htold := units_told (l := l.take i) hn
    obtain ⟨σ', hs⟩ := solve_ok 39999 (uC n (l.take i)) n 100 none hI (by omega) hck (by omega)
    rw [if_neg (by omega)] at hs
    have hsl : (uS n z13 (l.take i)).length = 13 := uS_len _ _ _
    have hnot := htold.not
    have hmet := htold.met
    clear htold
    generalize metR (solveR (uC n (l.take i)) n 100) n = tr at *
    generalize stepsR (solveR (uC n (l.take i)) n 100) = st at *
    generalize (solveR (uC n (l.take i)) n 100).1 = kd at *
    generalize (solveR (uC n (l.take i)) n 100).2.2.tried = td at *
    generalize uC n (l.take i) = c at *
    generalize uA n z13 (l.take i) = ag at *
    generalize uS n z13 (l.take i) = s at *
    rw [← hR] at hs
    by_cases hli : i < l.length
    · have h30 : i = 30 := by omega
      refine k_seq (k_seq ?_)
      refine rv (D.int IntKind.i64 (↑i : Int)) ?_
      refine rv (D.sl (i8s l) none) ?_
      refine rve (D.int IntKind.i64 (↑(List.length (i8s l)) : Int)) (.int IntKind.i64 ((↑(List.length l) : Int))) (by simp only [ints, eInt, rows, eInts, bools, eBool, trips, eTrip, i8s, List.length_map]) ?_
      refine rv (D.bool (decide ((↑i : Int) < (↑(List.length l) : Int)))) ?_
      refine rv (D.bool (decide ((↑i : Int) < (↑(List.length l) : Int)))) ?_
      refine rkn 28 (decide ((↑i : Int) < (↑(List.length l) : Int))) true (decide_eq_true (by omega)) ?_
      refine rv (D.int IntKind.i64 (↑i : Int)) ?_
      refine rv (D.bool (decide ((↑i : Int) < (30 : Int)))) ?_
      refine rv (D.bool (decide ((↑i : Int) < (30 : Int)))) ?_
      refine k_done (k_skip_seq ?_)
      refine rkn 31 (decide ((↑i : Int) < (30 : Int))) false (decide_eq_false (by omega)) ?_
      refine kcf (k_exit_seq (k_exit_back (k_exit_hit rfl (k_skip_seq (k_seq ?_)))))
      refine rv (D.int IntKind.i64 (0 : Int)) ?_
      refine k_done (k_skip_seq (k_seq (k_seq ?_)))
      refine rv (D.int IntKind.i64 (1 : Int)) ?_
      refine k_done (k_skip_seq (k_block ?_))
      refine k_loop (fun j : Nat => f9b l vars (IntKind.wrap IntKind.i64 (Int.tmod vars (12 : Int))) c ag i (freeU s j) ((j + 1 : Nat) : Int)) (fun _ => [.cells (ils s)]) (fun j => j ≤ n) (fun j => n - j) 0 (by rw [free_zero]; kernel_rfl) rfl (by simp) (by intro s hs; omega) ?_
      intro j hj
      have hfr : freeU s j ≤ j := freeU_le s j
      by_cases hjn : j < n
      · have hget : (ils s)[(0 : Nat) + (j + (1 : Nat)) * (1 : Nat)]? = some (D.int .i64 (s.getD (j + 1) 0)) := by
          have e : (0 : Nat) + (j + 1) * 1 = j + 1 := by omega
          rw [e, ils_get (by omega), List.getD_eq_getElem?_getD, List.getElem?_eq_getElem (by omega)]
          rfl
        have hfs := free_succ (s := s) (i := j) (by omega)
        generalize freeU s j = fj at *
        by_cases hz : s.getD (j + 1) 0 = 0
        · rw [if_pos hz] at hfs
          refine k_seq (k_seq ?_)
          refine rv (D.int IntKind.i64 (↑(j + (1 : Nat)) : Int)) ?_
          refine rv (D.int IntKind.i64 (IntKind.wrap IntKind.i64 (Int.tmod vars (12 : Int)))) ?_
          refine rv (D.bool (decide ((↑(j + (1 : Nat)) : Int) ≤ IntKind.wrap IntKind.i64 (Int.tmod vars (12 : Int))))) ?_
          refine k_done (k_skip_seq ?_)
          refine rkn 77 (decide ((↑(j + (1 : Nat)) : Int) ≤ IntKind.wrap IntKind.i64 (Int.tmod vars (12 : Int)))) true (decide_eq_true (by omega)) ?_
          refine kct (k_skip_seq (k_seq (k_block (k_seq ?_))))
          refine rv (D.msl (0 : Nat) (0 : Nat) (13 : Nat) (1 : Nat)) ?_
          refine rv (D.int IntKind.i64 (↑(j + (1 : Nat)) : Int)) ?_
          refine runs_indexM (kd := IntKind.i64) ((0 : Nat)) ((0 : Nat)) ((13 : Nat)) (j + (1 : Nat)) (by kernel_rfl) (by kernel_rfl) (by kernel_rfl) (by omega) ?_
          refine runs_loadP ((0 : Nat)) ((0 : Nat) + (j + (1 : Nat)) * (1 : Nat)) (ils s) _ (by kernel_rfl) (by kernel_rfl) (by kernel_rfl) (by assumption) ?_
          refine rv (D.bool (List.getD s (j + (1 : Nat)) (0 : Int) == (0 : Int))) ?_
          refine k_done (k_skip_seq ?_)
          refine rkn 84 (List.getD s (j + (1 : Nat)) (0 : Int) == (0 : Int)) true (decide_eq_true (by assumption)) ?_
          refine kct ?_
          refine rv (D.int IntKind.i64 (↑fj : Int)) ?_
          refine rve (D.int IntKind.i64 (IntKind.wrap IntKind.i64 ((↑fj : Int) + (1 : Int)))) (.int IntKind.i64 ((fj + 1 : Nat) : Int)) (congrArg (D.int IntKind.i64) (show IntKind.wrap IntKind.i64 ((↑fj : Int) + (1 : Int)) = ((fj + 1 : Nat) : Int) from wrap_eq (by omega) (by omega) (by omega))) ?_
          refine ra0 (D.int IntKind.i64 (↑(fj + (1 : Nat)) : Int)) ?_
          refine k_done (k_skip_block (k_skip_seq ?_))
          refine rv (D.int IntKind.i64 (↑(j + (1 : Nat)) : Int)) ?_
          refine rve (D.int IntKind.i64 (IntKind.wrap IntKind.i64 ((↑(j + (1 : Nat)) : Int) + (1 : Int)))) (.int IntKind.i64 ((j + (1 : Nat) + 1 : Nat) : Int)) (congrArg (D.int IntKind.i64) (show IntKind.wrap IntKind.i64 ((↑(j + (1 : Nat)) : Int) + (1 : Int)) = ((j + (1 : Nat) + 1 : Nat) : Int) from wrap_eq (by omega) (by omega) (by omega))) ?_
          refine ra0 (D.int IntKind.i64 (↑(j + (1 : Nat) + (1 : Nat)) : Int)) ?_
          refine k_done (k_skip_back ?_)
          exact ⟨j + 1, hjn, by omega, by rw [hfs]; kernel_rfl, rfl⟩
        · rw [if_neg hz] at hfs
          refine k_seq (k_seq ?_)
          refine rv (D.int IntKind.i64 (↑(j + (1 : Nat)) : Int)) ?_
          refine rv (D.int IntKind.i64 (IntKind.wrap IntKind.i64 (Int.tmod vars (12 : Int)))) ?_
          refine rv (D.bool (decide ((↑(j + (1 : Nat)) : Int) ≤ IntKind.wrap IntKind.i64 (Int.tmod vars (12 : Int))))) ?_
          refine k_done (k_skip_seq ?_)
          refine rkn 77 (decide ((↑(j + (1 : Nat)) : Int) ≤ IntKind.wrap IntKind.i64 (Int.tmod vars (12 : Int)))) true (decide_eq_true (by omega)) ?_
          refine kct (k_skip_seq (k_seq (k_block (k_seq ?_))))
          refine rv (D.msl (0 : Nat) (0 : Nat) (13 : Nat) (1 : Nat)) ?_
          refine rv (D.int IntKind.i64 (↑(j + (1 : Nat)) : Int)) ?_
          refine runs_indexM (kd := IntKind.i64) ((0 : Nat)) ((0 : Nat)) ((13 : Nat)) (j + (1 : Nat)) (by kernel_rfl) (by kernel_rfl) (by kernel_rfl) (by omega) ?_
          refine runs_loadP ((0 : Nat)) ((0 : Nat) + (j + (1 : Nat)) * (1 : Nat)) (ils s) _ (by kernel_rfl) (by kernel_rfl) (by kernel_rfl) (by assumption) ?_
          refine rv (D.bool (List.getD s (j + (1 : Nat)) (0 : Int) == (0 : Int))) ?_
          refine k_done (k_skip_seq ?_)
          refine rkn 84 (List.getD s (j + (1 : Nat)) (0 : Int) == (0 : Int)) false (decide_eq_false (by assumption)) ?_
          refine kcf (k_skip_block (k_skip_seq ?_))
          refine rv (D.int IntKind.i64 (↑(j + (1 : Nat)) : Int)) ?_
          refine rve (D.int IntKind.i64 (IntKind.wrap IntKind.i64 ((↑(j + (1 : Nat)) : Int) + (1 : Int)))) (.int IntKind.i64 ((j + (1 : Nat) + 1 : Nat) : Int)) (congrArg (D.int IntKind.i64) (show IntKind.wrap IntKind.i64 ((↑(j + (1 : Nat)) : Int) + (1 : Int)) = ((j + (1 : Nat) + 1 : Nat) : Int) from wrap_eq (by omega) (by omega) (by omega))) ?_
          refine ra0 (D.int IntKind.i64 (↑(j + (1 : Nat) + (1 : Nat)) : Int)) ?_
          refine k_done (k_skip_back ?_)
          exact ⟨j + 1, hjn, by omega, by rw [hfs]; kernel_rfl, rfl⟩
      · obtain rfl : j = n := by omega
        by_cases hag : ag = true
        · obtain ⟨k1, k2⟩ := hnot hag
          subst hag k1 k2
          refine k_seq (k_seq ?_)
          refine rv (D.int IntKind.i64 (↑(j + (1 : Nat)) : Int)) ?_
          refine rv (D.int IntKind.i64 (IntKind.wrap IntKind.i64 (Int.tmod vars (12 : Int)))) ?_
          refine rv (D.bool (decide ((↑(j + (1 : Nat)) : Int) ≤ IntKind.wrap IntKind.i64 (Int.tmod vars (12 : Int))))) ?_
          refine k_done (k_skip_seq ?_)
          refine rkn 77 (decide ((↑(j + (1 : Nat)) : Int) ≤ IntKind.wrap IntKind.i64 (Int.tmod vars (12 : Int)))) false (decide_eq_false (by omega)) ?_
          refine kcf (k_exit_seq (k_exit_back (k_exit_hit rfl (k_skip_seq (k_seq ?_)))))
          refine rv (D.sl (rows c) none) ?_
          refine rv (D.int IntKind.i64 (IntKind.wrap IntKind.i64 (Int.tmod vars (12 : Int)))) ?_
          refine runs_call ([D.sl (rows c) none, D.int IntKind.i64 (IntKind.wrap IntKind.i64 (Int.tmod vars (12 : Int))), D.int IntKind.i64 (100 : Int)]) (by kernel_rfl) (by kernel_rfl) (by kernel_rfl) (by kernel_rfl) (hs) (by kernel_rfl) ?_
          refine rgf (D.lptr (15 : Nat) (0 : Nat)) ([Obj.cells (ils s)]) ?_
          refine rgf (D.junk) ([Obj.cells (ils s)]) ?_
          refine k_done (k_skip_seq (k_seq (k_seq ?_)))
          refine rv (D.bool true) ?_
          refine k_done (k_skip_seq (kct (k_seq ?_)))
          refine rv (D.lptr (15 : Nat) (0 : Nat)) ?_
          refine rv (D.int IntKind.i64 (2 : Int)) ?_
          refine rv (D.bool true) ?_
          refine rv (D.bool true) ?_
          refine rv (D.lptr (15 : Nat) (3 : Nat)) ?_
          refine rv (D.int IntKind.i64 (0 : Int)) ?_
          refine rv (D.bool true) ?_
          refine rv (D.bool true) ?_
          refine ra0 (D.bool true) ?_
          refine k_done (k_skip_seq (k_ret ?_))
          exact ⟨.inr rfl, by kernel_rfl, [.cells (ils s)], by kernel_rfl⟩
        · have hag' : ag = false := by simpa using hag
          obtain ⟨k1, k2, k3, k4⟩ := hmet hag'
          subst hag' k1 k2
          generalize freeU s j = fj at *
          refine k_seq (k_seq ?_)
          refine rv (D.int IntKind.i64 (↑(j + (1 : Nat)) : Int)) ?_
          refine rv (D.int IntKind.i64 (IntKind.wrap IntKind.i64 (Int.tmod vars (12 : Int)))) ?_
          refine rv (D.bool (decide ((↑(j + (1 : Nat)) : Int) ≤ IntKind.wrap IntKind.i64 (Int.tmod vars (12 : Int))))) ?_
          refine k_done (k_skip_seq ?_)
          refine rkn 77 (decide ((↑(j + (1 : Nat)) : Int) ≤ IntKind.wrap IntKind.i64 (Int.tmod vars (12 : Int)))) false (decide_eq_false (by omega)) ?_
          refine kcf (k_exit_seq (k_exit_back (k_exit_hit rfl (k_skip_seq (k_seq ?_)))))
          refine rv (D.sl (rows c) none) ?_
          refine rv (D.int IntKind.i64 (IntKind.wrap IntKind.i64 (Int.tmod vars (12 : Int)))) ?_
          refine runs_call ([D.sl (rows c) none, D.int IntKind.i64 (IntKind.wrap IntKind.i64 (Int.tmod vars (12 : Int))), D.int IntKind.i64 (100 : Int)]) (by kernel_rfl) (by kernel_rfl) (by kernel_rfl) (by kernel_rfl) (hs) (by kernel_rfl) ?_
          refine rgf (D.lptr (15 : Nat) (0 : Nat)) ([Obj.cells (ils s)]) ?_
          refine rgf (D.junk) ([Obj.cells (ils s)]) ?_
          refine k_done (k_skip_seq (k_seq (k_seq ?_)))
          refine rv (D.bool false) ?_
          refine k_done (k_skip_seq (kcf (k_skip_seq (k_seq (k_seq ?_)))))
          refine rv (D.lptr (15 : Nat) (0 : Nat)) ?_
          refine rv (D.int IntKind.i64 (1 : Int)) ?_
          refine rv (D.bool false) ?_
          refine rv (D.bool false) ?_
          refine rv (D.lptr (15 : Nat) (3 : Nat)) ?_
          refine rv (D.int IntKind.i64 (↑fj : Int)) ?_
          refine rv (D.int IntKind.i64 (↑fj : Int)) ?_
          refine rv (D.bool ((↑fj : Int) != (↑fj : Int))) ?_
          refine rv (D.bool ((↑fj : Int) != (↑fj : Int))) ?_
          refine rv (D.bool ((↑fj : Int) != (↑fj : Int))) ?_
          refine rkn 108 ((↑fj : Int) != (↑fj : Int)) false (bne_eq_false_iff_eq.2 (by omega)) ?_
          refine rv (D.lptr (15 : Nat) (1 : Nat)) ?_
          refine rv (D.sl (bools tr) none) ?_
          refine rve (D.int IntKind.i64 (↑(List.length (bools tr)) : Int)) (.int IntKind.i64 ((↑(List.length tr) : Int))) (by simp only [ints, eInt, rows, eInts, bools, eBool, trips, eTrip, i8s, List.length_map]) ?_
          refine rv (D.int IntKind.i64 (IntKind.wrap IntKind.i64 (Int.tmod vars (12 : Int)))) ?_
          refine rv (D.bool ((↑(List.length tr) : Int) != IntKind.wrap IntKind.i64 (Int.tmod vars (12 : Int)))) ?_
          refine rv (D.bool ((↑(List.length tr) : Int) != IntKind.wrap IntKind.i64 (Int.tmod vars (12 : Int)))) ?_
          refine k_done (k_skip_seq ?_)
          refine rkn 114 ((↑(List.length tr) : Int) != IntKind.wrap IntKind.i64 (Int.tmod vars (12 : Int))) false (bne_eq_false_iff_eq.2 (by omega)) ?_
          refine kcf (k_skip_seq (k_seq (k_seq ?_)))
          refine rv (D.int IntKind.i64 (1 : Int)) ?_
          refine k_done (k_skip_seq (k_block ?_))
          refine k_loop (fun k : Nat => f9c l vars (IntKind.wrap IntKind.i64 (Int.tmod vars (12 : Int))) c i fj ((j + 1 : Nat) : Int) 1 fj tr st ((k + 1 : Nat) : Int)) (fun _ => [.cells (ils s)]) (fun k => k ≤ j) (fun k => j - k) 0 (by kernel_rfl) rfl (by simp) (by intro s hs; omega) ?_
          intro k hk
          by_cases hkj : k < j
          · have hget : (ils s)[(0 : Nat) + (k + (1 : Nat)) * (1 : Nat)]? = some (D.int .i64 (s.getD (k + 1) 0)) := by
              have e : (0 : Nat) + (k + 1) * 1 = k + 1 := by omega
              rw [e, ils_get (by omega), List.getD_eq_getElem?_getD, List.getElem?_eq_getElem (by omega)]
              rfl
            have htr := k4 k (by omega)
            refine k_seq (k_seq ?_)
            refine rv (D.int IntKind.i64 (↑(k + (1 : Nat)) : Int)) ?_
            refine rv (D.int IntKind.i64 (IntKind.wrap IntKind.i64 (Int.tmod vars (12 : Int)))) ?_
            refine rv (D.bool (decide ((↑(k + (1 : Nat)) : Int) ≤ IntKind.wrap IntKind.i64 (Int.tmod vars (12 : Int))))) ?_
            refine k_done (k_skip_seq ?_)
            refine rkn 117 (decide ((↑(k + (1 : Nat)) : Int) ≤ IntKind.wrap IntKind.i64 (Int.tmod vars (12 : Int)))) true (decide_eq_true (by omega)) ?_
            refine kct (k_skip_seq (k_seq (k_block (k_seq ?_))))
            refine rv (D.lptr (15 : Nat) (1 : Nat)) ?_
            refine rv (D.sl (bools tr) none) ?_
            refine rv (D.int IntKind.i64 (↑(k + (1 : Nat)) : Int)) ?_
            refine rve (D.int IntKind.i64 (IntKind.wrap IntKind.i64 ((↑(k + (1 : Nat)) : Int) - (1 : Int)))) (.int IntKind.i64 ((k + (1 : Nat) - 1 : Nat) : Int)) (congrArg (D.int IntKind.i64) (show IntKind.wrap IntKind.i64 ((↑(k + (1 : Nat)) : Int) - (1 : Int)) = ((k + (1 : Nat) - 1 : Nat) : Int) from wrap_eq (by omega) (by omega) (by omega))) ?_
            refine runs_index (tr) (eBool) (o := none) (kd := IntKind.i64) (k + (1 : Nat) - (1 : Nat)) (by kernel_rfl) (by kernel_rfl) (by kernel_rfl) (by omega) (by kernel_rfl) ?_
            refine rv (D.bool tr[k + (1 : Nat) - (1 : Nat)]) ?_
            refine rv (D.msl (0 : Nat) (0 : Nat) (13 : Nat) (1 : Nat)) ?_
            refine rv (D.int IntKind.i64 (↑(k + (1 : Nat)) : Int)) ?_
            refine runs_indexM (kd := IntKind.i64) ((0 : Nat)) ((0 : Nat)) ((13 : Nat)) (k + (1 : Nat)) (by kernel_rfl) (by kernel_rfl) (by kernel_rfl) (by omega) ?_
            refine runs_loadP ((0 : Nat)) ((0 : Nat) + (k + (1 : Nat)) * (1 : Nat)) (ils s) _ (by kernel_rfl) (by kernel_rfl) (by kernel_rfl) (by assumption) ?_
            refine rv (D.bool (decide (List.getD s (k + (1 : Nat)) (0 : Int) ≥ (0 : Int)))) ?_
            refine rv (D.bool ((tr[k + (1 : Nat) - (1 : Nat)] == decide (List.getD s (k + (1 : Nat)) (0 : Int) ≥ (0 : Int))) != true)) ?_
            refine k_done (k_skip_seq ?_)
            refine rkn 131 ((tr[k + (1 : Nat) - (1 : Nat)] == decide (List.getD s (k + (1 : Nat)) (0 : Int) ≥ (0 : Int))) != true) false (by simp [ints, eInt, rows, eInts, bools, eBool, trips, eTrip, i8s, *]) ?_
            refine kcf (k_skip_block (k_skip_seq ?_))
            refine rv (D.int IntKind.i64 (↑(k + (1 : Nat)) : Int)) ?_
            refine rve (D.int IntKind.i64 (IntKind.wrap IntKind.i64 ((↑(k + (1 : Nat)) : Int) + (1 : Int)))) (.int IntKind.i64 ((k + (1 : Nat) + 1 : Nat) : Int)) (congrArg (D.int IntKind.i64) (show IntKind.wrap IntKind.i64 ((↑(k + (1 : Nat)) : Int) + (1 : Int)) = ((k + (1 : Nat) + 1 : Nat) : Int) from wrap_eq (by omega) (by omega) (by omega))) ?_
            refine ra0 (D.int IntKind.i64 (↑(k + (1 : Nat) + (1 : Nat)) : Int)) ?_
            refine k_done (k_skip_back ?_)
            exact ⟨k + 1, hkj, by omega, by kernel_rfl, rfl⟩
          · obtain rfl : k = j := by omega
            refine k_seq (k_seq ?_)
            refine rv (D.int IntKind.i64 (↑(k + (1 : Nat)) : Int)) ?_
            refine rv (D.int IntKind.i64 (IntKind.wrap IntKind.i64 (Int.tmod vars (12 : Int)))) ?_
            refine rv (D.bool (decide ((↑(k + (1 : Nat)) : Int) ≤ IntKind.wrap IntKind.i64 (Int.tmod vars (12 : Int))))) ?_
            refine k_done (k_skip_seq ?_)
            refine rkn 117 (decide ((↑(k + (1 : Nat)) : Int) ≤ IntKind.wrap IntKind.i64 (Int.tmod vars (12 : Int)))) false (decide_eq_false (by omega)) ?_
            refine kcf (k_exit_seq (k_exit_back (k_exit_hit rfl (k_skip_seq (k_seq ?_)))))
            refine rv (D.bool true) ?_
            refine k_done (k_skip_seq (k_ret ?_))
            exact ⟨.inr rfl, by kernel_rfl, [.cells (ils s)], by kernel_rfl⟩
    · refine k_seq (k_seq ?_)
      refine rv (D.int IntKind.i64 (↑i : Int)) ?_
      refine rv (D.sl (i8s l) none) ?_
      refine rve (D.int IntKind.i64 (↑(List.length (i8s l)) : Int)) (.int IntKind.i64 ((↑(List.length l) : Int))) (by simp only [ints, eInt, rows, eInts, bools, eBool, trips, eTrip, i8s, List.length_map]) ?_
      refine rv (D.bool (decide ((↑i : Int) < (↑(List.length l) : Int)))) ?_
      refine rv (D.bool (decide ((↑i : Int) < (↑(List.length l) : Int)))) ?_
      refine rkn 28 (decide ((↑i : Int) < (↑(List.length l) : Int))) false (decide_eq_false (by omega)) ?_
      refine rno (rno ?_)
      refine rv (D.bool false) ?_
      refine k_done (k_skip_seq (kcf (k_exit_seq (k_exit_back (k_exit_hit rfl (k_skip_seq (k_seq ?_)))))))
      refine rv (D.int IntKind.i64 (0 : Int)) ?_
      refine k_done (k_skip_seq (k_seq (k_seq ?_)))
      refine rv (D.int IntKind.i64 (1 : Int)) ?_
      refine k_done (k_skip_seq (k_block ?_))
      refine k_loop (fun j : Nat => f9b l vars (IntKind.wrap IntKind.i64 (Int.tmod vars (12 : Int))) c ag i (freeU s j) ((j + 1 : Nat) : Int)) (fun _ => [.cells (ils s)]) (fun j => j ≤ n) (fun j => n - j) 0 (by rw [free_zero]; kernel_rfl) rfl (by simp) (by intro s hs; omega) ?_
      intro j hj
      have hfr : freeU s j ≤ j := freeU_le s j
      by_cases hjn : j < n
      · have hget : (ils s)[(0 : Nat) + (j + (1 : Nat)) * (1 : Nat)]? = some (D.int .i64 (s.getD (j + 1) 0)) := by
          have e : (0 : Nat) + (j + 1) * 1 = j + 1 := by omega
          rw [e, ils_get (by omega), List.getD_eq_getElem?_getD, List.getElem?_eq_getElem (by omega)]
          rfl
        have hfs := free_succ (s := s) (i := j) (by omega)
        generalize freeU s j = fj at *
        by_cases hz : s.getD (j + 1) 0 = 0
        · rw [if_pos hz] at hfs
          refine k_seq (k_seq ?_)
          refine rv (D.int IntKind.i64 (↑(j + (1 : Nat)) : Int)) ?_
          refine rv (D.int IntKind.i64 (IntKind.wrap IntKind.i64 (Int.tmod vars (12 : Int)))) ?_
          refine rv (D.bool (decide ((↑(j + (1 : Nat)) : Int) ≤ IntKind.wrap IntKind.i64 (Int.tmod vars (12 : Int))))) ?_
          refine k_done (k_skip_seq ?_)
          refine rkn 77 (decide ((↑(j + (1 : Nat)) : Int) ≤ IntKind.wrap IntKind.i64 (Int.tmod vars (12 : Int)))) true (decide_eq_true (by omega)) ?_
          refine kct (k_skip_seq (k_seq (k_block (k_seq ?_))))
          refine rv (D.msl (0 : Nat) (0 : Nat) (13 : Nat) (1 : Nat)) ?_
          refine rv (D.int IntKind.i64 (↑(j + (1 : Nat)) : Int)) ?_
          refine runs_indexM (kd := IntKind.i64) ((0 : Nat)) ((0 : Nat)) ((13 : Nat)) (j + (1 : Nat)) (by kernel_rfl) (by kernel_rfl) (by kernel_rfl) (by omega) ?_
          refine runs_loadP ((0 : Nat)) ((0 : Nat) + (j + (1 : Nat)) * (1 : Nat)) (ils s) _ (by kernel_rfl) (by kernel_rfl) (by kernel_rfl) (by assumption) ?_
          refine rv (D.bool (List.getD s (j + (1 : Nat)) (0 : Int) == (0 : Int))) ?_
          refine k_done (k_skip_seq ?_)
          refine rkn 84 (List.getD s (j + (1 : Nat)) (0 : Int) == (0 : Int)) true (decide_eq_true (by assumption)) ?_
          refine kct ?_
          refine rv (D.int IntKind.i64 (↑fj : Int)) ?_
          refine rve (D.int IntKind.i64 (IntKind.wrap IntKind.i64 ((↑fj : Int) + (1 : Int)))) (.int IntKind.i64 ((fj + 1 : Nat) : Int)) (congrArg (D.int IntKind.i64) (show IntKind.wrap IntKind.i64 ((↑fj : Int) + (1 : Int)) = ((fj + 1 : Nat) : Int) from wrap_eq (by omega) (by omega) (by omega))) ?_
          refine ra0 (D.int IntKind.i64 (↑(fj + (1 : Nat)) : Int)) ?_
          refine k_done (k_skip_block (k_skip_seq ?_))
          refine rv (D.int IntKind.i64 (↑(j + (1 : Nat)) : Int)) ?_
          refine rve (D.int IntKind.i64 (IntKind.wrap IntKind.i64 ((↑(j + (1 : Nat)) : Int) + (1 : Int)))) (.int IntKind.i64 ((j + (1 : Nat) + 1 : Nat) : Int)) (congrArg (D.int IntKind.i64) (show IntKind.wrap IntKind.i64 ((↑(j + (1 : Nat)) : Int) + (1 : Int)) = ((j + (1 : Nat) + 1 : Nat) : Int) from wrap_eq (by omega) (by omega) (by omega))) ?_
          refine ra0 (D.int IntKind.i64 (↑(j + (1 : Nat) + (1 : Nat)) : Int)) ?_
          refine k_done (k_skip_back ?_)
          exact ⟨j + 1, hjn, by omega, by rw [hfs]; kernel_rfl, rfl⟩
        · rw [if_neg hz] at hfs
          refine k_seq (k_seq ?_)
          refine rv (D.int IntKind.i64 (↑(j + (1 : Nat)) : Int)) ?_
          refine rv (D.int IntKind.i64 (IntKind.wrap IntKind.i64 (Int.tmod vars (12 : Int)))) ?_
          refine rv (D.bool (decide ((↑(j + (1 : Nat)) : Int) ≤ IntKind.wrap IntKind.i64 (Int.tmod vars (12 : Int))))) ?_
          refine k_done (k_skip_seq ?_)
          refine rkn 77 (decide ((↑(j + (1 : Nat)) : Int) ≤ IntKind.wrap IntKind.i64 (Int.tmod vars (12 : Int)))) true (decide_eq_true (by omega)) ?_
          refine kct (k_skip_seq (k_seq (k_block (k_seq ?_))))
          refine rv (D.msl (0 : Nat) (0 : Nat) (13 : Nat) (1 : Nat)) ?_
          refine rv (D.int IntKind.i64 (↑(j + (1 : Nat)) : Int)) ?_
          refine runs_indexM (kd := IntKind.i64) ((0 : Nat)) ((0 : Nat)) ((13 : Nat)) (j + (1 : Nat)) (by kernel_rfl) (by kernel_rfl) (by kernel_rfl) (by omega) ?_
          refine runs_loadP ((0 : Nat)) ((0 : Nat) + (j + (1 : Nat)) * (1 : Nat)) (ils s) _ (by kernel_rfl) (by kernel_rfl) (by kernel_rfl) (by assumption) ?_
          refine rv (D.bool (List.getD s (j + (1 : Nat)) (0 : Int) == (0 : Int))) ?_
          refine k_done (k_skip_seq ?_)
          refine rkn 84 (List.getD s (j + (1 : Nat)) (0 : Int) == (0 : Int)) false (decide_eq_false (by assumption)) ?_
          refine kcf (k_skip_block (k_skip_seq ?_))
          refine rv (D.int IntKind.i64 (↑(j + (1 : Nat)) : Int)) ?_
          refine rve (D.int IntKind.i64 (IntKind.wrap IntKind.i64 ((↑(j + (1 : Nat)) : Int) + (1 : Int)))) (.int IntKind.i64 ((j + (1 : Nat) + 1 : Nat) : Int)) (congrArg (D.int IntKind.i64) (show IntKind.wrap IntKind.i64 ((↑(j + (1 : Nat)) : Int) + (1 : Int)) = ((j + (1 : Nat) + 1 : Nat) : Int) from wrap_eq (by omega) (by omega) (by omega))) ?_
          refine ra0 (D.int IntKind.i64 (↑(j + (1 : Nat) + (1 : Nat)) : Int)) ?_
          refine k_done (k_skip_back ?_)
          exact ⟨j + 1, hjn, by omega, by rw [hfs]; kernel_rfl, rfl⟩
      · obtain rfl : j = n := by omega
        by_cases hag : ag = true
        · obtain ⟨k1, k2⟩ := hnot hag
          subst hag k1 k2
          refine k_seq (k_seq ?_)
          refine rv (D.int IntKind.i64 (↑(j + (1 : Nat)) : Int)) ?_
          refine rv (D.int IntKind.i64 (IntKind.wrap IntKind.i64 (Int.tmod vars (12 : Int)))) ?_
          refine rv (D.bool (decide ((↑(j + (1 : Nat)) : Int) ≤ IntKind.wrap IntKind.i64 (Int.tmod vars (12 : Int))))) ?_
          refine k_done (k_skip_seq ?_)
          refine rkn 77 (decide ((↑(j + (1 : Nat)) : Int) ≤ IntKind.wrap IntKind.i64 (Int.tmod vars (12 : Int)))) false (decide_eq_false (by omega)) ?_
          refine kcf (k_exit_seq (k_exit_back (k_exit_hit rfl (k_skip_seq (k_seq ?_)))))
          refine rv (D.sl (rows c) none) ?_
          refine rv (D.int IntKind.i64 (IntKind.wrap IntKind.i64 (Int.tmod vars (12 : Int)))) ?_
          refine runs_call ([D.sl (rows c) none, D.int IntKind.i64 (IntKind.wrap IntKind.i64 (Int.tmod vars (12 : Int))), D.int IntKind.i64 (100 : Int)]) (by kernel_rfl) (by kernel_rfl) (by kernel_rfl) (by kernel_rfl) (hs) (by kernel_rfl) ?_
          refine rgf (D.lptr (15 : Nat) (0 : Nat)) ([Obj.cells (ils s)]) ?_
          refine rgf (D.junk) ([Obj.cells (ils s)]) ?_
          refine k_done (k_skip_seq (k_seq (k_seq ?_)))
          refine rv (D.bool true) ?_
          refine k_done (k_skip_seq (kct (k_seq ?_)))
          refine rv (D.lptr (15 : Nat) (0 : Nat)) ?_
          refine rv (D.int IntKind.i64 (2 : Int)) ?_
          refine rv (D.bool true) ?_
          refine rv (D.bool true) ?_
          refine rv (D.lptr (15 : Nat) (3 : Nat)) ?_
          refine rv (D.int IntKind.i64 (0 : Int)) ?_
          refine rv (D.bool true) ?_
          refine rv (D.bool true) ?_
          refine ra0 (D.bool true) ?_
          refine k_done (k_skip_seq (k_ret ?_))
          exact ⟨.inr rfl, by kernel_rfl, [.cells (ils s)], by kernel_rfl⟩
        · have hag' : ag = false := by simpa using hag
          obtain ⟨k1, k2, k3, k4⟩ := hmet hag'
          subst hag' k1 k2
          generalize freeU s j = fj at *
          refine k_seq (k_seq ?_)
          refine rv (D.int IntKind.i64 (↑(j + (1 : Nat)) : Int)) ?_
          refine rv (D.int IntKind.i64 (IntKind.wrap IntKind.i64 (Int.tmod vars (12 : Int)))) ?_
          refine rv (D.bool (decide ((↑(j + (1 : Nat)) : Int) ≤ IntKind.wrap IntKind.i64 (Int.tmod vars (12 : Int))))) ?_
          refine k_done (k_skip_seq ?_)
          refine rkn 77 (decide ((↑(j + (1 : Nat)) : Int) ≤ IntKind.wrap IntKind.i64 (Int.tmod vars (12 : Int)))) false (decide_eq_false (by omega)) ?_
          refine kcf (k_exit_seq (k_exit_back (k_exit_hit rfl (k_skip_seq (k_seq ?_)))))
          refine rv (D.sl (rows c) none) ?_
          refine rv (D.int IntKind.i64 (IntKind.wrap IntKind.i64 (Int.tmod vars (12 : Int)))) ?_
          refine runs_call ([D.sl (rows c) none, D.int IntKind.i64 (IntKind.wrap IntKind.i64 (Int.tmod vars (12 : Int))), D.int IntKind.i64 (100 : Int)]) (by kernel_rfl) (by kernel_rfl) (by kernel_rfl) (by kernel_rfl) (hs) (by kernel_rfl) ?_
          refine rgf (D.lptr (15 : Nat) (0 : Nat)) ([Obj.cells (ils s)]) ?_
          refine rgf (D.junk) ([Obj.cells (ils s)]) ?_
          refine k_done (k_skip_seq (k_seq (k_seq ?_)))
          refine rv (D.bool false) ?_
          refine k_done (k_skip_seq (kcf (k_skip_seq (k_seq (k_seq ?_)))))
          refine rv (D.lptr (15 : Nat) (0 : Nat)) ?_
          refine rv (D.int IntKind.i64 (1 : Int)) ?_
          refine rv (D.bool false) ?_
          refine rv (D.bool false) ?_
          refine rv (D.lptr (15 : Nat) (3 : Nat)) ?_
          refine rv (D.int IntKind.i64 (↑fj : Int)) ?_
          refine rv (D.int IntKind.i64 (↑fj : Int)) ?_
          refine rv (D.bool ((↑fj : Int) != (↑fj : Int))) ?_
          refine rv (D.bool ((↑fj : Int) != (↑fj : Int))) ?_
          refine rv (D.bool ((↑fj : Int) != (↑fj : Int))) ?_
          refine rkn 108 ((↑fj : Int) != (↑fj : Int)) false (bne_eq_false_iff_eq.2 (by omega)) ?_
          refine rv (D.lptr (15 : Nat) (1 : Nat)) ?_
          refine rv (D.sl (bools tr) none) ?_
          refine rve (D.int IntKind.i64 (↑(List.length (bools tr)) : Int)) (.int IntKind.i64 ((↑(List.length tr) : Int))) (by simp only [ints, eInt, rows, eInts, bools, eBool, trips, eTrip, i8s, List.length_map]) ?_
          refine rv (D.int IntKind.i64 (IntKind.wrap IntKind.i64 (Int.tmod vars (12 : Int)))) ?_
          refine rv (D.bool ((↑(List.length tr) : Int) != IntKind.wrap IntKind.i64 (Int.tmod vars (12 : Int)))) ?_
          refine rv (D.bool ((↑(List.length tr) : Int) != IntKind.wrap IntKind.i64 (Int.tmod vars (12 : Int)))) ?_
          refine k_done (k_skip_seq ?_)
          refine rkn 114 ((↑(List.length tr) : Int) != IntKind.wrap IntKind.i64 (Int.tmod vars (12 : Int))) false (bne_eq_false_iff_eq.2 (by omega)) ?_
          refine kcf (k_skip_seq (k_seq (k_seq ?_)))
          refine rv (D.int IntKind.i64 (1 : Int)) ?_
          refine k_done (k_skip_seq (k_block ?_))
          refine k_loop (fun k : Nat => f9c l vars (IntKind.wrap IntKind.i64 (Int.tmod vars (12 : Int))) c i fj ((j + 1 : Nat) : Int) 1 fj tr st ((k + 1 : Nat) : Int)) (fun _ => [.cells (ils s)]) (fun k => k ≤ j) (fun k => j - k) 0 (by kernel_rfl) rfl (by simp) (by intro s hs; omega) ?_
          intro k hk
          by_cases hkj : k < j
          · have hget : (ils s)[(0 : Nat) + (k + (1 : Nat)) * (1 : Nat)]? = some (D.int .i64 (s.getD (k + 1) 0)) := by
              have e : (0 : Nat) + (k + 1) * 1 = k + 1 := by omega
              rw [e, ils_get (by omega), List.getD_eq_getElem?_getD, List.getElem?_eq_getElem (by omega)]
              rfl
            have htr := k4 k (by omega)
            refine k_seq (k_seq ?_)
            refine rv (D.int IntKind.i64 (↑(k + (1 : Nat)) : Int)) ?_
            refine rv (D.int IntKind.i64 (IntKind.wrap IntKind.i64 (Int.tmod vars (12 : Int)))) ?_
            refine rv (D.bool (decide ((↑(k + (1 : Nat)) : Int) ≤ IntKind.wrap IntKind.i64 (Int.tmod vars (12 : Int))))) ?_
            refine k_done (k_skip_seq ?_)
            refine rkn 117 (decide ((↑(k + (1 : Nat)) : Int) ≤ IntKind.wrap IntKind.i64 (Int.tmod vars (12 : Int)))) true (decide_eq_true (by omega)) ?_
            refine kct (k_skip_seq (k_seq (k_block (k_seq ?_))))
            refine rv (D.lptr (15 : Nat) (1 : Nat)) ?_
            refine rv (D.sl (bools tr) none) ?_
            refine rv (D.int IntKind.i64 (↑(k + (1 : Nat)) : Int)) ?_
            refine rve (D.int IntKind.i64 (IntKind.wrap IntKind.i64 ((↑(k + (1 : Nat)) : Int) - (1 : Int)))) (.int IntKind.i64 ((k + (1 : Nat) - 1 : Nat) : Int)) (congrArg (D.int IntKind.i64) (show IntKind.wrap IntKind.i64 ((↑(k + (1 : Nat)) : Int) - (1 : Int)) = ((k + (1 : Nat) - 1 : Nat) : Int) from wrap_eq (by omega) (by omega) (by omega))) ?_
            refine runs_index (tr) (eBool) (o := none) (kd := IntKind.i64) (k + (1 : Nat) - (1 : Nat)) (by kernel_rfl) (by kernel_rfl) (by kernel_rfl) (by omega) (by kernel_rfl) ?_
            refine rv (D.bool tr[k + (1 : Nat) - (1 : Nat)]) ?_
            refine rv (D.msl (0 : Nat) (0 : Nat) (13 : Nat) (1 : Nat)) ?_
            refine rv (D.int IntKind.i64 (↑(k + (1 : Nat)) : Int)) ?_
            refine runs_indexM (kd := IntKind.i64) ((0 : Nat)) ((0 : Nat)) ((13 : Nat)) (k + (1 : Nat)) (by kernel_rfl) (by kernel_rfl) (by kernel_rfl) (by omega) ?_
            refine runs_loadP ((0 : Nat)) ((0 : Nat) + (k + (1 : Nat)) * (1 : Nat)) (ils s) _ (by kernel_rfl) (by kernel_rfl) (by kernel_rfl) (by assumption) ?_
            refine rv (D.bool (decide (List.getD s (k + (1 : Nat)) (0 : Int) ≥ (0 : Int)))) ?_
            refine rv (D.bool ((tr[k + (1 : Nat) - (1 : Nat)] == decide (List.getD s (k + (1 : Nat)) (0 : Int) ≥ (0 : Int))) != true)) ?_
            refine k_done (k_skip_seq ?_)
            refine rkn 131 ((tr[k + (1 : Nat) - (1 : Nat)] == decide (List.getD s (k + (1 : Nat)) (0 : Int) ≥ (0 : Int))) != true) false (by simp [ints, eInt, rows, eInts, bools, eBool, trips, eTrip, i8s, *]) ?_
            refine kcf (k_skip_block (k_skip_seq ?_))
            refine rv (D.int IntKind.i64 (↑(k + (1 : Nat)) : Int)) ?_
            refine rve (D.int IntKind.i64 (IntKind.wrap IntKind.i64 ((↑(k + (1 : Nat)) : Int) + (1 : Int)))) (.int IntKind.i64 ((k + (1 : Nat) + 1 : Nat) : Int)) (congrArg (D.int IntKind.i64) (show IntKind.wrap IntKind.i64 ((↑(k + (1 : Nat)) : Int) + (1 : Int)) = ((k + (1 : Nat) + 1 : Nat) : Int) from wrap_eq (by omega) (by omega) (by omega))) ?_
            refine ra0 (D.int IntKind.i64 (↑(k + (1 : Nat) + (1 : Nat)) : Int)) ?_
            refine k_done (k_skip_back ?_)
            exact ⟨k + 1, hkj, by omega, by kernel_rfl, rfl⟩
          · obtain rfl : k = j := by omega
            refine k_seq (k_seq ?_)
            refine rv (D.int IntKind.i64 (↑(k + (1 : Nat)) : Int)) ?_
            refine rv (D.int IntKind.i64 (IntKind.wrap IntKind.i64 (Int.tmod vars (12 : Int)))) ?_
            refine rv (D.bool (decide ((↑(k + (1 : Nat)) : Int) ≤ IntKind.wrap IntKind.i64 (Int.tmod vars (12 : Int))))) ?_
            refine k_done (k_skip_seq ?_)
            refine rkn 117 (decide ((↑(k + (1 : Nat)) : Int) ≤ IntKind.wrap IntKind.i64 (Int.tmod vars (12 : Int)))) false (decide_eq_false (by omega)) ?_
            refine kcf (k_exit_seq (k_exit_back (k_exit_hit rfl (k_skip_seq (k_seq ?_)))))
            refine rv (D.bool true) ?_
            refine k_done (k_skip_seq (k_ret ?_))
            exact ⟨.inr rfl, by kernel_rfl, [.cells (ils s)], by kernel_rfl⟩
end Go.Abs.B
