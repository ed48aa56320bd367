import Derived.Test.YtmmjjkahaemlkaaKont2
import Derived.Test.YtmmjjkahaemlkaaS16
set_option linter.unusedVariables false
set_option linter.unusedSimpArgs false
/-
  The statement ProofLess as the machine code sees it.
-/
namespace Go.Abs.B
open Go Go.Abs
set_option maxRecDepth 8000
attribute [local irreducible] callN runC evalOp

def f11 (l : List (List Int)) (V : Int) (more : List Int) (tr : List Bool) (st : List Step3) (td : Int) (s : List Step3) (i : Int) : Fr :=
  Fr.mk ([.sl (rows l) none, .int .i64 V, .sl (ints more) none, .junk, .junk, .junk, .bool false, .junk, .junk, .lptr 9 0, .int .i64 l.length, .sl (rows (l ++ [more])) (some 34), .sl (trips s) (some 55), .int .i64 i] ++ List.replicate 109 .junk)
    ((List.replicate 123 none).set 9 (some [.int .i64 2, .sl (bools tr) none, .sl (trips st) none, .int .i64 td])) []
def f11b (l : List (List Int)) (V : Int) (more : List Int) (tr : List Bool) (st : List Step3) (td : Int) (s : List Step3) (i : Int) (em : Bool) (k : Int) : Fr :=
  Fr.mk ([.sl (rows l) none, .int .i64 V, .sl (ints more) none, .junk, .junk, .junk, .bool false, .junk, .junk, .lptr 9 0, .int .i64 l.length, .sl (rows (l ++ [more])) (some 34), .sl (trips s) (some 55), .int .i64 i, .junk, .bool em, .int .i64 k] ++ List.replicate 106 .junk)
    ((List.replicate 123 none).set 9 (some [.int .i64 2, .sl (bools tr) none, .sl (trips st) none, .int .i64 td])) []
def emX (l : List (List Int)) : Bool := l.any fun c => (c.length : Int) == 0
theorem emX_iff (l : List (List Int)) : emX l = decide ([] ∈ l) := by
  rw [Bool.eq_iff_iff]
  unfold emX
  simp only [List.any_eq_true, decide_eq_true_eq, beq_iff_eq]
  constructor
  · rintro ⟨c, hc, h⟩
    have : c = [] := List.eq_nil_of_length_eq_zero (by omega)
    rw [this] at hc
    exact hc
  · intro h
    exact ⟨[], h, rfl⟩
theorem emX_succ {l : List (List Int)} {i : Nat} (h : i < l.length) : emX (l.take (i + 1)) = (emX (l.take i) || ((l[i].length : Int) == 0)) := by
  unfold emX
  rw [any_take h]
set_option maxHeartbeats 1600000 in
theorem lawLess_ok (l : List (List Int)) (vars : Int) (more : List Int) (o1 o2 : Option Nat) (hmax : more.length ≤ 9223372036854775807) : ∃ σ, callN T 600011 11 [.sl (rows l) o1, .int .i64 vars, .sl (ints more) o2] [] = some (.bool true, σ) := by
  have htd := tidy_ok 600009 l none [] (by omega)
  by_cases h1 : tidyB l = true
  case neg =>
    have h1' : tidyB l = false := by simpa using h1
    rw [h1'] at htd
    refine ⟨[], ?_⟩
    refine call_of (m := m11) rfl rfl (by decide) (k_start ?_)
    unfold m11
    refine k_seq ?_
    refine rv (D.bool false) ?_
    refine k_done (k_skip_seq (k_seq ?_))
    refine runs_call ([]) (by kernel_rfl) (by kernel_rfl) (by kernel_rfl) (by kernel_rfl) (awakeS_ok) (by kernel_rfl) ?_
    refine ra0 (D.bool true) ?_
    refine k_done (k_skip_seq (k_seq (k_seq ?_)))
    refine rv (D.bool true) ?_
    refine rv (D.bool false) ?_
    refine k_done (k_skip_seq (kcf (k_skip_seq (k_seq ?_))))
    refine rv (D.sl (rows l) none) ?_
    refine runs_call ([D.sl (rows l) none]) (by kernel_rfl) (by kernel_rfl) (by kernel_rfl) (by kernel_rfl) (htd) (by kernel_rfl) ?_
    refine ra0 (D.bool false) ?_
    refine k_done (k_skip_seq (k_seq (k_seq ?_)))
    refine rv (D.bool false) ?_
    refine rv (D.bool true) ?_
    refine rv (D.bool true) ?_
    refine rno (rno ?_)
    refine rv (D.bool true) ?_
    refine rv (D.bool true) ?_
    refine rno (rno (rno ?_))
    refine rv (D.bool true) ?_
    refine rv (D.bool true) ?_
    refine rno (rno (rno (rno ?_)))
    refine rv (D.bool true) ?_
    refine k_done (k_skip_seq (kct (k_seq ?_)))
    refine rv (D.bool true) ?_
    refine k_done (k_skip_seq (k_ret ?_))
    exact ⟨.inr rfl, by kernel_rfl, by kernel_rfl⟩
  rw [h1] at htd
  have hsz : l.length ≤ 60 ∧ ∀ c ∈ l, c.length ≤ 12 := by
    have := h1
    unfold tidyB at this
    simp only [Bool.and_eq_true, decide_eq_true_eq, List.all_eq_true] at this
    exact this
  by_cases h2 : vars ≤ 9
  case neg =>
    refine ⟨[], ?_⟩
    refine call_of (m := m11) rfl rfl (by decide) (k_start ?_)
    unfold m11
    refine k_seq ?_
    refine rv (D.bool false) ?_
    refine k_done (k_skip_seq (k_seq ?_))
    refine runs_call ([]) (by kernel_rfl) (by kernel_rfl) (by kernel_rfl) (by kernel_rfl) (awakeS_ok) (by kernel_rfl) ?_
    refine ra0 (D.bool true) ?_
    refine k_done (k_skip_seq (k_seq (k_seq ?_)))
    refine rv (D.bool true) ?_
    refine rv (D.bool false) ?_
    refine k_done (k_skip_seq (kcf (k_skip_seq (k_seq ?_))))
    refine rv (D.sl (rows l) none) ?_
    refine runs_call ([D.sl (rows l) none]) (by kernel_rfl) (by kernel_rfl) (by kernel_rfl) (by kernel_rfl) (htd) (by kernel_rfl) ?_
    refine ra0 (D.bool true) ?_
    refine k_done (k_skip_seq (k_seq (k_seq ?_)))
    refine rv (D.bool true) ?_
    refine rv (D.bool false) ?_
    refine rv (D.bool false) ?_
    refine rv (D.int IntKind.i64 vars) ?_
    refine rv (D.bool (decide (vars > (9 : Int)))) ?_
    refine rv (D.bool (decide (vars > (9 : Int)))) ?_
    refine rv (D.bool (decide (vars > (9 : Int)))) ?_
    refine rkn 28 (decide (vars > (9 : Int))) true (decide_eq_true (by omega)) ?_
    refine rno (rno (rno ?_))
    refine rv (D.bool true) ?_
    refine rv (D.bool true) ?_
    refine rno (rno (rno (rno ?_)))
    refine rv (D.bool true) ?_
    refine k_done (k_skip_seq (kct (k_seq ?_)))
    refine rv (D.bool true) ?_
    refine k_done (k_skip_seq (k_ret ?_))
    exact ⟨.inr rfl, by kernel_rfl, by kernel_rfl⟩
  by_cases h12 : more.length ≤ 12
  case neg =>
    refine ⟨[], ?_⟩
    refine call_of (m := m11) rfl rfl (by decide) (k_start ?_)
    unfold m11
    refine k_seq ?_
    refine rv (D.bool false) ?_
    refine k_done (k_skip_seq (k_seq ?_))
    refine runs_call ([]) (by kernel_rfl) (by kernel_rfl) (by kernel_rfl) (by kernel_rfl) (awakeS_ok) (by kernel_rfl) ?_
    refine ra0 (D.bool true) ?_
    refine k_done (k_skip_seq (k_seq (k_seq ?_)))
    refine rv (D.bool true) ?_
    refine rv (D.bool false) ?_
    refine k_done (k_skip_seq (kcf (k_skip_seq (k_seq ?_))))
    refine rv (D.sl (rows l) none) ?_
    refine runs_call ([D.sl (rows l) none]) (by kernel_rfl) (by kernel_rfl) (by kernel_rfl) (by kernel_rfl) (htd) (by kernel_rfl) ?_
    refine ra0 (D.bool true) ?_
    refine k_done (k_skip_seq (k_seq (k_seq ?_)))
    refine rv (D.bool true) ?_
    refine rv (D.bool false) ?_
    refine rv (D.bool false) ?_
    refine rv (D.int IntKind.i64 vars) ?_
    refine rv (D.bool (decide (vars > (9 : Int)))) ?_
    refine rv (D.bool (decide (vars > (9 : Int)))) ?_
    refine rv (D.bool (decide (vars > (9 : Int)))) ?_
    refine rkn 28 (decide (vars > (9 : Int))) false (decide_eq_false (by omega)) ?_
    refine rv (D.sl (ints more) none) ?_
    refine rve (D.int IntKind.i64 (↑(List.length (ints more)) : Int)) (.int IntKind.i64 ((↑(List.length more) : Int))) (by simp only [ints, eInt, rows, eInts, bools, eBool, trips, eTrip, i8s, List.length_map]) ?_
    refine rv (D.bool (decide ((↑(List.length more) : Int) > (12 : Int)))) ?_
    refine rv (D.bool (decide ((↑(List.length more) : Int) > (12 : Int)))) ?_
    refine rv (D.bool (decide ((↑(List.length more) : Int) > (12 : Int)))) ?_
    refine rkn 33 (decide ((↑(List.length more) : Int) > (12 : Int))) true (decide_eq_true (by omega)) ?_
    refine rno (rno (rno (rno ?_)))
    refine rv (D.bool true) ?_
    refine k_done (k_skip_seq (kct (k_seq ?_)))
    refine rv (D.bool true) ?_
    refine k_done (k_skip_seq (k_ret ?_))
    exact ⟨.inr rfl, by kernel_rfl, by kernel_rfl⟩
  have hck := refCheck20_ok 600009 l vars none [] (by omega) (by omega) (fun c hc => by have := hsz.2 c hc; omega)
  by_cases h3 : checkC l vars = 0
  case neg =>
    have h3' : checkC l vars = 1 := by
      unfold checkC at h3 ⊢
      split at h3
      · rename_i h; exact if_pos h
      · exact absurd rfl h3
    rw [h3'] at hck
    refine ⟨[], ?_⟩
    refine call_of (m := m11) rfl rfl (by decide) (k_start ?_)
    unfold m11
    refine k_seq ?_
    refine rv (D.bool false) ?_
    refine k_done (k_skip_seq (k_seq ?_))
    refine runs_call ([]) (by kernel_rfl) (by kernel_rfl) (by kernel_rfl) (by kernel_rfl) (awakeS_ok) (by kernel_rfl) ?_
    refine ra0 (D.bool true) ?_
    refine k_done (k_skip_seq (k_seq (k_seq ?_)))
    refine rv (D.bool true) ?_
    refine rv (D.bool false) ?_
    refine k_done (k_skip_seq (kcf (k_skip_seq (k_seq ?_))))
    refine rv (D.sl (rows l) none) ?_
    refine runs_call ([D.sl (rows l) none]) (by kernel_rfl) (by kernel_rfl) (by kernel_rfl) (by kernel_rfl) (htd) (by kernel_rfl) ?_
    refine ra0 (D.bool true) ?_
    refine k_done (k_skip_seq (k_seq (k_seq ?_)))
    refine rv (D.bool true) ?_
    refine rv (D.bool false) ?_
    refine rv (D.bool false) ?_
    refine rv (D.int IntKind.i64 vars) ?_
    refine rv (D.bool (decide (vars > (9 : Int)))) ?_
    refine rv (D.bool (decide (vars > (9 : Int)))) ?_
    refine rv (D.bool (decide (vars > (9 : Int)))) ?_
    refine rkn 28 (decide (vars > (9 : Int))) false (decide_eq_false (by omega)) ?_
    refine rv (D.sl (ints more) none) ?_
    refine rve (D.int IntKind.i64 (↑(List.length (ints more)) : Int)) (.int IntKind.i64 ((↑(List.length more) : Int))) (by simp only [ints, eInt, rows, eInts, bools, eBool, trips, eTrip, i8s, List.length_map]) ?_
    refine rv (D.bool (decide ((↑(List.length more) : Int) > (12 : Int)))) ?_
    refine rv (D.bool (decide ((↑(List.length more) : Int) > (12 : Int)))) ?_
    refine rv (D.bool (decide ((↑(List.length more) : Int) > (12 : Int)))) ?_
    refine rkn 33 (decide ((↑(List.length more) : Int) > (12 : Int))) false (decide_eq_false (by omega)) ?_
    refine rv (D.sl (rows l) none) ?_
    refine rv (D.int IntKind.i64 vars) ?_
    refine runs_call ([D.sl (rows l) none, D.int IntKind.i64 vars]) (by kernel_rfl) (by kernel_rfl) (by kernel_rfl) (by kernel_rfl) (hck) (by kernel_rfl) ?_
    refine rv (D.bool true) ?_
    refine rv (D.bool true) ?_
    refine k_done (k_skip_seq (kct (k_seq ?_)))
    refine rv (D.bool true) ?_
    refine k_done (k_skip_seq (k_ret ?_))
    exact ⟨.inr rfl, by kernel_rfl, by kernel_rfl⟩
  rw [h3] at hck
  have hI := okI_of h1 (by omega) h3
  have hv0 := (checkC_facts h3).1
  obtain ⟨V, rfl⟩ : ∃ V : Nat, vars = V := ⟨vars.toNat, by omega⟩
  rw [Int.toNat_natCast] at hI
  obtain ⟨σ', hs⟩ := solve_ok 600009 l V 1048576 none hI (by omega) h3 (by omega)
  rw [if_neg (by omega)] at hs
  have hless := less_told (b := 1048576) more hI (by omega)
  have hpc := progCheckB_ok 600005 l (stepsR (solveR l V 1048576)) none none [] (by omega) (by have := hsz.1; omega) hsz.2
  have hpm := fun s => progCheckB_ok 600005 (l ++ [more]) s none none [] (by omega) (by rw [List.length_append]; have := hsz.1; simp; omega) (fun c hc => by
    rcases List.mem_append.1 hc with hc | hc
    · exact hsz.2 c hc
    · simp only [List.mem_singleton] at hc
      subst hc
      exact h12)
  have hpn := progCheckB_ok 600005 [] (stepsR (solveR l V 1048576)) none none [] (by omega) (by simp) (by simp)
  have hpe := progCheckB_ok 600005 l [] none none [] (by omega) (by have := hsz.1; omega) hsz.2 (by simp)
  generalize metR (solveR l V 1048576) V = tr at *
  generalize stepsR (solveR l V 1048576) = st at *
  generalize (solveR l V 1048576).1 = kd at *
  generalize (solveR l V 1048576).2.2.tried = td at *
  have h60 := hsz.1
  refine call_ofE (m := m11) rfl rfl (by decide) (k_start ?_)
  unfold m11
  by_cases hk : kd = 2
  case neg =>
    refine k_seq ?_
    refine rv (D.bool false) ?_
    refine k_done (k_skip_seq (k_seq ?_))
    refine runs_call ([]) (by kernel_rfl) (by kernel_rfl) (by kernel_rfl) (by kernel_rfl) (awakeS_ok) (by kernel_rfl) ?_
    refine ra0 (D.bool true) ?_
    refine k_done (k_skip_seq (k_seq (k_seq ?_)))
    refine rv (D.bool true) ?_
    refine rv (D.bool false) ?_
    refine k_done (k_skip_seq (kcf (k_skip_seq (k_seq ?_))))
    refine rv (D.sl (rows l) none) ?_
    refine runs_call ([D.sl (rows l) none]) (by kernel_rfl) (by kernel_rfl) (by kernel_rfl) (by kernel_rfl) (htd) (by kernel_rfl) ?_
    refine ra0 (D.bool true) ?_
    refine k_done (k_skip_seq (k_seq (k_seq ?_)))
    refine rv (D.bool true) ?_
    refine rv (D.bool false) ?_
    refine rv (D.bool false) ?_
    refine rv (D.int IntKind.i64 (↑V : Int)) ?_
    refine rv (D.bool (decide ((↑V : Int) > (9 : Int)))) ?_
    refine rv (D.bool (decide ((↑V : Int) > (9 : Int)))) ?_
    refine rv (D.bool (decide ((↑V : Int) > (9 : Int)))) ?_
    refine rkn 28 (decide ((↑V : Int) > (9 : Int))) false (decide_eq_false (by omega)) ?_
    refine rv (D.sl (ints more) none) ?_
    refine rve (D.int IntKind.i64 (↑(List.length (ints more)) : Int)) (.int IntKind.i64 ((↑(List.length more) : Int))) (by simp only [ints, eInt, rows, eInts, bools, eBool, trips, eTrip, i8s, List.length_map]) ?_
    refine rv (D.bool (decide ((↑(List.length more) : Int) > (12 : Int)))) ?_
    refine rv (D.bool (decide ((↑(List.length more) : Int) > (12 : Int)))) ?_
    refine rv (D.bool (decide ((↑(List.length more) : Int) > (12 : Int)))) ?_
    refine rkn 33 (decide ((↑(List.length more) : Int) > (12 : Int))) false (decide_eq_false (by omega)) ?_
    refine rv (D.sl (rows l) none) ?_
    refine rv (D.int IntKind.i64 (↑V : Int)) ?_
    refine runs_call ([D.sl (rows l) none, D.int IntKind.i64 (↑V : Int)]) (by kernel_rfl) (by kernel_rfl) (by kernel_rfl) (by kernel_rfl) (hck) (by kernel_rfl) ?_
    refine rv (D.bool false) ?_
    refine rv (D.bool false) ?_
    refine k_done (k_skip_seq (kcf (k_skip_seq (k_seq ?_))))
    refine rv (D.sl (rows l) none) ?_
    refine rv (D.int IntKind.i64 (↑V : Int)) ?_
    refine runs_call ([D.sl (rows l) none, D.int IntKind.i64 (↑V : Int), D.int IntKind.i64 (1048576 : Int)]) (by kernel_rfl) (by kernel_rfl) (by kernel_rfl) (by kernel_rfl) (hs) (by kernel_rfl) ?_
    refine rgf (D.lptr (9 : Nat) (0 : Nat)) ([]) ?_
    refine rgf (D.junk) ([]) ?_
    refine k_done (k_skip_seq (k_seq (k_seq ?_)))
    refine rv (D.lptr (9 : Nat) (0 : Nat)) ?_
    refine rv (D.int IntKind.i64 kd) ?_
    refine rv (D.bool (kd != (2 : Int))) ?_
    refine k_done (k_skip_seq ?_)
    refine rkn 44 (kd != (2 : Int)) true (bne_iff_ne.2 (by assumption)) ?_
    refine kct (k_seq ?_)
    refine rv (D.bool true) ?_
    refine k_done (k_skip_seq (k_ret ?_))
    exact ⟨.inr rfl, by kernel_rfl, [], by kernel_rfl⟩
  obtain ⟨q1, q2, q3, q4, q5⟩ := hless hk
  subst hk
  have hpc' := hpc q2
  have hpn' := hpn q2
  have hpm' := hpm (st.map (sh l.length)) (by rw [List.length_map]; exact q2)
  rw [q1] at hpc'
  rw [q3] at hpm'
  refine k_seq ?_
  refine rv (D.bool false) ?_
  refine k_done (k_skip_seq (k_seq ?_))
  refine runs_call ([]) (by kernel_rfl) (by kernel_rfl) (by kernel_rfl) (by kernel_rfl) (awakeS_ok) (by kernel_rfl) ?_
  refine ra0 (D.bool true) ?_
  refine k_done (k_skip_seq (k_seq (k_seq ?_)))
  refine rv (D.bool true) ?_
  refine rv (D.bool false) ?_
  refine k_done (k_skip_seq (kcf (k_skip_seq (k_seq ?_))))
  refine rv (D.sl (rows l) none) ?_
  refine runs_call ([D.sl (rows l) none]) (by kernel_rfl) (by kernel_rfl) (by kernel_rfl) (by kernel_rfl) (htd) (by kernel_rfl) ?_
  refine ra0 (D.bool true) ?_
  refine k_done (k_skip_seq (k_seq (k_seq ?_)))
  refine rv (D.bool true) ?_
  refine rv (D.bool false) ?_
  refine rv (D.bool false) ?_
  refine rv (D.int IntKind.i64 (↑V : Int)) ?_
  refine rv (D.bool (decide ((↑V : Int) > (9 : Int)))) ?_
  refine rv (D.bool (decide ((↑V : Int) > (9 : Int)))) ?_
  refine rv (D.bool (decide ((↑V : Int) > (9 : Int)))) ?_
  refine rkn 28 (decide ((↑V : Int) > (9 : Int))) false (decide_eq_false (by omega)) ?_
  refine rv (D.sl (ints more) none) ?_
  refine rve (D.int IntKind.i64 (↑(List.length (ints more)) : Int)) (.int IntKind.i64 ((↑(List.length more) : Int))) (by simp only [ints, eInt, rows, eInts, bools, eBool, trips, eTrip, i8s, List.length_map]) ?_
  refine rv (D.bool (decide ((↑(List.length more) : Int) > (12 : Int)))) ?_
  refine rv (D.bool (decide ((↑(List.length more) : Int) > (12 : Int)))) ?_
  refine rv (D.bool (decide ((↑(List.length more) : Int) > (12 : Int)))) ?_
  refine rkn 33 (decide ((↑(List.length more) : Int) > (12 : Int))) false (decide_eq_false (by omega)) ?_
  refine rv (D.sl (rows l) none) ?_
  refine rv (D.int IntKind.i64 (↑V : Int)) ?_
  refine runs_call ([D.sl (rows l) none, D.int IntKind.i64 (↑V : Int)]) (by kernel_rfl) (by kernel_rfl) (by kernel_rfl) (by kernel_rfl) (hck) (by kernel_rfl) ?_
  refine rv (D.bool false) ?_
  refine rv (D.bool false) ?_
  refine k_done (k_skip_seq (kcf (k_skip_seq (k_seq ?_))))
  refine rv (D.sl (rows l) none) ?_
  refine rv (D.int IntKind.i64 (↑V : Int)) ?_
  refine runs_call ([D.sl (rows l) none, D.int IntKind.i64 (↑V : Int), D.int IntKind.i64 (1048576 : Int)]) (by kernel_rfl) (by kernel_rfl) (by kernel_rfl) (by kernel_rfl) (hs) (by kernel_rfl) ?_
  refine rgf (D.lptr (9 : Nat) (0 : Nat)) ([]) ?_
  refine rgf (D.junk) ([]) ?_
  refine k_done (k_skip_seq (k_seq (k_seq ?_)))
  refine rv (D.lptr (9 : Nat) (0 : Nat)) ?_
  refine rv (D.int IntKind.i64 (2 : Int)) ?_
  refine rv (D.bool false) ?_
  refine k_done (k_skip_seq (kcf (k_skip_seq (k_seq ?_))))
  refine rv (D.sl (rows l) none) ?_
  refine rve (D.int IntKind.i64 (↑(List.length (rows l)) : Int)) (.int IntKind.i64 ((↑(List.length l) : Int))) (by simp only [ints, eInt, rows, eInts, bools, eBool, trips, eTrip, i8s, List.length_map]) ?_
  refine ra0 (D.int IntKind.i64 (↑(List.length l) : Int)) ?_
  refine k_done (k_skip_seq (k_seq ?_))
  refine rv (D.sl [] (some (34 : Nat))) ?_
  refine k_done (k_skip_seq (k_seq ?_))
  refine runs_steal (D.sl [] (some (34 : Nat))) (by kernel_rfl) (by kernel_rfl) ?_
  refine rv (D.sl (rows l) none) ?_
  refine runs_append ([]) (rows l) (rows l) (by kernel_rfl) (by kernel_rfl) (by kernel_rfl) (by simp [ints, eInt, rows, eInts, bools, eBool, trips, eTrip, i8s]) (by simp [ints, eInt, rows, eInts, bools, eBool, trips, eTrip, i8s, room]; omega) (List.nil_append _) ?_
  refine runs_assign (D.sl (rows l) (some (34 : Nat))) (by kernel_rfl) (by kernel_rfl) ?_
  refine k_done (k_skip_seq (k_seq ?_))
  refine runs_steal (D.sl (rows l) (some (34 : Nat))) (by kernel_rfl) (by kernel_rfl) ?_
  refine rv (D.sl (ints more) none) ?_
  refine rv (D.sl [[D.sl (ints more) none]] (some (34 : Nat))) ?_
  refine runs_append (rows l) ([[D.sl (ints more) none]]) (rows (l ++ [more])) (by kernel_rfl) (by kernel_rfl) (by kernel_rfl) (by kernel_rfl) (by simp [ints, eInt, rows, eInts, bools, eBool, trips, eTrip, i8s, room]; omega) (by simp [ints, eInt, rows, eInts, bools, eBool, trips, eTrip, i8s]) ?_
  refine runs_assign (D.sl (rows (l ++ [more])) (some (34 : Nat))) (by kernel_rfl) (by kernel_rfl) ?_
  refine k_done (k_skip_seq (k_seq ?_))
  refine rv (D.sl [] (some (55 : Nat))) ?_
  refine k_done (k_skip_seq (k_seq (k_seq ?_)))
  refine rv (D.int IntKind.i64 (0 : Int)) ?_
  refine k_done (k_skip_seq (k_block ?_))
  refine k_loop (fun i : Nat => f11 l V more tr st td ((st.take i).map (sh l.length)) i) (fun _ => []) (fun i => i ≤ st.length) (fun i => st.length - i) 0 (by kernel_rfl) rfl (by simp) (by intro s hs; omega) ?_
  intro i hi
  by_cases hlt : i < st.length
  · have hm : (st.take (i + 1)).map (sh l.length) = (st.take i).map (sh l.length) ++ [sh l.length st[i]] := by
      rw [List.take_succ_eq_append_getElem hlt, List.map_append]
      rfl
    have hsl : ((st.take i).map (sh l.length)).length = i := by simp; omega
    have hb := q5 _ (List.getElem_mem hlt)
    generalize (st.take i).map (sh l.length) = s at *
    by_cases ca : st[i].1 ≥ l.length
    · by_cases cb : st[i].2.1 ≥ l.length
      · have e : sh l.length st[i] = (st[i].1 + 1, st[i].2.1 + 1, st[i].2.2) := by unfold sh shI; rw [if_pos ca, if_pos cb]
        rw [e] at hm
        refine k_seq (k_seq ?_)
        refine rv (D.int IntKind.i64 (↑i : Int)) ?_
        refine rv (D.lptr (9 : Nat) (2 : Nat)) ?_
        refine rv (D.sl (trips st) none) ?_
        refine rve (D.int IntKind.i64 (↑(List.length (trips st)) : Int)) (.int IntKind.i64 ((↑(List.length st) : Int))) (by simp only [ints, eInt, rows, eInts, bools, eBool, trips, eTrip, i8s, List.length_map]) ?_
        refine rv (D.bool (decide ((↑i : Int) < (↑(List.length st) : Int)))) ?_
        refine k_done (k_skip_seq ?_)
        refine rkn 58 (decide ((↑i : Int) < (↑(List.length st) : Int))) true (decide_eq_true (by omega)) ?_
        refine kct (k_skip_seq (k_seq (k_block (k_seq ?_))))
        refine rv (D.lptr (9 : Nat) (2 : Nat)) ?_
        refine rv (D.sl (trips st) none) ?_
        refine rv (D.int IntKind.i64 (↑i : Int)) ?_
        refine runs_index (st) (eTrip) (o := none) (kd := IntKind.i64) (i) (by kernel_rfl) (by kernel_rfl) (by kernel_rfl) (by assumption) (by kernel_rfl) ?_
        refine rv (D.agg [D.int IntKind.i64 (Prod.fst st[i]), D.int IntKind.i64 (Prod.fst (Prod.snd st[i])), D.int IntKind.i64 (Prod.snd (Prod.snd st[i]))]) ?_
        refine rgf (D.lptr (14 : Nat) (0 : Nat)) ([]) ?_
        refine rgf (D.junk) ([]) ?_
        refine k_done (k_skip_seq (k_seq (k_seq ?_)))
        refine rv (D.lptr (14 : Nat) (0 : Nat)) ?_
        refine rv (D.int IntKind.i64 (Prod.fst st[i])) ?_
        refine rv (D.int IntKind.i64 (↑(List.length l) : Int)) ?_
        refine rv (D.bool (decide (Prod.fst st[i] ≥ (↑(List.length l) : Int)))) ?_
        refine k_done (k_skip_seq ?_)
        refine rkn 69 (decide (Prod.fst st[i] ≥ (↑(List.length l) : Int))) true (decide_eq_true (by assumption)) ?_
        refine kct ?_
        refine rv (D.lptr (14 : Nat) (0 : Nat)) ?_
        refine rv (D.int IntKind.i64 (Prod.fst st[i])) ?_
        refine rve (D.int IntKind.i64 (IntKind.wrap IntKind.i64 (Prod.fst st[i] + (1 : Int)))) (.int IntKind.i64 (Prod.fst st[i] + (1 : Int))) (congrArg (D.int IntKind.i64) (show IntKind.wrap IntKind.i64 (Prod.fst st[i] + (1 : Int)) = (Prod.fst st[i] + (1 : Int)) from wrap_eq (by omega) (by omega) (by omega))) ?_
        refine rv (D.lptr (14 : Nat) (0 : Nat)) ?_
        refine rgf (D.junk) ([]) ?_
        refine k_done (k_skip_seq (k_seq (k_seq ?_)))
        refine rv (D.lptr (14 : Nat) (1 : Nat)) ?_
        refine rv (D.int IntKind.i64 (Prod.fst (Prod.snd st[i]))) ?_
        refine rv (D.int IntKind.i64 (↑(List.length l) : Int)) ?_
        refine rv (D.bool (decide (Prod.fst (Prod.snd st[i]) ≥ (↑(List.length l) : Int)))) ?_
        refine k_done (k_skip_seq ?_)
        refine rkn 77 (decide (Prod.fst (Prod.snd st[i]) ≥ (↑(List.length l) : Int))) true (decide_eq_true (by assumption)) ?_
        refine kct ?_
        refine rv (D.lptr (14 : Nat) (1 : Nat)) ?_
        refine rv (D.int IntKind.i64 (Prod.fst (Prod.snd st[i]))) ?_
        refine rve (D.int IntKind.i64 (IntKind.wrap IntKind.i64 (Prod.fst (Prod.snd st[i]) + (1 : Int)))) (.int IntKind.i64 (Prod.fst (Prod.snd st[i]) + (1 : Int))) (congrArg (D.int IntKind.i64) (show IntKind.wrap IntKind.i64 (Prod.fst (Prod.snd st[i]) + (1 : Int)) = (Prod.fst (Prod.snd st[i]) + (1 : Int)) from wrap_eq (by omega) (by omega) (by omega))) ?_
        refine rv (D.lptr (14 : Nat) (1 : Nat)) ?_
        refine rgf (D.junk) ([]) ?_
        refine k_done (k_skip_seq ?_)
        refine runs_steal (D.sl (trips s) (some (55 : Nat))) (by kernel_rfl) (by kernel_rfl) ?_
        refine rv (D.agg [D.int IntKind.i64 (Prod.fst st[i] + (1 : Int)), D.int IntKind.i64 (Prod.fst (Prod.snd st[i]) + (1 : Int)), D.int IntKind.i64 (Prod.snd (Prod.snd st[i]))]) ?_
        refine rv (D.sl [[D.int IntKind.i64 (Prod.fst st[i] + (1 : Int)), D.int IntKind.i64 (Prod.fst (Prod.snd st[i]) + (1 : Int)), D.int IntKind.i64 (Prod.snd (Prod.snd st[i]))]] (some (55 : Nat))) ?_
        refine runs_append (trips s) ([[D.int IntKind.i64 (Prod.fst st[i] + (1 : Int)), D.int IntKind.i64 (Prod.fst (Prod.snd st[i]) + (1 : Int)), D.int IntKind.i64 (Prod.snd (Prod.snd st[i]))]]) (trips (s ++ [(Prod.fst st[i] + (1 : Int), Prod.fst (Prod.snd st[i]) + (1 : Int), Prod.snd (Prod.snd st[i]))])) (by kernel_rfl) (by kernel_rfl) (by kernel_rfl) (by kernel_rfl) (by simp [ints, eInt, rows, eInts, bools, eBool, trips, eTrip, i8s, room]; omega) (by simp [ints, eInt, rows, eInts, bools, eBool, trips, eTrip, i8s]) ?_
        refine runs_assign (D.sl (trips (s ++ [(Prod.fst st[i] + (1 : Int), Prod.fst (Prod.snd st[i]) + (1 : Int), Prod.snd (Prod.snd st[i]))])) (some (55 : Nat))) (by kernel_rfl) (by kernel_rfl) ?_
        refine k_done (k_skip_block (k_skip_seq ?_))
        refine rv (D.int IntKind.i64 (↑i : Int)) ?_
        refine rve (D.int IntKind.i64 (IntKind.wrap IntKind.i64 ((↑i : Int) + (1 : Int)))) (.int IntKind.i64 ((i + 1 : Nat) : Int)) (congrArg (D.int IntKind.i64) (show IntKind.wrap IntKind.i64 ((↑i : Int) + (1 : Int)) = ((i + 1 : Nat) : Int) from wrap_eq (by omega) (by omega) (by omega))) ?_
        refine ra0 (D.int IntKind.i64 (↑(i + (1 : Nat)) : Int)) ?_
        refine k_done (k_skip_back ?_)
        exact ⟨i + 1, hlt, by omega, by rw [hm]; kernel_rfl, rfl⟩
      · have e : sh l.length st[i] = (st[i].1 + 1, st[i].2.1, st[i].2.2) := by unfold sh shI; rw [if_pos ca, if_neg cb]
        rw [e] at hm
        refine k_seq (k_seq ?_)
        refine rv (D.int IntKind.i64 (↑i : Int)) ?_
        refine rv (D.lptr (9 : Nat) (2 : Nat)) ?_
        refine rv (D.sl (trips st) none) ?_
        refine rve (D.int IntKind.i64 (↑(List.length (trips st)) : Int)) (.int IntKind.i64 ((↑(List.length st) : Int))) (by simp only [ints, eInt, rows, eInts, bools, eBool, trips, eTrip, i8s, List.length_map]) ?_
        refine rv (D.bool (decide ((↑i : Int) < (↑(List.length st) : Int)))) ?_
        refine k_done (k_skip_seq ?_)
        refine rkn 58 (decide ((↑i : Int) < (↑(List.length st) : Int))) true (decide_eq_true (by omega)) ?_
        refine kct (k_skip_seq (k_seq (k_block (k_seq ?_))))
        refine rv (D.lptr (9 : Nat) (2 : Nat)) ?_
        refine rv (D.sl (trips st) none) ?_
        refine rv (D.int IntKind.i64 (↑i : Int)) ?_
        refine runs_index (st) (eTrip) (o := none) (kd := IntKind.i64) (i) (by kernel_rfl) (by kernel_rfl) (by kernel_rfl) (by assumption) (by kernel_rfl) ?_
        refine rv (D.agg [D.int IntKind.i64 (Prod.fst st[i]), D.int IntKind.i64 (Prod.fst (Prod.snd st[i])), D.int IntKind.i64 (Prod.snd (Prod.snd st[i]))]) ?_
        refine rgf (D.lptr (14 : Nat) (0 : Nat)) ([]) ?_
        refine rgf (D.junk) ([]) ?_
        refine k_done (k_skip_seq (k_seq (k_seq ?_)))
        refine rv (D.lptr (14 : Nat) (0 : Nat)) ?_
        refine rv (D.int IntKind.i64 (Prod.fst st[i])) ?_
        refine rv (D.int IntKind.i64 (↑(List.length l) : Int)) ?_
        refine rv (D.bool (decide (Prod.fst st[i] ≥ (↑(List.length l) : Int)))) ?_
        refine k_done (k_skip_seq ?_)
        refine rkn 69 (decide (Prod.fst st[i] ≥ (↑(List.length l) : Int))) true (decide_eq_true (by assumption)) ?_
        refine kct ?_
        refine rv (D.lptr (14 : Nat) (0 : Nat)) ?_
        refine rv (D.int IntKind.i64 (Prod.fst st[i])) ?_
        refine rve (D.int IntKind.i64 (IntKind.wrap IntKind.i64 (Prod.fst st[i] + (1 : Int)))) (.int IntKind.i64 (Prod.fst st[i] + (1 : Int))) (congrArg (D.int IntKind.i64) (show IntKind.wrap IntKind.i64 (Prod.fst st[i] + (1 : Int)) = (Prod.fst st[i] + (1 : Int)) from wrap_eq (by omega) (by omega) (by omega))) ?_
        refine rv (D.lptr (14 : Nat) (0 : Nat)) ?_
        refine rgf (D.junk) ([]) ?_
        refine k_done (k_skip_seq (k_seq (k_seq ?_)))
        refine rv (D.lptr (14 : Nat) (1 : Nat)) ?_
        refine rv (D.int IntKind.i64 (Prod.fst (Prod.snd st[i]))) ?_
        refine rv (D.int IntKind.i64 (↑(List.length l) : Int)) ?_
        refine rv (D.bool (decide (Prod.fst (Prod.snd st[i]) ≥ (↑(List.length l) : Int)))) ?_
        refine k_done (k_skip_seq ?_)
        refine rkn 77 (decide (Prod.fst (Prod.snd st[i]) ≥ (↑(List.length l) : Int))) false (decide_eq_false (by assumption)) ?_
        refine kcf (k_skip_seq ?_)
        refine runs_steal (D.sl (trips s) (some (55 : Nat))) (by kernel_rfl) (by kernel_rfl) ?_
        refine rv (D.agg [D.int IntKind.i64 (Prod.fst st[i] + (1 : Int)), D.int IntKind.i64 (Prod.fst (Prod.snd st[i])), D.int IntKind.i64 (Prod.snd (Prod.snd st[i]))]) ?_
        refine rv (D.sl [[D.int IntKind.i64 (Prod.fst st[i] + (1 : Int)), D.int IntKind.i64 (Prod.fst (Prod.snd st[i])), D.int IntKind.i64 (Prod.snd (Prod.snd st[i]))]] (some (55 : Nat))) ?_
        refine runs_append (trips s) ([[D.int IntKind.i64 (Prod.fst st[i] + (1 : Int)), D.int IntKind.i64 (Prod.fst (Prod.snd st[i])), D.int IntKind.i64 (Prod.snd (Prod.snd st[i]))]]) (trips (s ++ [(Prod.fst st[i] + (1 : Int), Prod.fst (Prod.snd st[i]), Prod.snd (Prod.snd st[i]))])) (by kernel_rfl) (by kernel_rfl) (by kernel_rfl) (by kernel_rfl) (by simp [ints, eInt, rows, eInts, bools, eBool, trips, eTrip, i8s, room]; omega) (by simp [ints, eInt, rows, eInts, bools, eBool, trips, eTrip, i8s]) ?_
        refine runs_assign (D.sl (trips (s ++ [(Prod.fst st[i] + (1 : Int), Prod.fst (Prod.snd st[i]), Prod.snd (Prod.snd st[i]))])) (some (55 : Nat))) (by kernel_rfl) (by kernel_rfl) ?_
        refine k_done (k_skip_block (k_skip_seq ?_))
        refine rv (D.int IntKind.i64 (↑i : Int)) ?_
        refine rve (D.int IntKind.i64 (IntKind.wrap IntKind.i64 ((↑i : Int) + (1 : Int)))) (.int IntKind.i64 ((i + 1 : Nat) : Int)) (congrArg (D.int IntKind.i64) (show IntKind.wrap IntKind.i64 ((↑i : Int) + (1 : Int)) = ((i + 1 : Nat) : Int) from wrap_eq (by omega) (by omega) (by omega))) ?_
        refine ra0 (D.int IntKind.i64 (↑(i + (1 : Nat)) : Int)) ?_
        refine k_done (k_skip_back ?_)
        exact ⟨i + 1, hlt, by omega, by rw [hm]; kernel_rfl, rfl⟩
    · by_cases cb : st[i].2.1 ≥ l.length
      · have e : sh l.length st[i] = (st[i].1, st[i].2.1 + 1, st[i].2.2) := by unfold sh shI; rw [if_neg ca, if_pos cb]
        rw [e] at hm
        refine k_seq (k_seq ?_)
        refine rv (D.int IntKind.i64 (↑i : Int)) ?_
        refine rv (D.lptr (9 : Nat) (2 : Nat)) ?_
        refine rv (D.sl (trips st) none) ?_
        refine rve (D.int IntKind.i64 (↑(List.length (trips st)) : Int)) (.int IntKind.i64 ((↑(List.length st) : Int))) (by simp only [ints, eInt, rows, eInts, bools, eBool, trips, eTrip, i8s, List.length_map]) ?_
        refine rv (D.bool (decide ((↑i : Int) < (↑(List.length st) : Int)))) ?_
        refine k_done (k_skip_seq ?_)
        refine rkn 58 (decide ((↑i : Int) < (↑(List.length st) : Int))) true (decide_eq_true (by omega)) ?_
        refine kct (k_skip_seq (k_seq (k_block (k_seq ?_))))
        refine rv (D.lptr (9 : Nat) (2 : Nat)) ?_
        refine rv (D.sl (trips st) none) ?_
        refine rv (D.int IntKind.i64 (↑i : Int)) ?_
        refine runs_index (st) (eTrip) (o := none) (kd := IntKind.i64) (i) (by kernel_rfl) (by kernel_rfl) (by kernel_rfl) (by assumption) (by kernel_rfl) ?_
        refine rv (D.agg [D.int IntKind.i64 (Prod.fst st[i]), D.int IntKind.i64 (Prod.fst (Prod.snd st[i])), D.int IntKind.i64 (Prod.snd (Prod.snd st[i]))]) ?_
        refine rgf (D.lptr (14 : Nat) (0 : Nat)) ([]) ?_
        refine rgf (D.junk) ([]) ?_
        refine k_done (k_skip_seq (k_seq (k_seq ?_)))
        refine rv (D.lptr (14 : Nat) (0 : Nat)) ?_
        refine rv (D.int IntKind.i64 (Prod.fst st[i])) ?_
        refine rv (D.int IntKind.i64 (↑(List.length l) : Int)) ?_
        refine rv (D.bool (decide (Prod.fst st[i] ≥ (↑(List.length l) : Int)))) ?_
        refine k_done (k_skip_seq ?_)
        refine rkn 69 (decide (Prod.fst st[i] ≥ (↑(List.length l) : Int))) false (decide_eq_false (by assumption)) ?_
        refine kcf (k_skip_seq (k_seq (k_seq ?_)))
        refine rv (D.lptr (14 : Nat) (1 : Nat)) ?_
        refine rv (D.int IntKind.i64 (Prod.fst (Prod.snd st[i]))) ?_
        refine rv (D.int IntKind.i64 (↑(List.length l) : Int)) ?_
        refine rv (D.bool (decide (Prod.fst (Prod.snd st[i]) ≥ (↑(List.length l) : Int)))) ?_
        refine k_done (k_skip_seq ?_)
        refine rkn 77 (decide (Prod.fst (Prod.snd st[i]) ≥ (↑(List.length l) : Int))) true (decide_eq_true (by assumption)) ?_
        refine kct ?_
        refine rv (D.lptr (14 : Nat) (1 : Nat)) ?_
        refine rv (D.int IntKind.i64 (Prod.fst (Prod.snd st[i]))) ?_
        refine rve (D.int IntKind.i64 (IntKind.wrap IntKind.i64 (Prod.fst (Prod.snd st[i]) + (1 : Int)))) (.int IntKind.i64 (Prod.fst (Prod.snd st[i]) + (1 : Int))) (congrArg (D.int IntKind.i64) (show IntKind.wrap IntKind.i64 (Prod.fst (Prod.snd st[i]) + (1 : Int)) = (Prod.fst (Prod.snd st[i]) + (1 : Int)) from wrap_eq (by omega) (by omega) (by omega))) ?_
        refine rv (D.lptr (14 : Nat) (1 : Nat)) ?_
        refine rgf (D.junk) ([]) ?_
        refine k_done (k_skip_seq ?_)
        refine runs_steal (D.sl (trips s) (some (55 : Nat))) (by kernel_rfl) (by kernel_rfl) ?_
        refine rv (D.agg [D.int IntKind.i64 (Prod.fst st[i]), D.int IntKind.i64 (Prod.fst (Prod.snd st[i]) + (1 : Int)), D.int IntKind.i64 (Prod.snd (Prod.snd st[i]))]) ?_
        refine rv (D.sl [[D.int IntKind.i64 (Prod.fst st[i]), D.int IntKind.i64 (Prod.fst (Prod.snd st[i]) + (1 : Int)), D.int IntKind.i64 (Prod.snd (Prod.snd st[i]))]] (some (55 : Nat))) ?_
        refine runs_append (trips s) ([[D.int IntKind.i64 (Prod.fst st[i]), D.int IntKind.i64 (Prod.fst (Prod.snd st[i]) + (1 : Int)), D.int IntKind.i64 (Prod.snd (Prod.snd st[i]))]]) (trips (s ++ [(Prod.fst st[i], Prod.fst (Prod.snd st[i]) + (1 : Int), Prod.snd (Prod.snd st[i]))])) (by kernel_rfl) (by kernel_rfl) (by kernel_rfl) (by kernel_rfl) (by simp [ints, eInt, rows, eInts, bools, eBool, trips, eTrip, i8s, room]; omega) (by simp [ints, eInt, rows, eInts, bools, eBool, trips, eTrip, i8s]) ?_
        refine runs_assign (D.sl (trips (s ++ [(Prod.fst st[i], Prod.fst (Prod.snd st[i]) + (1 : Int), Prod.snd (Prod.snd st[i]))])) (some (55 : Nat))) (by kernel_rfl) (by kernel_rfl) ?_
        refine k_done (k_skip_block (k_skip_seq ?_))
        refine rv (D.int IntKind.i64 (↑i : Int)) ?_
        refine rve (D.int IntKind.i64 (IntKind.wrap IntKind.i64 ((↑i : Int) + (1 : Int)))) (.int IntKind.i64 ((i + 1 : Nat) : Int)) (congrArg (D.int IntKind.i64) (show IntKind.wrap IntKind.i64 ((↑i : Int) + (1 : Int)) = ((i + 1 : Nat) : Int) from wrap_eq (by omega) (by omega) (by omega))) ?_
        refine ra0 (D.int IntKind.i64 (↑(i + (1 : Nat)) : Int)) ?_
        refine k_done (k_skip_back ?_)
        exact ⟨i + 1, hlt, by omega, by rw [hm]; kernel_rfl, rfl⟩
      · have e : sh l.length st[i] = (st[i].1, st[i].2.1, st[i].2.2) := by unfold sh shI; rw [if_neg ca, if_neg cb]
        rw [e] at hm
        refine k_seq (k_seq ?_)
        refine rv (D.int IntKind.i64 (↑i : Int)) ?_
        refine rv (D.lptr (9 : Nat) (2 : Nat)) ?_
        refine rv (D.sl (trips st) none) ?_
        refine rve (D.int IntKind.i64 (↑(List.length (trips st)) : Int)) (.int IntKind.i64 ((↑(List.length st) : Int))) (by simp only [ints, eInt, rows, eInts, bools, eBool, trips, eTrip, i8s, List.length_map]) ?_
        refine rv (D.bool (decide ((↑i : Int) < (↑(List.length st) : Int)))) ?_
        refine k_done (k_skip_seq ?_)
        refine rkn 58 (decide ((↑i : Int) < (↑(List.length st) : Int))) true (decide_eq_true (by omega)) ?_
        refine kct (k_skip_seq (k_seq (k_block (k_seq ?_))))
        refine rv (D.lptr (9 : Nat) (2 : Nat)) ?_
        refine rv (D.sl (trips st) none) ?_
        refine rv (D.int IntKind.i64 (↑i : Int)) ?_
        refine runs_index (st) (eTrip) (o := none) (kd := IntKind.i64) (i) (by kernel_rfl) (by kernel_rfl) (by kernel_rfl) (by assumption) (by kernel_rfl) ?_
        refine rv (D.agg [D.int IntKind.i64 (Prod.fst st[i]), D.int IntKind.i64 (Prod.fst (Prod.snd st[i])), D.int IntKind.i64 (Prod.snd (Prod.snd st[i]))]) ?_
        refine rgf (D.lptr (14 : Nat) (0 : Nat)) ([]) ?_
        refine rgf (D.junk) ([]) ?_
        refine k_done (k_skip_seq (k_seq (k_seq ?_)))
        refine rv (D.lptr (14 : Nat) (0 : Nat)) ?_
        refine rv (D.int IntKind.i64 (Prod.fst st[i])) ?_
        refine rv (D.int IntKind.i64 (↑(List.length l) : Int)) ?_
        refine rv (D.bool (decide (Prod.fst st[i] ≥ (↑(List.length l) : Int)))) ?_
        refine k_done (k_skip_seq ?_)
        refine rkn 69 (decide (Prod.fst st[i] ≥ (↑(List.length l) : Int))) false (decide_eq_false (by assumption)) ?_
        refine kcf (k_skip_seq (k_seq (k_seq ?_)))
        refine rv (D.lptr (14 : Nat) (1 : Nat)) ?_
        refine rv (D.int IntKind.i64 (Prod.fst (Prod.snd st[i]))) ?_
        refine rv (D.int IntKind.i64 (↑(List.length l) : Int)) ?_
        refine rv (D.bool (decide (Prod.fst (Prod.snd st[i]) ≥ (↑(List.length l) : Int)))) ?_
        refine k_done (k_skip_seq ?_)
        refine rkn 77 (decide (Prod.fst (Prod.snd st[i]) ≥ (↑(List.length l) : Int))) false (decide_eq_false (by assumption)) ?_
        refine kcf (k_skip_seq ?_)
        refine runs_steal (D.sl (trips s) (some (55 : Nat))) (by kernel_rfl) (by kernel_rfl) ?_
        refine rv (D.agg [D.int IntKind.i64 (Prod.fst st[i]), D.int IntKind.i64 (Prod.fst (Prod.snd st[i])), D.int IntKind.i64 (Prod.snd (Prod.snd st[i]))]) ?_
        refine rv (D.sl [[D.int IntKind.i64 (Prod.fst st[i]), D.int IntKind.i64 (Prod.fst (Prod.snd st[i])), D.int IntKind.i64 (Prod.snd (Prod.snd st[i]))]] (some (55 : Nat))) ?_
        refine runs_append (trips s) ([[D.int IntKind.i64 (Prod.fst st[i]), D.int IntKind.i64 (Prod.fst (Prod.snd st[i])), D.int IntKind.i64 (Prod.snd (Prod.snd st[i]))]]) (trips (s ++ [(Prod.fst st[i], Prod.fst (Prod.snd st[i]), Prod.snd (Prod.snd st[i]))])) (by kernel_rfl) (by kernel_rfl) (by kernel_rfl) (by kernel_rfl) (by simp [ints, eInt, rows, eInts, bools, eBool, trips, eTrip, i8s, room]; omega) (by simp [ints, eInt, rows, eInts, bools, eBool, trips, eTrip, i8s]) ?_
        refine runs_assign (D.sl (trips (s ++ [(Prod.fst st[i], Prod.fst (Prod.snd st[i]), Prod.snd (Prod.snd st[i]))])) (some (55 : Nat))) (by kernel_rfl) (by kernel_rfl) ?_
        refine k_done (k_skip_block (k_skip_seq ?_))
        refine rv (D.int IntKind.i64 (↑i : Int)) ?_
        refine rve (D.int IntKind.i64 (IntKind.wrap IntKind.i64 ((↑i : Int) + (1 : Int)))) (.int IntKind.i64 ((i + 1 : Nat) : Int)) (congrArg (D.int IntKind.i64) (show IntKind.wrap IntKind.i64 ((↑i : Int) + (1 : Int)) = ((i + 1 : Nat) : Int) from wrap_eq (by omega) (by omega) (by omega))) ?_
        refine ra0 (D.int IntKind.i64 (↑(i + (1 : Nat)) : Int)) ?_
        refine k_done (k_skip_back ?_)
        exact ⟨i + 1, hlt, by omega, by rw [hm]; kernel_rfl, rfl⟩
  · rw [List.take_of_length_le (by omega)]
    generalize st.map (sh l.length) = s2 at *
    refine k_seq (k_seq ?_)
    refine rv (D.int IntKind.i64 (↑i : Int)) ?_
    refine rv (D.lptr (9 : Nat) (2 : Nat)) ?_
    refine rv (D.sl (trips st) none) ?_
    refine rve (D.int IntKind.i64 (↑(List.length (trips st)) : Int)) (.int IntKind.i64 ((↑(List.length st) : Int))) (by simp only [ints, eInt, rows, eInts, bools, eBool, trips, eTrip, i8s, List.length_map]) ?_
    refine rv (D.bool (decide ((↑i : Int) < (↑(List.length st) : Int)))) ?_
    refine k_done (k_skip_seq ?_)
    refine rkn 58 (decide ((↑i : Int) < (↑(List.length st) : Int))) false (decide_eq_false (by omega)) ?_
    refine kcf (k_exit_seq (k_exit_back (k_exit_hit rfl (k_skip_seq (k_seq ?_)))))
    refine rv (D.bool false) ?_
    refine k_done (k_skip_seq (k_seq (k_seq ?_)))
    refine rv (D.int IntKind.i64 (0 : Int)) ?_
    refine k_done (k_skip_seq (k_block ?_))
    refine k_loop (fun k : Nat => f11b l V more tr st td s2 i (emX (l.take k)) k) (fun _ => []) (fun k => k ≤ l.length) (fun k => l.length - k) 0 (by kernel_rfl) rfl (by simp) (by intro s hs; omega) ?_
    intro k hk
    by_cases hkl : k < l.length
    · have hem := emX_succ hkl
      generalize emX (l.take k) = em at *
      by_cases he : em = true
      · subst he
        refine k_seq (k_seq ?_)
        refine rv (D.int IntKind.i64 (↑k : Int)) ?_
        refine rv (D.int IntKind.i64 (↑(List.length l) : Int)) ?_
        refine rv (D.bool (decide ((↑k : Int) < (↑(List.length l) : Int)))) ?_
        refine k_done (k_skip_seq ?_)
        refine rkn 88 (decide ((↑k : Int) < (↑(List.length l) : Int))) true (decide_eq_true (by omega)) ?_
        refine kct (k_skip_seq (k_seq (k_block ?_)))
        refine rv (D.bool true) ?_
        refine rv (D.bool true) ?_
        refine rno (rno (rno (rno (rno (rno ?_)))))
        refine rv (D.bool true) ?_
        refine ra0 (D.bool true) ?_
        refine k_done (k_skip_block (k_skip_seq ?_))
        refine rv (D.int IntKind.i64 (↑k : Int)) ?_
        refine rve (D.int IntKind.i64 (IntKind.wrap IntKind.i64 ((↑k : Int) + (1 : Int)))) (.int IntKind.i64 ((k + 1 : Nat) : Int)) (congrArg (D.int IntKind.i64) (show IntKind.wrap IntKind.i64 ((↑k : Int) + (1 : Int)) = ((k + 1 : Nat) : Int) from wrap_eq (by omega) (by omega) (by omega))) ?_
        refine ra0 (D.int IntKind.i64 (↑(k + (1 : Nat)) : Int)) ?_
        refine k_done (k_skip_back ?_)
        exact ⟨k + 1, hkl, by omega, by rw [hem]; kernel_rfl, rfl⟩
      · have he' : em = false := by simpa using he
        subst he'
        refine k_seq (k_seq ?_)
        refine rv (D.int IntKind.i64 (↑k : Int)) ?_
        refine rv (D.int IntKind.i64 (↑(List.length l) : Int)) ?_
        refine rv (D.bool (decide ((↑k : Int) < (↑(List.length l) : Int)))) ?_
        refine k_done (k_skip_seq ?_)
        refine rkn 88 (decide ((↑k : Int) < (↑(List.length l) : Int))) true (decide_eq_true (by omega)) ?_
        refine kct (k_skip_seq (k_seq (k_block ?_)))
        refine rv (D.bool false) ?_
        refine rv (D.bool false) ?_
        refine rv (D.sl (rows l) none) ?_
        refine rv (D.int IntKind.i64 (↑k : Int)) ?_
        refine runs_index (l) (eInts) (o := none) (kd := IntKind.i64) (k) (by kernel_rfl) (by kernel_rfl) (by kernel_rfl) (by assumption) (by kernel_rfl) ?_
        refine rv (D.sl (ints l[k]) none) ?_
        refine rve (D.int IntKind.i64 (↑(List.length (ints l[k])) : Int)) (.int IntKind.i64 ((↑(List.length l[k]) : Int))) (by simp only [ints, eInt, rows, eInts, bools, eBool, trips, eTrip, i8s, List.length_map]) ?_
        refine rv (D.bool ((↑(List.length l[k]) : Int) == (0 : Int))) ?_
        refine rv (D.bool ((↑(List.length l[k]) : Int) == (0 : Int))) ?_
        refine ra0 (D.bool ((↑(List.length l[k]) : Int) == (0 : Int))) ?_
        refine k_done (k_skip_block (k_skip_seq ?_))
        refine rv (D.int IntKind.i64 (↑k : Int)) ?_
        refine rve (D.int IntKind.i64 (IntKind.wrap IntKind.i64 ((↑k : Int) + (1 : Int)))) (.int IntKind.i64 ((k + 1 : Nat) : Int)) (congrArg (D.int IntKind.i64) (show IntKind.wrap IntKind.i64 ((↑k : Int) + (1 : Int)) = ((k + 1 : Nat) : Int) from wrap_eq (by omega) (by omega) (by omega))) ?_
        refine ra0 (D.int IntKind.i64 (↑(k + (1 : Nat)) : Int)) ?_
        refine k_done (k_skip_back ?_)
        exact ⟨k + 1, hkl, by omega, by rw [hem]; kernel_rfl, rfl⟩
    · rw [List.take_of_length_le (by omega), emX_iff]
      by_cases he : [] ∈ l
      · rw [decide_eq_true he]
        refine k_seq (k_seq ?_)
        refine rv (D.int IntKind.i64 (↑k : Int)) ?_
        refine rv (D.int IntKind.i64 (↑(List.length l) : Int)) ?_
        refine rv (D.bool (decide ((↑k : Int) < (↑(List.length l) : Int)))) ?_
        refine k_done (k_skip_seq ?_)
        refine rkn 88 (decide ((↑k : Int) < (↑(List.length l) : Int))) false (decide_eq_false (by omega)) ?_
        refine kcf (k_exit_seq (k_exit_back (k_exit_hit rfl (k_skip_seq (k_seq (k_seq ?_))))))
        refine rv (D.sl (rows (l ++ [more])) none) ?_
        refine rv (D.sl (trips s2) none) ?_
        refine runs_call ([D.sl (rows (l ++ [more])) none, D.sl (trips s2) none]) (by kernel_rfl) (by kernel_rfl) (by kernel_rfl) (by kernel_rfl) (hpm') (by kernel_rfl) ?_
        refine rv (D.bool false) ?_
        refine rv (D.bool false) ?_
        refine rv (D.sl (rows l) none) ?_
        refine rv (D.lptr (9 : Nat) (2 : Nat)) ?_
        refine rv (D.sl (trips st) none) ?_
        refine runs_call ([D.sl (rows l) none, D.sl (trips st) none]) (by kernel_rfl) (by kernel_rfl) (by kernel_rfl) (by kernel_rfl) (hpc') (by kernel_rfl) ?_
        refine rv (D.bool false) ?_
        refine rv (D.bool false) ?_
        refine k_done (k_skip_seq (kcf (k_skip_seq (k_seq ?_))))
        refine rv (D.bool true) ?_
        refine rv (D.bool true) ?_
        refine rno (rno (rno (rno (rno (rno (rno (rno (rno ?_))))))))
        refine rv (D.bool true) ?_
        refine ra0 (D.bool true) ?_
        refine k_done (k_skip_seq (k_ret ?_))
        exact ⟨.inr rfl, by kernel_rfl, [], by kernel_rfl⟩
      · obtain ⟨r1, r2⟩ := q4 he
        rw [r1] at hpn'
        rw [r2] at hpe
        rw [decide_eq_false he]
        refine k_seq (k_seq ?_)
        refine rv (D.int IntKind.i64 (↑k : Int)) ?_
        refine rv (D.int IntKind.i64 (↑(List.length l) : Int)) ?_
        refine rv (D.bool (decide ((↑k : Int) < (↑(List.length l) : Int)))) ?_
        refine k_done (k_skip_seq ?_)
        refine rkn 88 (decide ((↑k : Int) < (↑(List.length l) : Int))) false (decide_eq_false (by omega)) ?_
        refine kcf (k_exit_seq (k_exit_back (k_exit_hit rfl (k_skip_seq (k_seq (k_seq ?_))))))
        refine rv (D.sl (rows (l ++ [more])) none) ?_
        refine rv (D.sl (trips s2) none) ?_
        refine runs_call ([D.sl (rows (l ++ [more])) none, D.sl (trips s2) none]) (by kernel_rfl) (by kernel_rfl) (by kernel_rfl) (by kernel_rfl) (hpm') (by kernel_rfl) ?_
        refine rv (D.bool false) ?_
        refine rv (D.bool false) ?_
        refine rv (D.sl (rows l) none) ?_
        refine rv (D.lptr (9 : Nat) (2 : Nat)) ?_
        refine rv (D.sl (trips st) none) ?_
        refine runs_call ([D.sl (rows l) none, D.sl (trips st) none]) (by kernel_rfl) (by kernel_rfl) (by kernel_rfl) (by kernel_rfl) (hpc') (by kernel_rfl) ?_
        refine rv (D.bool false) ?_
        refine rv (D.bool false) ?_
        refine k_done (k_skip_seq (kcf (k_skip_seq (k_seq ?_))))
        refine rv (D.bool false) ?_
        refine rv (D.bool false) ?_
        refine rv (D.lptr (9 : Nat) (2 : Nat)) ?_
        refine rv (D.sl (trips st) none) ?_
        refine runs_call ([D.sl [] none, D.sl (trips st) none]) (by kernel_rfl) (by kernel_rfl) (by kernel_rfl) (by kernel_rfl) (hpn') (by kernel_rfl) ?_
        refine rv (D.bool true) ?_
        refine rv (D.bool true) ?_
        refine rv (D.sl (rows l) none) ?_
        refine runs_call ([D.sl (rows l) none, D.sl [] none]) (by kernel_rfl) (by kernel_rfl) (by kernel_rfl) (by kernel_rfl) (hpe) (by kernel_rfl) ?_
        refine rv (D.bool true) ?_
        refine rv (D.bool true) ?_
        refine rv (D.bool true) ?_
        refine ra0 (D.bool true) ?_
        refine k_done (k_skip_seq (k_ret ?_))
        exact ⟨.inr rfl, by kernel_rfl, [], by kernel_rfl⟩
end Go.Abs.B
