/-
  The statement LogicMany as the machine code sees it.
-/
import Derived.Test.YtjmhfliaehhijaaKont
import Derived.Test.YtjmhfliaehhijaaA11
set_option linter.unusedVariables false
set_option linter.unusedSimpArgs false
namespace Go.Abs.A
open Go Go.Abs
set_option maxRecDepth 8000
attribute [local irreducible] callN runC evalOp

/-- Atoms in a row, from 1 on. -/
def ats (n : Nat) : List Fm := (List.range n).map fun (i : Nat) => .mk 3 ((i : Int) + 1) []
theorem ats_succ (n : Nat) : ats (n + 1) = ats n ++ [.mk 3 ((n : Int) + 1) []] := by
  unfold ats
  rw [List.range_succ, List.map_append]
  rfl
theorem ats_len (n : Nat) : (ats n).length = n := by simp [ats]
theorem ats_mem {n : Nat} {k : Fm} (h : k ∈ ats n) : ∃ i : Nat, i < n ∧ k = .mk 3 ((i : Int) + 1) [] := by
  obtain ⟨i, hi, rfl⟩ := List.mem_map.1 h
  exact ⟨i, List.mem_range.1 hi, rfl⟩
theorem atom_eval {a : List Bool} {i : Nat} (h : i < a.length) : evalR 1 (.mk 3 ((i : Int) + 1) []) a = a[i] := by
  show atomB ((i : Int) + 1) a = _
  have h1 : ((i : Int) + 1 - 1).toNat = i := by omega
  rw [atomB_in (by omega) (by rw [h1]; exact h)]
  simp only [h1]
theorem ats_all (a : List Bool) : (ats a.length).all (evalR 1 · a) = a.all id := by
  rw [Bool.eq_iff_iff, List.all_eq_true, List.all_eq_true]
  constructor
  · intro h x hx
    obtain ⟨i, hi, rfl⟩ := List.mem_iff_getElem.1 hx
    have := h (.mk 3 ((i : Int) + 1) []) (List.mem_map.2 ⟨i, List.mem_range.2 hi, rfl⟩)
    rw [atom_eval hi] at this
    exact this
  · intro h k hk
    obtain ⟨i, hi, rfl⟩ := ats_mem hk
    rw [atom_eval hi]
    exact h _ (List.getElem_mem hi)
theorem ats_any (a : List Bool) : (ats a.length).any (evalR 1 · a) = a.any id := by
  rw [Bool.eq_iff_iff, List.any_eq_true, List.any_eq_true]
  constructor
  · rintro ⟨k, hk, h⟩
    obtain ⟨i, hi, rfl⟩ := ats_mem hk
    rw [atom_eval hi] at h
    exact ⟨_, List.getElem_mem hi, h⟩
  · rintro ⟨x, hx, h⟩
    obtain ⟨i, hi, rfl⟩ := List.mem_iff_getElem.1 hx
    exact ⟨.mk 3 ((i : Int) + 1) [], List.mem_map.2 ⟨i, List.mem_range.2 hi, rfl⟩, by rw [atom_eval hi]; exact h⟩
def cntT (a : List Bool) : Nat := (a.filter id).length
theorem cntT_take {a : List Bool} {i : Nat} (h : i < a.length) : cntT (a.take (i + 1)) = if a[i] = true then cntT (a.take i) + 1 else cntT (a.take i) := by
  unfold cntT
  rw [List.take_succ_eq_append_getElem h, List.filter_append, List.length_append]
  by_cases hp : a[i] = true
  · simp [List.filter_cons, hp]
  · simp [List.filter_cons, hp]
theorem cntT_le (a : List Bool) : cntT a ≤ a.length := List.length_filter_le _ _
theorem cntT_all : ∀ a : List Bool, a.all id = decide (cntT a = a.length)
  | [] => rfl
  | x :: xs => by
    have h1 := cntT_all xs
    have h2 := cntT_le xs
    unfold cntT at h1 h2 ⊢
    cases x with
    | true => simp only [List.all_cons, List.filter_cons, id, if_true, Bool.true_and, List.length_cons, Nat.add_right_cancel_iff]; exact h1
    | false =>
      simp only [List.all_cons, List.filter_cons, id, Bool.false_eq_true, if_false, Bool.false_and, List.length_cons]
      exact (decide_eq_false (by omega)).symm
theorem cntT_any : ∀ a : List Bool, a.any id = decide (cntT a > 0)
  | [] => rfl
  | x :: xs => by
    have h1 := cntT_any xs
    unfold cntT at h1 ⊢
    cases x with
    | true => simp
    | false => simp only [List.any_cons, List.filter_cons, id, Bool.false_eq_true, if_false, Bool.false_or]; exact h1
theorem ats_atoms (op : Int) (hop : op ≠ 3) (n : Nat) : atomsR 2 (.mk op 0 (ats n)) = n := by
  show (ats n).foldl (fun n k => if atomsR 1 k > n then atomsR 1 k else n) (atom0 (.mk op 0 (ats n))) = n
  rw [show atom0 (.mk op 0 (ats n)) = 0 from if_neg hop]
  induction n with
  | zero => rfl
  | succ n ih =>
    rw [ats_succ, List.foldl_append, ih]
    have h1 : atomsR 1 (.mk 3 ((n : Int) + 1) []) = (n : Int) + 1 := by
      show atom0 (.mk 3 ((n : Int) + 1) []) = _
      show (if (3 : Int) = 3 then (if 0 > (n : Int) + 1 then 0 else (n : Int) + 1) else 0) = _
      rw [if_pos rfl, if_neg (by omega)]
    show (if atomsR 1 (.mk 3 ((n : Int) + 1) []) > (n : Int) then atomsR 1 (.mk 3 ((n : Int) + 1) []) else (n : Int)) = _
    rw [h1, if_pos (by omega)]
    omega
theorem ats_fits (op : Int) {n : Nat} (h : n ≤ 60) : fits 2 (.mk op 0 (ats n)) := by
  refine ⟨by show (ats n).length ≤ 60; rw [ats_len]; exact h, fun k hk => ?_⟩
  obtain ⟨i, _, rfl⟩ := ats_mem hk
  exact ⟨by simp [Fm.kids_mk], fun k hk => by simp [Fm.kids_mk] at hk⟩
theorem ats_check (op : Int) (hop : op = 5 ∨ op = 6) {n : Nat} (h : n ≤ 60) : checkF 2 (.mk op 0 (ats n)) = 0 := by
  unfold checkF
  have := depthR_bound 2 (.mk op 0 (ats n))
  rw [if_neg (by omega)]
  have hm : mayR 2 (.mk op 0 (ats n)) = true := by
    rw [mayR_go ⟨by simp only [Fm.op_mk]; omega, by simp only [Fm.op_mk]; omega, by simp only [Fm.op_mk]; omega, by simp only [Fm.op_mk]; omega, by simp only [Fm.op_mk]; omega⟩, List.all_eq_true]
    intro k hk
    obtain ⟨i, hi, rfl⟩ := ats_mem hk
    rw [mayR_go ⟨by simp only [Fm.op_mk]; omega, by simp only [Fm.op_mk]; omega, by simp [Fm.kids_mk], by simp only [Fm.op_mk]; omega, by simp only [Fm.op_mk, Fm.n_mk]; omega⟩]
    rfl
  rw [if_pos hm]
theorem one_check (n : Int) : checkF 1 (.mk 3 n []) = if 1 ≤ n ∧ n ≤ 1000 then 0 else 1 := by
  unfold checkF
  have := depthR_bound 1 (.mk 3 n [])
  rw [if_neg (by omega)]
  by_cases h : 1 ≤ n ∧ n ≤ 1000
  · rw [if_pos h, mayR_go ⟨by simp only [Fm.op_mk]; omega, by simp only [Fm.op_mk]; omega, by simp [Fm.kids_mk], by simp only [Fm.op_mk]; omega, by simp only [Fm.op_mk, Fm.n_mk]; omega⟩]
    rfl
  · rw [if_neg h, mayR_no (f := .mk 3 n []) (fun hh => hh.2.2.2.2 ⟨rfl, show n < 1 ∨ n > 1000 by omega⟩)]
    rfl

def f7 (a : List Bool) (b : Bool) (op u i so : Int) (ks : List (List D)) : Fr := Fr.mk ([.sl (bools a) none, .bool b, .int .u16 u, .junk, .junk, .junk, .bool false, .junk, .lptr 8 0, .int .i64 so, .int .i64 i] ++ List.replicate 89 .junk)
  ((List.replicate 100 none).set 8 (some [.int .i64 op, .int .i64 0, .sl ks (some 24)])) []
theorem eFs_ats (n : Nat) : eFs (ats (n + 1)) = eFs (ats n) ++ [[.int .i64 3, .int .i64 ((n : Int) + 1), .sl [] none]] := by
  rw [ats_succ, eFs_append]
  simp [eFs_map, eF_leaf]
theorem lawMany_ok (a : List Bool) (b : Bool) (u : Int) (o : Option Nat) (hu : 0 ≤ u ∧ u ≤ 65535) : ∃ σ, callN T 5001 7 [.sl (bools a) o, .bool b, .int .u16 u] [] = some (.bool true, σ) := by
  refine ⟨[], ?_⟩
  refine call_of (m := m7) rfl rfl (by decide) (k_start ?_)
  unfold m7
  by_cases h60 : a.length > 60
  · refine k_seq ?_
    refine runs_v (D.bool false) (by kernel_rfl) (by kernel_rfl) ?_
    refine k_done ?_
    refine k_skip_seq ?_
    refine k_seq ?_
    refine runs_call ([]) (by kernel_rfl) (by kernel_rfl) (by kernel_rfl) (by kernel_rfl) (awake_ok) (by kernel_rfl) ?_
    refine runs_assign0 (D.bool true) (by kernel_rfl) (by kernel_rfl) (by kernel_rfl) ?_
    refine k_done ?_
    refine k_skip_seq ?_
    refine k_seq ?_
    refine k_seq ?_
    refine runs_v (D.bool true) (by kernel_rfl) (by kernel_rfl) ?_
    refine runs_v (D.bool false) (by kernel_rfl) (by kernel_rfl) ?_
    refine k_done ?_
    refine k_skip_seq ?_
    refine k_cond_f (by kernel_rfl) ?_
    refine k_skip_seq ?_
    refine k_seq ?_
    refine k_seq ?_
    refine runs_v (D.sl (bools a) none) (by kernel_rfl) (by kernel_rfl) ?_
    refine runs_ve (D.int IntKind.i64 (↑(List.length (bools a)) : Int)) (.int IntKind.i64 ((↑(List.length a) : Int))) (by simp only [ints, eInt, rows, eInts, bools, eBool, trips, eTrip, List.length_map]) (by kernel_rfl) (by kernel_rfl) ?_
    refine runs_v (D.bool (decide ((↑(List.length a) : Int) > (60 : Int)))) (by kernel_rfl) (by kernel_rfl) ?_
    refine k_done ?_
    refine k_skip_seq ?_
    refine runs_know 18 (d := .bool (decide ((↑(List.length a) : Int) > (60 : Int)))) (d' := .bool true) (by kernel_rfl) (congrArg D.bool (show (decide ((↑(List.length a) : Int) > (60 : Int))) = true from (decide_eq_true (by omega)))) ?_
    refine k_cond_t (by kernel_rfl) ?_
    refine k_seq ?_
    refine runs_v (D.bool true) (by kernel_rfl) (by kernel_rfl) ?_
    refine k_done ?_
    refine k_skip_seq ?_
    refine k_ret ?_
    exact ⟨.inr rfl, by kernel_rfl, by kernel_rfl⟩
  cases b with
  | true =>
    refine k_seq ?_
    refine runs_v (D.bool false) (by kernel_rfl) (by kernel_rfl) ?_
    refine k_done ?_
    refine k_skip_seq ?_
    refine k_seq ?_
    refine runs_call ([]) (by kernel_rfl) (by kernel_rfl) (by kernel_rfl) (by kernel_rfl) (awake_ok) (by kernel_rfl) ?_
    refine runs_assign0 (D.bool true) (by kernel_rfl) (by kernel_rfl) (by kernel_rfl) ?_
    refine k_done ?_
    refine k_skip_seq ?_
    refine k_seq ?_
    refine k_seq ?_
    refine runs_v (D.bool true) (by kernel_rfl) (by kernel_rfl) ?_
    refine runs_v (D.bool false) (by kernel_rfl) (by kernel_rfl) ?_
    refine k_done ?_
    refine k_skip_seq ?_
    refine k_cond_f (by kernel_rfl) ?_
    refine k_skip_seq ?_
    refine k_seq ?_
    refine k_seq ?_
    refine runs_v (D.sl (bools a) none) (by kernel_rfl) (by kernel_rfl) ?_
    refine runs_ve (D.int IntKind.i64 (↑(List.length (bools a)) : Int)) (.int IntKind.i64 ((↑(List.length a) : Int))) (by simp only [ints, eInt, rows, eInts, bools, eBool, trips, eTrip, List.length_map]) (by kernel_rfl) (by kernel_rfl) ?_
    refine runs_v (D.bool (decide ((↑(List.length a) : Int) > (60 : Int)))) (by kernel_rfl) (by kernel_rfl) ?_
    refine k_done ?_
    refine k_skip_seq ?_
    refine runs_know 18 (d := .bool (decide ((↑(List.length a) : Int) > (60 : Int)))) (d' := .bool false) (by kernel_rfl) (congrArg D.bool (show (decide ((↑(List.length a) : Int) > (60 : Int))) = false from (decide_eq_false (by omega)))) ?_
    refine k_cond_f (by kernel_rfl) ?_
    refine k_skip_seq ?_
    refine k_seq ?_
    refine runs_v (D.agg [D.int IntKind.i64 (6 : Int), D.int IntKind.i64 (0 : Int), D.nils (24 : Nat)]) (by kernel_rfl) (by kernel_rfl) ?_
    refine runs_gf (D.lptr (8 : Nat) (0 : Nat)) ([]) (by kernel_rfl) (by kernel_rfl) ?_
    refine runs_gf (D.junk) ([]) (by kernel_rfl) (by kernel_rfl) ?_
    refine k_done ?_
    refine k_skip_seq ?_
    refine k_seq ?_
    refine k_seq ?_
    refine runs_v (D.bool true) (by kernel_rfl) (by kernel_rfl) ?_
    refine k_done ?_
    refine k_skip_seq ?_
    refine k_cond_t (by kernel_rfl) ?_
    refine runs_v (D.lptr (8 : Nat) (0 : Nat)) (by kernel_rfl) (by kernel_rfl) ?_
    refine runs_gf (D.junk) ([]) (by kernel_rfl) (by kernel_rfl) ?_
    refine k_done ?_
    refine k_skip_seq ?_
    refine k_seq ?_
    refine runs_v (D.int IntKind.i64 (0 : Int)) (by kernel_rfl) (by kernel_rfl) ?_
    refine k_done ?_
    refine k_skip_seq ?_
    refine k_seq ?_
    refine k_seq ?_
    refine runs_v (D.int IntKind.i64 (0 : Int)) (by kernel_rfl) (by kernel_rfl) ?_
    refine k_done ?_
    refine k_skip_seq ?_
    refine k_block ?_
    refine k_loop (fun i : Nat => f7 a true 5 u i (cntT (a.take i)) (eFs (ats i))) (fun _ => []) (fun i => i ≤ a.length) (fun i => a.length - i) 0 (by kernel_rfl) rfl (by simp) (by intro s hs; omega) ?_
    intro i hi
    have hc := cntT_le (a.take i)
    have hct := fun h => cntT_take (a := a) (i := i) h
    have hl : (eFs (ats i)).length = i := by rw [eFs_length, ats_len]
    have hs := eFs_ats i
    have htl : (a.take i).length = i := by simp; omega
    by_cases hlt : i < a.length
    · generalize eFs (ats i) = ks at *
      generalize cntT (a.take i) = m at *
      have h1 := hct hlt
      by_cases hb : a[i] = true
      · rw [if_pos hb] at h1
        refine k_seq ?_
        refine k_seq ?_
        refine runs_v (D.int IntKind.i64 (↑i : Int)) (by kernel_rfl) (by kernel_rfl) ?_
        refine runs_v (D.sl (bools a) none) (by kernel_rfl) (by kernel_rfl) ?_
        refine runs_ve (D.int IntKind.i64 (↑(List.length (bools a)) : Int)) (.int IntKind.i64 ((↑(List.length a) : Int))) (by simp only [ints, eInt, rows, eInts, bools, eBool, trips, eTrip, List.length_map, hb]) (by kernel_rfl) (by kernel_rfl) ?_
        refine runs_v (D.bool (decide ((↑i : Int) < (↑(List.length a) : Int)))) (by kernel_rfl) (by kernel_rfl) ?_
        refine k_done ?_
        refine k_skip_seq ?_
        refine runs_know 25 (d := .bool (decide ((↑i : Int) < (↑(List.length a) : Int)))) (d' := .bool true) (by kernel_rfl) (congrArg D.bool (show (decide ((↑i : Int) < (↑(List.length a) : Int))) = true from (decide_eq_true (by omega)))) ?_
        refine k_cond_t (by kernel_rfl) ?_
        refine k_skip_seq ?_
        refine k_seq ?_
        refine k_block ?_
        refine k_seq ?_
        refine runs_v (D.lptr (8 : Nat) (2 : Nat)) (by kernel_rfl) (by kernel_rfl) ?_
        refine runs_gf (D.sl ks (some (24 : Nat))) ([]) (by kernel_rfl) (by kernel_rfl) ?_
        refine runs_v (D.int IntKind.i64 (↑i : Int)) (by kernel_rfl) (by kernel_rfl) ?_
        refine runs_ve (D.int IntKind.i64 (IntKind.wrap IntKind.i64 ((↑i : Int) + (1 : Int)))) (.int IntKind.i64 ((i + 1 : Nat) : Int)) (congrArg (D.int IntKind.i64) (show IntKind.wrap IntKind.i64 ((↑i : Int) + (1 : Int)) = ((i + 1 : Nat) : Int) from wrap_eq (by omega) (by omega) (by omega))) (by kernel_rfl) (by kernel_rfl) ?_
        refine runs_v (D.agg [D.int IntKind.i64 (3 : Int), D.int IntKind.i64 (↑(i + (1 : Nat)) : Int), D.nils (24 : Nat)]) (by kernel_rfl) (by kernel_rfl) ?_
        refine runs_v (D.sl [[D.int IntKind.i64 (3 : Int), D.int IntKind.i64 (↑(i + (1 : Nat)) : Int), D.sl [] none]] (some (24 : Nat))) (by kernel_rfl) (by kernel_rfl) ?_
        refine runs_append (ks) ([[D.int IntKind.i64 (3 : Int), D.int IntKind.i64 (↑(i + (1 : Nat)) : Int), D.sl [] none]]) (ks ++ [[D.int IntKind.i64 (3 : Int), D.int IntKind.i64 (↑(i + (1 : Nat)) : Int), D.sl [] none]]) (by kernel_rfl) (by kernel_rfl) (by kernel_rfl) (by kernel_rfl) (by simp [hb, ints, eInt, rows, eInts, bools, eBool, trips, eTrip, room]; omega) rfl ?_
        refine runs_v (D.lptr (8 : Nat) (2 : Nat)) (by kernel_rfl) (by kernel_rfl) ?_
        refine runs_gf (D.junk) ([]) (by kernel_rfl) (by kernel_rfl) ?_
        refine k_done ?_
        refine k_skip_seq ?_
        refine k_seq ?_
        refine runs_v (D.sl (bools a) none) (by kernel_rfl) (by kernel_rfl) ?_
        refine runs_v (D.int IntKind.i64 (↑i : Int)) (by kernel_rfl) (by kernel_rfl) ?_
        refine runs_index (a) (eBool) (o := none) (kd := IntKind.i64) (i) (by kernel_rfl) (by kernel_rfl) (by kernel_rfl) (by assumption) (by kernel_rfl) ?_
        refine runs_v (D.bool a[i]) (by kernel_rfl) (by kernel_rfl) ?_
        refine k_done ?_
        refine k_skip_seq ?_
        refine runs_know 39 (d := .bool (a[i])) (d' := .bool true) (by kernel_rfl) (congrArg D.bool (show (a[i]) = true from (by assumption))) ?_
        refine k_cond_t (by kernel_rfl) ?_
        refine runs_v (D.int IntKind.i64 (↑m : Int)) (by kernel_rfl) (by kernel_rfl) ?_
        refine runs_ve (D.int IntKind.i64 (IntKind.wrap IntKind.i64 ((↑m : Int) + (1 : Int)))) (.int IntKind.i64 ((m + 1 : Nat) : Int)) (congrArg (D.int IntKind.i64) (show IntKind.wrap IntKind.i64 ((↑m : Int) + (1 : Int)) = ((m + 1 : Nat) : Int) from wrap_eq (by omega) (by omega) (by omega))) (by kernel_rfl) (by kernel_rfl) ?_
        refine runs_assign0 (D.int IntKind.i64 (↑(m + (1 : Nat)) : Int)) (by kernel_rfl) (by kernel_rfl) (by kernel_rfl) ?_
        refine k_done ?_
        refine k_skip_block ?_
        refine k_skip_seq ?_
        refine runs_v (D.int IntKind.i64 (↑i : Int)) (by kernel_rfl) (by kernel_rfl) ?_
        refine runs_ve (D.int IntKind.i64 (IntKind.wrap IntKind.i64 ((↑i : Int) + (1 : Int)))) (.int IntKind.i64 ((i + 1 : Nat) : Int)) (congrArg (D.int IntKind.i64) (show IntKind.wrap IntKind.i64 ((↑i : Int) + (1 : Int)) = ((i + 1 : Nat) : Int) from wrap_eq (by omega) (by omega) (by omega))) (by kernel_rfl) (by kernel_rfl) ?_
        refine runs_assign0 (D.int IntKind.i64 (↑(i + (1 : Nat)) : Int)) (by kernel_rfl) (by kernel_rfl) (by kernel_rfl) ?_
        refine k_done ?_
        refine k_skip_back ?_
        exact ⟨i + 1, hlt, by omega, by rw [hs, h1]; kernel_rfl, rfl⟩
      · rw [if_neg hb] at h1
        have hb' : a[i] = false := by simpa using hb
        refine k_seq ?_
        refine k_seq ?_
        refine runs_v (D.int IntKind.i64 (↑i : Int)) (by kernel_rfl) (by kernel_rfl) ?_
        refine runs_v (D.sl (bools a) none) (by kernel_rfl) (by kernel_rfl) ?_
        refine runs_ve (D.int IntKind.i64 (↑(List.length (bools a)) : Int)) (.int IntKind.i64 ((↑(List.length a) : Int))) (by simp only [ints, eInt, rows, eInts, bools, eBool, trips, eTrip, List.length_map, hb']) (by kernel_rfl) (by kernel_rfl) ?_
        refine runs_v (D.bool (decide ((↑i : Int) < (↑(List.length a) : Int)))) (by kernel_rfl) (by kernel_rfl) ?_
        refine k_done ?_
        refine k_skip_seq ?_
        refine runs_know 25 (d := .bool (decide ((↑i : Int) < (↑(List.length a) : Int)))) (d' := .bool true) (by kernel_rfl) (congrArg D.bool (show (decide ((↑i : Int) < (↑(List.length a) : Int))) = true from (decide_eq_true (by omega)))) ?_
        refine k_cond_t (by kernel_rfl) ?_
        refine k_skip_seq ?_
        refine k_seq ?_
        refine k_block ?_
        refine k_seq ?_
        refine runs_v (D.lptr (8 : Nat) (2 : Nat)) (by kernel_rfl) (by kernel_rfl) ?_
        refine runs_gf (D.sl ks (some (24 : Nat))) ([]) (by kernel_rfl) (by kernel_rfl) ?_
        refine runs_v (D.int IntKind.i64 (↑i : Int)) (by kernel_rfl) (by kernel_rfl) ?_
        refine runs_ve (D.int IntKind.i64 (IntKind.wrap IntKind.i64 ((↑i : Int) + (1 : Int)))) (.int IntKind.i64 ((i + 1 : Nat) : Int)) (congrArg (D.int IntKind.i64) (show IntKind.wrap IntKind.i64 ((↑i : Int) + (1 : Int)) = ((i + 1 : Nat) : Int) from wrap_eq (by omega) (by omega) (by omega))) (by kernel_rfl) (by kernel_rfl) ?_
        refine runs_v (D.agg [D.int IntKind.i64 (3 : Int), D.int IntKind.i64 (↑(i + (1 : Nat)) : Int), D.nils (24 : Nat)]) (by kernel_rfl) (by kernel_rfl) ?_
        refine runs_v (D.sl [[D.int IntKind.i64 (3 : Int), D.int IntKind.i64 (↑(i + (1 : Nat)) : Int), D.sl [] none]] (some (24 : Nat))) (by kernel_rfl) (by kernel_rfl) ?_
        refine runs_append (ks) ([[D.int IntKind.i64 (3 : Int), D.int IntKind.i64 (↑(i + (1 : Nat)) : Int), D.sl [] none]]) (ks ++ [[D.int IntKind.i64 (3 : Int), D.int IntKind.i64 (↑(i + (1 : Nat)) : Int), D.sl [] none]]) (by kernel_rfl) (by kernel_rfl) (by kernel_rfl) (by kernel_rfl) (by simp [hb', ints, eInt, rows, eInts, bools, eBool, trips, eTrip, room]; omega) rfl ?_
        refine runs_v (D.lptr (8 : Nat) (2 : Nat)) (by kernel_rfl) (by kernel_rfl) ?_
        refine runs_gf (D.junk) ([]) (by kernel_rfl) (by kernel_rfl) ?_
        refine k_done ?_
        refine k_skip_seq ?_
        refine k_seq ?_
        refine runs_v (D.sl (bools a) none) (by kernel_rfl) (by kernel_rfl) ?_
        refine runs_v (D.int IntKind.i64 (↑i : Int)) (by kernel_rfl) (by kernel_rfl) ?_
        refine runs_index (a) (eBool) (o := none) (kd := IntKind.i64) (i) (by kernel_rfl) (by kernel_rfl) (by kernel_rfl) (by assumption) (by kernel_rfl) ?_
        refine runs_v (D.bool a[i]) (by kernel_rfl) (by kernel_rfl) ?_
        refine k_done ?_
        refine k_skip_seq ?_
        refine runs_know 39 (d := .bool (a[i])) (d' := .bool false) (by kernel_rfl) (congrArg D.bool (show (a[i]) = false from (by assumption))) ?_
        refine k_cond_f (by kernel_rfl) ?_
        refine k_skip_block ?_
        refine k_skip_seq ?_
        refine runs_v (D.int IntKind.i64 (↑i : Int)) (by kernel_rfl) (by kernel_rfl) ?_
        refine runs_ve (D.int IntKind.i64 (IntKind.wrap IntKind.i64 ((↑i : Int) + (1 : Int)))) (.int IntKind.i64 ((i + 1 : Nat) : Int)) (congrArg (D.int IntKind.i64) (show IntKind.wrap IntKind.i64 ((↑i : Int) + (1 : Int)) = ((i + 1 : Nat) : Int) from wrap_eq (by omega) (by omega) (by omega))) (by kernel_rfl) (by kernel_rfl) ?_
        refine runs_assign0 (D.int IntKind.i64 (↑(i + (1 : Nat)) : Int)) (by kernel_rfl) (by kernel_rfl) (by kernel_rfl) ?_
        refine k_done ?_
        refine k_skip_back ?_
        exact ⟨i + 1, hlt, by omega, by rw [hs, h1]; kernel_rfl, rfl⟩
    · have hia : i = a.length := by omega
      subst hia
      rw [List.take_length]
      have hfit := ats_fits 5 (n := a.length) (by omega)
      have e2 := atoms_ok 2 (.mk 5 0 (ats a.length)) 5000 [] hfit (by omega)
      rw [ats_atoms 5 (by omega)] at e2
      have e3 := check_ok 2 (.mk 5 0 (ats a.length)) 4999 [] hfit (by omega) (by omega)
      rw [ats_check 5 (by omega) (by omega)] at e3
      have hu2 : IntKind.wrap IntKind.i64 u = u := wrap_eq rfl (by omega) (by omega)
      have e4 := check_ok 1 (.mk 3 u []) 4999 [] ⟨by simp [Fm.kids_mk], fun k hk => by simp [Fm.kids_mk] at hk⟩ (by omega) (by omega)
      rw [one_check, eF_leaf] at e4
      obtain ⟨σ1, e1⟩ := eval_ok 2 (.mk 5 0 (ats a.length)) a none 5000 hfit (by omega) (by omega)
      obtain ⟨σ2, e5⟩ := eval_ok 3 (.mk 4 0 [.mk 5 0 (ats a.length)]) a none 5000 ⟨by simp [Fm.kids_mk], fun k hk => by simp only [Fm.kids_mk, List.mem_singleton] at hk; subst hk; exact hfit⟩ (by omega) (by omega)
      rw [eval_not, eF_one] at e5
      have hev : evalR 2 (.mk 5 0 (ats a.length)) a = decide (cntT a = a.length) := by
        rw [← cntT_all, ← ats_all]
        rfl
      rw [hev] at e1 e5
      generalize cntT a = so at *
      by_cases q : so = a.length
      · rw [decide_eq_true q] at e1 e5
        rw [show eF (.mk 5 0 (ats a.length)) = [.int .i64 5, .int .i64 0, .sl (eFs (ats a.length)) none] from rfl] at e1 e2 e3 e5
        generalize eFs (ats a.length) = ks at *
        by_cases hf : 1 ≤ u ∧ u ≤ 1000
        · rw [if_pos hf] at e4
          have w1 : u ≥ 1 := by omega
          have w2 : u ≤ 1000 := by omega
          refine k_seq ?_
          refine k_seq ?_
          refine runs_v (D.int IntKind.i64 (↑(List.length a) : Int)) (by kernel_rfl) (by kernel_rfl) ?_
          refine runs_v (D.sl (bools a) none) (by kernel_rfl) (by kernel_rfl) ?_
          refine runs_ve (D.int IntKind.i64 (↑(List.length (bools a)) : Int)) (.int IntKind.i64 ((↑(List.length a) : Int))) (by simp only [ints, eInt, rows, eInts, bools, eBool, trips, eTrip, List.length_map]) (by kernel_rfl) (by kernel_rfl) ?_
          refine runs_v (D.bool (decide ((↑(List.length a) : Int) < (↑(List.length a) : Int)))) (by kernel_rfl) (by kernel_rfl) ?_
          refine k_done ?_
          refine k_skip_seq ?_
          refine runs_know 25 (d := .bool (decide ((↑(List.length a) : Int) < (↑(List.length a) : Int)))) (d' := .bool false) (by kernel_rfl) (congrArg D.bool (show (decide ((↑(List.length a) : Int) < (↑(List.length a) : Int))) = false from (decide_eq_false (by omega)))) ?_
          refine k_cond_f (by kernel_rfl) ?_
          refine k_exit_seq ?_
          refine k_exit_back ?_
          refine k_exit_hit rfl ?_
          refine k_skip_seq ?_
          refine k_seq ?_
          refine runs_v (D.int IntKind.u16 u) (by kernel_rfl) (by kernel_rfl) ?_
          refine runs_ve (D.int IntKind.i64 (IntKind.wrap IntKind.i64 u)) (.int IntKind.i64 (u)) (congrArg (D.int IntKind.i64) (show IntKind.wrap IntKind.i64 u = (u) from wrap_eq (by omega) (by omega) (by omega))) (by kernel_rfl) (by kernel_rfl) ?_
          refine runs_v (D.agg [D.int IntKind.i64 (3 : Int), D.int IntKind.i64 u, D.nils (24 : Nat)]) (by kernel_rfl) (by kernel_rfl) ?_
          refine runs_gf (D.lptr (11 : Nat) (0 : Nat)) ([]) (by kernel_rfl) (by kernel_rfl) ?_
          refine runs_gf (D.junk) ([]) (by kernel_rfl) (by kernel_rfl) ?_
          refine k_done ?_
          refine k_skip_seq ?_
          refine k_seq ?_
          refine runs_v (D.int IntKind.u16 u) (by kernel_rfl) (by kernel_rfl) ?_
          refine runs_v (D.bool (decide (u ≥ (1 : Int)))) (by kernel_rfl) (by kernel_rfl) ?_
          refine runs_v (D.bool (decide (u ≥ (1 : Int)))) (by kernel_rfl) (by kernel_rfl) ?_
          refine runs_know 47 (d := .bool (decide (u ≥ (1 : Int)))) (d' := .bool true) (by kernel_rfl) (congrArg D.bool (show (decide (u ≥ (1 : Int))) = true from (decide_eq_true (by assumption)))) ?_
          refine runs_v (D.int IntKind.u16 u) (by kernel_rfl) (by kernel_rfl) ?_
          refine runs_v (D.bool (decide (u ≤ (1000 : Int)))) (by kernel_rfl) (by kernel_rfl) ?_
          refine runs_v (D.bool (decide (u ≤ (1000 : Int)))) (by kernel_rfl) (by kernel_rfl) ?_
          refine runs_assign0 (D.bool (decide (u ≤ (1000 : Int)))) (by kernel_rfl) (by kernel_rfl) (by kernel_rfl) ?_
          refine k_done ?_
          refine k_skip_seq ?_
          refine k_seq ?_
          refine runs_v (D.agg [D.int IntKind.i64 (5 : Int), D.int IntKind.i64 (0 : Int), D.sl ks none]) (by kernel_rfl) (by kernel_rfl) ?_
          refine runs_v (D.sl (bools a) none) (by kernel_rfl) (by kernel_rfl) ?_
          refine runs_callQ ([D.agg [D.int IntKind.i64 (5 : Int), D.int IntKind.i64 (0 : Int), D.sl ks none], D.sl (bools a) none]) (by kernel_rfl) (by kernel_rfl) (by kernel_rfl) (by kernel_rfl) (e1) (by kernel_rfl) ?_
          refine runs_v (D.bool true) (by kernel_rfl) (by kernel_rfl) ?_
          refine runs_v (D.bool true) (by kernel_rfl) (by kernel_rfl) ?_
          refine runs_v (D.int IntKind.i64 (↑so : Int)) (by kernel_rfl) (by kernel_rfl) ?_
          refine runs_v (D.sl (bools a) none) (by kernel_rfl) (by kernel_rfl) ?_
          refine runs_ve (D.int IntKind.i64 (↑(List.length (bools a)) : Int)) (.int IntKind.i64 ((↑(List.length a) : Int))) (by simp only [ints, eInt, rows, eInts, bools, eBool, trips, eTrip, List.length_map]) (by kernel_rfl) (by kernel_rfl) ?_
          refine runs_v (D.bool ((↑so : Int) == (↑(List.length a) : Int))) (by kernel_rfl) (by kernel_rfl) ?_
          refine runs_v (D.bool ((↑so : Int) == (↑(List.length a) : Int))) (by kernel_rfl) (by kernel_rfl) ?_
          refine runs_v (D.bool ((↑so : Int) == (↑(List.length a) : Int))) (by kernel_rfl) (by kernel_rfl) ?_
          refine runs_know 61 (d := .bool ((↑so : Int) == (↑(List.length a) : Int))) (d' := .bool true) (by kernel_rfl) (congrArg D.bool (show ((↑so : Int) == (↑(List.length a) : Int)) = true from (decide_eq_true (by omega)))) ?_
          refine runs_no (by kernel_rfl) ?_
          refine runs_no (by kernel_rfl) ?_
          refine runs_no (by kernel_rfl) ?_
          refine runs_no (by kernel_rfl) ?_
          refine runs_no (by kernel_rfl) ?_
          refine runs_no (by kernel_rfl) ?_
          refine runs_v (D.bool true) (by kernel_rfl) (by kernel_rfl) ?_
          refine runs_v (D.bool true) (by kernel_rfl) (by kernel_rfl) ?_
          refine runs_v (D.bool true) (by kernel_rfl) (by kernel_rfl) ?_
          refine runs_v (D.agg [D.int IntKind.i64 (5 : Int), D.int IntKind.i64 (0 : Int), D.sl ks none]) (by kernel_rfl) (by kernel_rfl) ?_
          refine runs_callQ ([D.agg [D.int IntKind.i64 (5 : Int), D.int IntKind.i64 (0 : Int), D.sl ks none]]) (by kernel_rfl) (by kernel_rfl) (by kernel_rfl) (by kernel_rfl) (e2) (by kernel_rfl) ?_
          refine runs_v (D.sl (bools a) none) (by kernel_rfl) (by kernel_rfl) ?_
          refine runs_ve (D.int IntKind.i64 (↑(List.length (bools a)) : Int)) (.int IntKind.i64 ((↑(List.length a) : Int))) (by simp only [ints, eInt, rows, eInts, bools, eBool, trips, eTrip, List.length_map]) (by kernel_rfl) (by kernel_rfl) ?_
          refine runs_v (D.bool ((↑(List.length a) : Int) == (↑(List.length a) : Int))) (by kernel_rfl) (by kernel_rfl) ?_
          refine runs_v (D.bool ((↑(List.length a) : Int) == (↑(List.length a) : Int))) (by kernel_rfl) (by kernel_rfl) ?_
          refine runs_v (D.bool ((↑(List.length a) : Int) == (↑(List.length a) : Int))) (by kernel_rfl) (by kernel_rfl) ?_
          refine runs_know 77 (d := .bool ((↑(List.length a) : Int) == (↑(List.length a) : Int))) (d' := .bool true) (by kernel_rfl) (congrArg D.bool (show ((↑(List.length a) : Int) == (↑(List.length a) : Int)) = true from (decide_eq_true (by omega)))) ?_
          refine runs_v (D.agg [D.int IntKind.i64 (5 : Int), D.int IntKind.i64 (0 : Int), D.sl ks none]) (by kernel_rfl) (by kernel_rfl) ?_
          refine runs_callQ ([D.agg [D.int IntKind.i64 (5 : Int), D.int IntKind.i64 (0 : Int), D.sl ks none]]) (by kernel_rfl) (by kernel_rfl) (by kernel_rfl) (by kernel_rfl) (e3) (by kernel_rfl) ?_
          refine runs_v (D.bool true) (by kernel_rfl) (by kernel_rfl) ?_
          refine runs_v (D.bool true) (by kernel_rfl) (by kernel_rfl) ?_
          refine runs_v (D.bool true) (by kernel_rfl) (by kernel_rfl) ?_
          refine runs_v (D.agg [D.int IntKind.i64 (3 : Int), D.int IntKind.i64 u, D.sl [] none]) (by kernel_rfl) (by kernel_rfl) ?_
          refine runs_callQ ([D.agg [D.int IntKind.i64 (3 : Int), D.int IntKind.i64 u, D.sl [] none]]) (by kernel_rfl) (by kernel_rfl) (by kernel_rfl) (by kernel_rfl) (e4) (by kernel_rfl) ?_
          refine runs_v (D.bool true) (by kernel_rfl) (by kernel_rfl) ?_
          refine runs_v (D.bool (decide (u ≤ (1000 : Int)))) (by kernel_rfl) (by kernel_rfl) ?_
          refine runs_v (D.bool ((true == decide (u ≤ (1000 : Int))) != false)) (by kernel_rfl) (by kernel_rfl) ?_
          refine runs_v (D.bool ((true == decide (u ≤ (1000 : Int))) != false)) (by kernel_rfl) (by kernel_rfl) ?_
          refine runs_v (D.bool ((true == decide (u ≤ (1000 : Int))) != false)) (by kernel_rfl) (by kernel_rfl) ?_
          refine runs_know 89 (d := .bool ((true == decide (u ≤ (1000 : Int))) != false)) (d' := .bool true) (by kernel_rfl) (congrArg D.bool (show ((true == decide (u ≤ (1000 : Int))) != false) = true from (by simp [ints, eInt, rows, eInts, bools, eBool, trips, eTrip, *]))) ?_
          refine runs_v (D.agg [D.int IntKind.i64 (5 : Int), D.int IntKind.i64 (0 : Int), D.sl ks none]) (by kernel_rfl) (by kernel_rfl) ?_
          refine runs_v (D.sl [[D.int IntKind.i64 (5 : Int), D.int IntKind.i64 (0 : Int), D.sl ks none]] (some (24 : Nat))) (by kernel_rfl) (by kernel_rfl) ?_
          refine runs_v (D.agg [D.int IntKind.i64 (4 : Int), D.int IntKind.i64 (0 : Int), D.sl [[D.int IntKind.i64 (5 : Int), D.int IntKind.i64 (0 : Int), D.sl ks none]] none]) (by kernel_rfl) (by kernel_rfl) ?_
          refine runs_v (D.sl (bools a) none) (by kernel_rfl) (by kernel_rfl) ?_
          refine runs_callQ ([D.agg [D.int IntKind.i64 (4 : Int), D.int IntKind.i64 (0 : Int), D.sl [[D.int IntKind.i64 (5 : Int), D.int IntKind.i64 (0 : Int), D.sl ks none]] none], D.sl (bools a) none]) (by kernel_rfl) (by kernel_rfl) (by kernel_rfl) (by kernel_rfl) (e5) (by kernel_rfl) ?_
          refine runs_v (D.agg [D.int IntKind.i64 (5 : Int), D.int IntKind.i64 (0 : Int), D.sl ks none]) (by kernel_rfl) (by kernel_rfl) ?_
          refine runs_v (D.sl (bools a) none) (by kernel_rfl) (by kernel_rfl) ?_
          refine runs_callQ ([D.agg [D.int IntKind.i64 (5 : Int), D.int IntKind.i64 (0 : Int), D.sl ks none], D.sl (bools a) none]) (by kernel_rfl) (by kernel_rfl) (by kernel_rfl) (by kernel_rfl) (e1) (by kernel_rfl) ?_
          refine runs_v (D.bool true) (by kernel_rfl) (by kernel_rfl) ?_
          refine runs_v (D.bool true) (by kernel_rfl) (by kernel_rfl) ?_
          refine runs_assign0 (D.bool true) (by kernel_rfl) (by kernel_rfl) (by kernel_rfl) ?_
          refine k_done ?_
          refine k_skip_seq ?_
          refine k_ret ?_
          exact ⟨.inr rfl, by kernel_rfl, by kernel_rfl⟩
        · rw [if_neg hf] at e4
          by_cases w1 : u ≥ 1
          · have w2 : ¬ u ≤ 1000 := by omega
            refine k_seq ?_
            refine k_seq ?_
            refine runs_v (D.int IntKind.i64 (↑(List.length a) : Int)) (by kernel_rfl) (by kernel_rfl) ?_
            refine runs_v (D.sl (bools a) none) (by kernel_rfl) (by kernel_rfl) ?_
            refine runs_ve (D.int IntKind.i64 (↑(List.length (bools a)) : Int)) (.int IntKind.i64 ((↑(List.length a) : Int))) (by simp only [ints, eInt, rows, eInts, bools, eBool, trips, eTrip, List.length_map]) (by kernel_rfl) (by kernel_rfl) ?_
            refine runs_v (D.bool (decide ((↑(List.length a) : Int) < (↑(List.length a) : Int)))) (by kernel_rfl) (by kernel_rfl) ?_
            refine k_done ?_
            refine k_skip_seq ?_
            refine runs_know 25 (d := .bool (decide ((↑(List.length a) : Int) < (↑(List.length a) : Int)))) (d' := .bool false) (by kernel_rfl) (congrArg D.bool (show (decide ((↑(List.length a) : Int) < (↑(List.length a) : Int))) = false from (decide_eq_false (by omega)))) ?_
            refine k_cond_f (by kernel_rfl) ?_
            refine k_exit_seq ?_
            refine k_exit_back ?_
            refine k_exit_hit rfl ?_
            refine k_skip_seq ?_
            refine k_seq ?_
            refine runs_v (D.int IntKind.u16 u) (by kernel_rfl) (by kernel_rfl) ?_
            refine runs_ve (D.int IntKind.i64 (IntKind.wrap IntKind.i64 u)) (.int IntKind.i64 (u)) (congrArg (D.int IntKind.i64) (show IntKind.wrap IntKind.i64 u = (u) from wrap_eq (by omega) (by omega) (by omega))) (by kernel_rfl) (by kernel_rfl) ?_
            refine runs_v (D.agg [D.int IntKind.i64 (3 : Int), D.int IntKind.i64 u, D.nils (24 : Nat)]) (by kernel_rfl) (by kernel_rfl) ?_
            refine runs_gf (D.lptr (11 : Nat) (0 : Nat)) ([]) (by kernel_rfl) (by kernel_rfl) ?_
            refine runs_gf (D.junk) ([]) (by kernel_rfl) (by kernel_rfl) ?_
            refine k_done ?_
            refine k_skip_seq ?_
            refine k_seq ?_
            refine runs_v (D.int IntKind.u16 u) (by kernel_rfl) (by kernel_rfl) ?_
            refine runs_v (D.bool (decide (u ≥ (1 : Int)))) (by kernel_rfl) (by kernel_rfl) ?_
            refine runs_v (D.bool (decide (u ≥ (1 : Int)))) (by kernel_rfl) (by kernel_rfl) ?_
            refine runs_know 47 (d := .bool (decide (u ≥ (1 : Int)))) (d' := .bool true) (by kernel_rfl) (congrArg D.bool (show (decide (u ≥ (1 : Int))) = true from (decide_eq_true (by assumption)))) ?_
            refine runs_v (D.int IntKind.u16 u) (by kernel_rfl) (by kernel_rfl) ?_
            refine runs_v (D.bool (decide (u ≤ (1000 : Int)))) (by kernel_rfl) (by kernel_rfl) ?_
            refine runs_v (D.bool (decide (u ≤ (1000 : Int)))) (by kernel_rfl) (by kernel_rfl) ?_
            refine runs_assign0 (D.bool (decide (u ≤ (1000 : Int)))) (by kernel_rfl) (by kernel_rfl) (by kernel_rfl) ?_
            refine k_done ?_
            refine k_skip_seq ?_
            refine k_seq ?_
            refine runs_v (D.agg [D.int IntKind.i64 (5 : Int), D.int IntKind.i64 (0 : Int), D.sl ks none]) (by kernel_rfl) (by kernel_rfl) ?_
            refine runs_v (D.sl (bools a) none) (by kernel_rfl) (by kernel_rfl) ?_
            refine runs_callQ ([D.agg [D.int IntKind.i64 (5 : Int), D.int IntKind.i64 (0 : Int), D.sl ks none], D.sl (bools a) none]) (by kernel_rfl) (by kernel_rfl) (by kernel_rfl) (by kernel_rfl) (e1) (by kernel_rfl) ?_
            refine runs_v (D.bool true) (by kernel_rfl) (by kernel_rfl) ?_
            refine runs_v (D.bool true) (by kernel_rfl) (by kernel_rfl) ?_
            refine runs_v (D.int IntKind.i64 (↑so : Int)) (by kernel_rfl) (by kernel_rfl) ?_
            refine runs_v (D.sl (bools a) none) (by kernel_rfl) (by kernel_rfl) ?_
            refine runs_ve (D.int IntKind.i64 (↑(List.length (bools a)) : Int)) (.int IntKind.i64 ((↑(List.length a) : Int))) (by simp only [ints, eInt, rows, eInts, bools, eBool, trips, eTrip, List.length_map]) (by kernel_rfl) (by kernel_rfl) ?_
            refine runs_v (D.bool ((↑so : Int) == (↑(List.length a) : Int))) (by kernel_rfl) (by kernel_rfl) ?_
            refine runs_v (D.bool ((↑so : Int) == (↑(List.length a) : Int))) (by kernel_rfl) (by kernel_rfl) ?_
            refine runs_v (D.bool ((↑so : Int) == (↑(List.length a) : Int))) (by kernel_rfl) (by kernel_rfl) ?_
            refine runs_know 61 (d := .bool ((↑so : Int) == (↑(List.length a) : Int))) (d' := .bool true) (by kernel_rfl) (congrArg D.bool (show ((↑so : Int) == (↑(List.length a) : Int)) = true from (decide_eq_true (by omega)))) ?_
            refine runs_no (by kernel_rfl) ?_
            refine runs_no (by kernel_rfl) ?_
            refine runs_no (by kernel_rfl) ?_
            refine runs_no (by kernel_rfl) ?_
            refine runs_no (by kernel_rfl) ?_
            refine runs_no (by kernel_rfl) ?_
            refine runs_v (D.bool true) (by kernel_rfl) (by kernel_rfl) ?_
            refine runs_v (D.bool true) (by kernel_rfl) (by kernel_rfl) ?_
            refine runs_v (D.bool true) (by kernel_rfl) (by kernel_rfl) ?_
            refine runs_v (D.agg [D.int IntKind.i64 (5 : Int), D.int IntKind.i64 (0 : Int), D.sl ks none]) (by kernel_rfl) (by kernel_rfl) ?_
            refine runs_callQ ([D.agg [D.int IntKind.i64 (5 : Int), D.int IntKind.i64 (0 : Int), D.sl ks none]]) (by kernel_rfl) (by kernel_rfl) (by kernel_rfl) (by kernel_rfl) (e2) (by kernel_rfl) ?_
            refine runs_v (D.sl (bools a) none) (by kernel_rfl) (by kernel_rfl) ?_
            refine runs_ve (D.int IntKind.i64 (↑(List.length (bools a)) : Int)) (.int IntKind.i64 ((↑(List.length a) : Int))) (by simp only [ints, eInt, rows, eInts, bools, eBool, trips, eTrip, List.length_map]) (by kernel_rfl) (by kernel_rfl) ?_
            refine runs_v (D.bool ((↑(List.length a) : Int) == (↑(List.length a) : Int))) (by kernel_rfl) (by kernel_rfl) ?_
            refine runs_v (D.bool ((↑(List.length a) : Int) == (↑(List.length a) : Int))) (by kernel_rfl) (by kernel_rfl) ?_
            refine runs_v (D.bool ((↑(List.length a) : Int) == (↑(List.length a) : Int))) (by kernel_rfl) (by kernel_rfl) ?_
            refine runs_know 77 (d := .bool ((↑(List.length a) : Int) == (↑(List.length a) : Int))) (d' := .bool true) (by kernel_rfl) (congrArg D.bool (show ((↑(List.length a) : Int) == (↑(List.length a) : Int)) = true from (decide_eq_true (by omega)))) ?_
            refine runs_v (D.agg [D.int IntKind.i64 (5 : Int), D.int IntKind.i64 (0 : Int), D.sl ks none]) (by kernel_rfl) (by kernel_rfl) ?_
            refine runs_callQ ([D.agg [D.int IntKind.i64 (5 : Int), D.int IntKind.i64 (0 : Int), D.sl ks none]]) (by kernel_rfl) (by kernel_rfl) (by kernel_rfl) (by kernel_rfl) (e3) (by kernel_rfl) ?_
            refine runs_v (D.bool true) (by kernel_rfl) (by kernel_rfl) ?_
            refine runs_v (D.bool true) (by kernel_rfl) (by kernel_rfl) ?_
            refine runs_v (D.bool true) (by kernel_rfl) (by kernel_rfl) ?_
            refine runs_v (D.agg [D.int IntKind.i64 (3 : Int), D.int IntKind.i64 u, D.sl [] none]) (by kernel_rfl) (by kernel_rfl) ?_
            refine runs_callQ ([D.agg [D.int IntKind.i64 (3 : Int), D.int IntKind.i64 u, D.sl [] none]]) (by kernel_rfl) (by kernel_rfl) (by kernel_rfl) (by kernel_rfl) (e4) (by kernel_rfl) ?_
            refine runs_v (D.bool false) (by kernel_rfl) (by kernel_rfl) ?_
            refine runs_v (D.bool (decide (u ≤ (1000 : Int)))) (by kernel_rfl) (by kernel_rfl) ?_
            refine runs_v (D.bool ((false == decide (u ≤ (1000 : Int))) != false)) (by kernel_rfl) (by kernel_rfl) ?_
            refine runs_v (D.bool ((false == decide (u ≤ (1000 : Int))) != false)) (by kernel_rfl) (by kernel_rfl) ?_
            refine runs_v (D.bool ((false == decide (u ≤ (1000 : Int))) != false)) (by kernel_rfl) (by kernel_rfl) ?_
            refine runs_know 89 (d := .bool ((false == decide (u ≤ (1000 : Int))) != false)) (d' := .bool true) (by kernel_rfl) (congrArg D.bool (show ((false == decide (u ≤ (1000 : Int))) != false) = true from (by simp [ints, eInt, rows, eInts, bools, eBool, trips, eTrip, *]))) ?_
            refine runs_v (D.agg [D.int IntKind.i64 (5 : Int), D.int IntKind.i64 (0 : Int), D.sl ks none]) (by kernel_rfl) (by kernel_rfl) ?_
            refine runs_v (D.sl [[D.int IntKind.i64 (5 : Int), D.int IntKind.i64 (0 : Int), D.sl ks none]] (some (24 : Nat))) (by kernel_rfl) (by kernel_rfl) ?_
            refine runs_v (D.agg [D.int IntKind.i64 (4 : Int), D.int IntKind.i64 (0 : Int), D.sl [[D.int IntKind.i64 (5 : Int), D.int IntKind.i64 (0 : Int), D.sl ks none]] none]) (by kernel_rfl) (by kernel_rfl) ?_
            refine runs_v (D.sl (bools a) none) (by kernel_rfl) (by kernel_rfl) ?_
            refine runs_callQ ([D.agg [D.int IntKind.i64 (4 : Int), D.int IntKind.i64 (0 : Int), D.sl [[D.int IntKind.i64 (5 : Int), D.int IntKind.i64 (0 : Int), D.sl ks none]] none], D.sl (bools a) none]) (by kernel_rfl) (by kernel_rfl) (by kernel_rfl) (by kernel_rfl) (e5) (by kernel_rfl) ?_
            refine runs_v (D.agg [D.int IntKind.i64 (5 : Int), D.int IntKind.i64 (0 : Int), D.sl ks none]) (by kernel_rfl) (by kernel_rfl) ?_
            refine runs_v (D.sl (bools a) none) (by kernel_rfl) (by kernel_rfl) ?_
            refine runs_callQ ([D.agg [D.int IntKind.i64 (5 : Int), D.int IntKind.i64 (0 : Int), D.sl ks none], D.sl (bools a) none]) (by kernel_rfl) (by kernel_rfl) (by kernel_rfl) (by kernel_rfl) (e1) (by kernel_rfl) ?_
            refine runs_v (D.bool true) (by kernel_rfl) (by kernel_rfl) ?_
            refine runs_v (D.bool true) (by kernel_rfl) (by kernel_rfl) ?_
            refine runs_assign0 (D.bool true) (by kernel_rfl) (by kernel_rfl) (by kernel_rfl) ?_
            refine k_done ?_
            refine k_skip_seq ?_
            refine k_ret ?_
            exact ⟨.inr rfl, by kernel_rfl, by kernel_rfl⟩
          · refine k_seq ?_
            refine k_seq ?_
            refine runs_v (D.int IntKind.i64 (↑(List.length a) : Int)) (by kernel_rfl) (by kernel_rfl) ?_
            refine runs_v (D.sl (bools a) none) (by kernel_rfl) (by kernel_rfl) ?_
            refine runs_ve (D.int IntKind.i64 (↑(List.length (bools a)) : Int)) (.int IntKind.i64 ((↑(List.length a) : Int))) (by simp only [ints, eInt, rows, eInts, bools, eBool, trips, eTrip, List.length_map]) (by kernel_rfl) (by kernel_rfl) ?_
            refine runs_v (D.bool (decide ((↑(List.length a) : Int) < (↑(List.length a) : Int)))) (by kernel_rfl) (by kernel_rfl) ?_
            refine k_done ?_
            refine k_skip_seq ?_
            refine runs_know 25 (d := .bool (decide ((↑(List.length a) : Int) < (↑(List.length a) : Int)))) (d' := .bool false) (by kernel_rfl) (congrArg D.bool (show (decide ((↑(List.length a) : Int) < (↑(List.length a) : Int))) = false from (decide_eq_false (by omega)))) ?_
            refine k_cond_f (by kernel_rfl) ?_
            refine k_exit_seq ?_
            refine k_exit_back ?_
            refine k_exit_hit rfl ?_
            refine k_skip_seq ?_
            refine k_seq ?_
            refine runs_v (D.int IntKind.u16 u) (by kernel_rfl) (by kernel_rfl) ?_
            refine runs_ve (D.int IntKind.i64 (IntKind.wrap IntKind.i64 u)) (.int IntKind.i64 (u)) (congrArg (D.int IntKind.i64) (show IntKind.wrap IntKind.i64 u = (u) from wrap_eq (by omega) (by omega) (by omega))) (by kernel_rfl) (by kernel_rfl) ?_
            refine runs_v (D.agg [D.int IntKind.i64 (3 : Int), D.int IntKind.i64 u, D.nils (24 : Nat)]) (by kernel_rfl) (by kernel_rfl) ?_
            refine runs_gf (D.lptr (11 : Nat) (0 : Nat)) ([]) (by kernel_rfl) (by kernel_rfl) ?_
            refine runs_gf (D.junk) ([]) (by kernel_rfl) (by kernel_rfl) ?_
            refine k_done ?_
            refine k_skip_seq ?_
            refine k_seq ?_
            refine runs_v (D.int IntKind.u16 u) (by kernel_rfl) (by kernel_rfl) ?_
            refine runs_v (D.bool (decide (u ≥ (1 : Int)))) (by kernel_rfl) (by kernel_rfl) ?_
            refine runs_v (D.bool (decide (u ≥ (1 : Int)))) (by kernel_rfl) (by kernel_rfl) ?_
            refine runs_know 47 (d := .bool (decide (u ≥ (1 : Int)))) (d' := .bool false) (by kernel_rfl) (congrArg D.bool (show (decide (u ≥ (1 : Int))) = false from (decide_eq_false (by assumption)))) ?_
            refine runs_no (by kernel_rfl) ?_
            refine runs_no (by kernel_rfl) ?_
            refine runs_v (D.bool false) (by kernel_rfl) (by kernel_rfl) ?_
            refine runs_assign0 (D.bool false) (by kernel_rfl) (by kernel_rfl) (by kernel_rfl) ?_
            refine k_done ?_
            refine k_skip_seq ?_
            refine k_seq ?_
            refine runs_v (D.agg [D.int IntKind.i64 (5 : Int), D.int IntKind.i64 (0 : Int), D.sl ks none]) (by kernel_rfl) (by kernel_rfl) ?_
            refine runs_v (D.sl (bools a) none) (by kernel_rfl) (by kernel_rfl) ?_
            refine runs_callQ ([D.agg [D.int IntKind.i64 (5 : Int), D.int IntKind.i64 (0 : Int), D.sl ks none], D.sl (bools a) none]) (by kernel_rfl) (by kernel_rfl) (by kernel_rfl) (by kernel_rfl) (e1) (by kernel_rfl) ?_
            refine runs_v (D.bool true) (by kernel_rfl) (by kernel_rfl) ?_
            refine runs_v (D.bool true) (by kernel_rfl) (by kernel_rfl) ?_
            refine runs_v (D.int IntKind.i64 (↑so : Int)) (by kernel_rfl) (by kernel_rfl) ?_
            refine runs_v (D.sl (bools a) none) (by kernel_rfl) (by kernel_rfl) ?_
            refine runs_ve (D.int IntKind.i64 (↑(List.length (bools a)) : Int)) (.int IntKind.i64 ((↑(List.length a) : Int))) (by simp only [ints, eInt, rows, eInts, bools, eBool, trips, eTrip, List.length_map]) (by kernel_rfl) (by kernel_rfl) ?_
            refine runs_v (D.bool ((↑so : Int) == (↑(List.length a) : Int))) (by kernel_rfl) (by kernel_rfl) ?_
            refine runs_v (D.bool ((↑so : Int) == (↑(List.length a) : Int))) (by kernel_rfl) (by kernel_rfl) ?_
            refine runs_v (D.bool ((↑so : Int) == (↑(List.length a) : Int))) (by kernel_rfl) (by kernel_rfl) ?_
            refine runs_know 61 (d := .bool ((↑so : Int) == (↑(List.length a) : Int))) (d' := .bool true) (by kernel_rfl) (congrArg D.bool (show ((↑so : Int) == (↑(List.length a) : Int)) = true from (decide_eq_true (by omega)))) ?_
            refine runs_no (by kernel_rfl) ?_
            refine runs_no (by kernel_rfl) ?_
            refine runs_no (by kernel_rfl) ?_
            refine runs_no (by kernel_rfl) ?_
            refine runs_no (by kernel_rfl) ?_
            refine runs_no (by kernel_rfl) ?_
            refine runs_v (D.bool true) (by kernel_rfl) (by kernel_rfl) ?_
            refine runs_v (D.bool true) (by kernel_rfl) (by kernel_rfl) ?_
            refine runs_v (D.bool true) (by kernel_rfl) (by kernel_rfl) ?_
            refine runs_v (D.agg [D.int IntKind.i64 (5 : Int), D.int IntKind.i64 (0 : Int), D.sl ks none]) (by kernel_rfl) (by kernel_rfl) ?_
            refine runs_callQ ([D.agg [D.int IntKind.i64 (5 : Int), D.int IntKind.i64 (0 : Int), D.sl ks none]]) (by kernel_rfl) (by kernel_rfl) (by kernel_rfl) (by kernel_rfl) (e2) (by kernel_rfl) ?_
            refine runs_v (D.sl (bools a) none) (by kernel_rfl) (by kernel_rfl) ?_
            refine runs_ve (D.int IntKind.i64 (↑(List.length (bools a)) : Int)) (.int IntKind.i64 ((↑(List.length a) : Int))) (by simp only [ints, eInt, rows, eInts, bools, eBool, trips, eTrip, List.length_map]) (by kernel_rfl) (by kernel_rfl) ?_
            refine runs_v (D.bool ((↑(List.length a) : Int) == (↑(List.length a) : Int))) (by kernel_rfl) (by kernel_rfl) ?_
            refine runs_v (D.bool ((↑(List.length a) : Int) == (↑(List.length a) : Int))) (by kernel_rfl) (by kernel_rfl) ?_
            refine runs_v (D.bool ((↑(List.length a) : Int) == (↑(List.length a) : Int))) (by kernel_rfl) (by kernel_rfl) ?_
            refine runs_know 77 (d := .bool ((↑(List.length a) : Int) == (↑(List.length a) : Int))) (d' := .bool true) (by kernel_rfl) (congrArg D.bool (show ((↑(List.length a) : Int) == (↑(List.length a) : Int)) = true from (decide_eq_true (by omega)))) ?_
            refine runs_v (D.agg [D.int IntKind.i64 (5 : Int), D.int IntKind.i64 (0 : Int), D.sl ks none]) (by kernel_rfl) (by kernel_rfl) ?_
            refine runs_callQ ([D.agg [D.int IntKind.i64 (5 : Int), D.int IntKind.i64 (0 : Int), D.sl ks none]]) (by kernel_rfl) (by kernel_rfl) (by kernel_rfl) (by kernel_rfl) (e3) (by kernel_rfl) ?_
            refine runs_v (D.bool true) (by kernel_rfl) (by kernel_rfl) ?_
            refine runs_v (D.bool true) (by kernel_rfl) (by kernel_rfl) ?_
            refine runs_v (D.bool true) (by kernel_rfl) (by kernel_rfl) ?_
            refine runs_v (D.agg [D.int IntKind.i64 (3 : Int), D.int IntKind.i64 u, D.sl [] none]) (by kernel_rfl) (by kernel_rfl) ?_
            refine runs_callQ ([D.agg [D.int IntKind.i64 (3 : Int), D.int IntKind.i64 u, D.sl [] none]]) (by kernel_rfl) (by kernel_rfl) (by kernel_rfl) (by kernel_rfl) (e4) (by kernel_rfl) ?_
            refine runs_v (D.bool false) (by kernel_rfl) (by kernel_rfl) ?_
            refine runs_v (D.bool false) (by kernel_rfl) (by kernel_rfl) ?_
            refine runs_v (D.bool true) (by kernel_rfl) (by kernel_rfl) ?_
            refine runs_v (D.bool true) (by kernel_rfl) (by kernel_rfl) ?_
            refine runs_v (D.bool true) (by kernel_rfl) (by kernel_rfl) ?_
            refine runs_v (D.agg [D.int IntKind.i64 (5 : Int), D.int IntKind.i64 (0 : Int), D.sl ks none]) (by kernel_rfl) (by kernel_rfl) ?_
            refine runs_v (D.sl [[D.int IntKind.i64 (5 : Int), D.int IntKind.i64 (0 : Int), D.sl ks none]] (some (24 : Nat))) (by kernel_rfl) (by kernel_rfl) ?_
            refine runs_v (D.agg [D.int IntKind.i64 (4 : Int), D.int IntKind.i64 (0 : Int), D.sl [[D.int IntKind.i64 (5 : Int), D.int IntKind.i64 (0 : Int), D.sl ks none]] none]) (by kernel_rfl) (by kernel_rfl) ?_
            refine runs_v (D.sl (bools a) none) (by kernel_rfl) (by kernel_rfl) ?_
            refine runs_callQ ([D.agg [D.int IntKind.i64 (4 : Int), D.int IntKind.i64 (0 : Int), D.sl [[D.int IntKind.i64 (5 : Int), D.int IntKind.i64 (0 : Int), D.sl ks none]] none], D.sl (bools a) none]) (by kernel_rfl) (by kernel_rfl) (by kernel_rfl) (by kernel_rfl) (e5) (by kernel_rfl) ?_
            refine runs_v (D.agg [D.int IntKind.i64 (5 : Int), D.int IntKind.i64 (0 : Int), D.sl ks none]) (by kernel_rfl) (by kernel_rfl) ?_
            refine runs_v (D.sl (bools a) none) (by kernel_rfl) (by kernel_rfl) ?_
            refine runs_callQ ([D.agg [D.int IntKind.i64 (5 : Int), D.int IntKind.i64 (0 : Int), D.sl ks none], D.sl (bools a) none]) (by kernel_rfl) (by kernel_rfl) (by kernel_rfl) (by kernel_rfl) (e1) (by kernel_rfl) ?_
            refine runs_v (D.bool true) (by kernel_rfl) (by kernel_rfl) ?_
            refine runs_v (D.bool true) (by kernel_rfl) (by kernel_rfl) ?_
            refine runs_assign0 (D.bool true) (by kernel_rfl) (by kernel_rfl) (by kernel_rfl) ?_
            refine k_done ?_
            refine k_skip_seq ?_
            refine k_ret ?_
            exact ⟨.inr rfl, by kernel_rfl, by kernel_rfl⟩
      · rw [decide_eq_false q] at e1 e5
        rw [show eF (.mk 5 0 (ats a.length)) = [.int .i64 5, .int .i64 0, .sl (eFs (ats a.length)) none] from rfl] at e1 e2 e3 e5
        generalize eFs (ats a.length) = ks at *
        by_cases hf : 1 ≤ u ∧ u ≤ 1000
        · rw [if_pos hf] at e4
          have w1 : u ≥ 1 := by omega
          have w2 : u ≤ 1000 := by omega
          refine k_seq ?_
          refine k_seq ?_
          refine runs_v (D.int IntKind.i64 (↑(List.length a) : Int)) (by kernel_rfl) (by kernel_rfl) ?_
          refine runs_v (D.sl (bools a) none) (by kernel_rfl) (by kernel_rfl) ?_
          refine runs_ve (D.int IntKind.i64 (↑(List.length (bools a)) : Int)) (.int IntKind.i64 ((↑(List.length a) : Int))) (by simp only [ints, eInt, rows, eInts, bools, eBool, trips, eTrip, List.length_map]) (by kernel_rfl) (by kernel_rfl) ?_
          refine runs_v (D.bool (decide ((↑(List.length a) : Int) < (↑(List.length a) : Int)))) (by kernel_rfl) (by kernel_rfl) ?_
          refine k_done ?_
          refine k_skip_seq ?_
          refine runs_know 25 (d := .bool (decide ((↑(List.length a) : Int) < (↑(List.length a) : Int)))) (d' := .bool false) (by kernel_rfl) (congrArg D.bool (show (decide ((↑(List.length a) : Int) < (↑(List.length a) : Int))) = false from (decide_eq_false (by omega)))) ?_
          refine k_cond_f (by kernel_rfl) ?_
          refine k_exit_seq ?_
          refine k_exit_back ?_
          refine k_exit_hit rfl ?_
          refine k_skip_seq ?_
          refine k_seq ?_
          refine runs_v (D.int IntKind.u16 u) (by kernel_rfl) (by kernel_rfl) ?_
          refine runs_ve (D.int IntKind.i64 (IntKind.wrap IntKind.i64 u)) (.int IntKind.i64 (u)) (congrArg (D.int IntKind.i64) (show IntKind.wrap IntKind.i64 u = (u) from wrap_eq (by omega) (by omega) (by omega))) (by kernel_rfl) (by kernel_rfl) ?_
          refine runs_v (D.agg [D.int IntKind.i64 (3 : Int), D.int IntKind.i64 u, D.nils (24 : Nat)]) (by kernel_rfl) (by kernel_rfl) ?_
          refine runs_gf (D.lptr (11 : Nat) (0 : Nat)) ([]) (by kernel_rfl) (by kernel_rfl) ?_
          refine runs_gf (D.junk) ([]) (by kernel_rfl) (by kernel_rfl) ?_
          refine k_done ?_
          refine k_skip_seq ?_
          refine k_seq ?_
          refine runs_v (D.int IntKind.u16 u) (by kernel_rfl) (by kernel_rfl) ?_
          refine runs_v (D.bool (decide (u ≥ (1 : Int)))) (by kernel_rfl) (by kernel_rfl) ?_
          refine runs_v (D.bool (decide (u ≥ (1 : Int)))) (by kernel_rfl) (by kernel_rfl) ?_
          refine runs_know 47 (d := .bool (decide (u ≥ (1 : Int)))) (d' := .bool true) (by kernel_rfl) (congrArg D.bool (show (decide (u ≥ (1 : Int))) = true from (decide_eq_true (by assumption)))) ?_
          refine runs_v (D.int IntKind.u16 u) (by kernel_rfl) (by kernel_rfl) ?_
          refine runs_v (D.bool (decide (u ≤ (1000 : Int)))) (by kernel_rfl) (by kernel_rfl) ?_
          refine runs_v (D.bool (decide (u ≤ (1000 : Int)))) (by kernel_rfl) (by kernel_rfl) ?_
          refine runs_assign0 (D.bool (decide (u ≤ (1000 : Int)))) (by kernel_rfl) (by kernel_rfl) (by kernel_rfl) ?_
          refine k_done ?_
          refine k_skip_seq ?_
          refine k_seq ?_
          refine runs_v (D.agg [D.int IntKind.i64 (5 : Int), D.int IntKind.i64 (0 : Int), D.sl ks none]) (by kernel_rfl) (by kernel_rfl) ?_
          refine runs_v (D.sl (bools a) none) (by kernel_rfl) (by kernel_rfl) ?_
          refine runs_callQ ([D.agg [D.int IntKind.i64 (5 : Int), D.int IntKind.i64 (0 : Int), D.sl ks none], D.sl (bools a) none]) (by kernel_rfl) (by kernel_rfl) (by kernel_rfl) (by kernel_rfl) (e1) (by kernel_rfl) ?_
          refine runs_v (D.bool true) (by kernel_rfl) (by kernel_rfl) ?_
          refine runs_v (D.bool true) (by kernel_rfl) (by kernel_rfl) ?_
          refine runs_v (D.int IntKind.i64 (↑so : Int)) (by kernel_rfl) (by kernel_rfl) ?_
          refine runs_v (D.sl (bools a) none) (by kernel_rfl) (by kernel_rfl) ?_
          refine runs_ve (D.int IntKind.i64 (↑(List.length (bools a)) : Int)) (.int IntKind.i64 ((↑(List.length a) : Int))) (by simp only [ints, eInt, rows, eInts, bools, eBool, trips, eTrip, List.length_map]) (by kernel_rfl) (by kernel_rfl) ?_
          refine runs_v (D.bool ((↑so : Int) == (↑(List.length a) : Int))) (by kernel_rfl) (by kernel_rfl) ?_
          refine runs_v (D.bool ((↑so : Int) == (↑(List.length a) : Int))) (by kernel_rfl) (by kernel_rfl) ?_
          refine runs_v (D.bool ((↑so : Int) == (↑(List.length a) : Int))) (by kernel_rfl) (by kernel_rfl) ?_
          refine runs_know 61 (d := .bool ((↑so : Int) == (↑(List.length a) : Int))) (d' := .bool false) (by kernel_rfl) (congrArg D.bool (show ((↑so : Int) == (↑(List.length a) : Int)) = false from (decide_eq_false (by omega)))) ?_
          refine runs_v (D.bool true) (by kernel_rfl) (by kernel_rfl) ?_
          refine runs_v (D.bool false) (by kernel_rfl) (by kernel_rfl) ?_
          refine runs_v (D.bool false) (by kernel_rfl) (by kernel_rfl) ?_
          refine runs_no (by kernel_rfl) ?_
          refine runs_no (by kernel_rfl) ?_
          refine runs_v (D.bool false) (by kernel_rfl) (by kernel_rfl) ?_
          refine runs_v (D.bool false) (by kernel_rfl) (by kernel_rfl) ?_
          refine runs_v (D.bool true) (by kernel_rfl) (by kernel_rfl) ?_
          refine runs_v (D.bool true) (by kernel_rfl) (by kernel_rfl) ?_
          refine runs_v (D.agg [D.int IntKind.i64 (5 : Int), D.int IntKind.i64 (0 : Int), D.sl ks none]) (by kernel_rfl) (by kernel_rfl) ?_
          refine runs_callQ ([D.agg [D.int IntKind.i64 (5 : Int), D.int IntKind.i64 (0 : Int), D.sl ks none]]) (by kernel_rfl) (by kernel_rfl) (by kernel_rfl) (by kernel_rfl) (e2) (by kernel_rfl) ?_
          refine runs_v (D.sl (bools a) none) (by kernel_rfl) (by kernel_rfl) ?_
          refine runs_ve (D.int IntKind.i64 (↑(List.length (bools a)) : Int)) (.int IntKind.i64 ((↑(List.length a) : Int))) (by simp only [ints, eInt, rows, eInts, bools, eBool, trips, eTrip, List.length_map]) (by kernel_rfl) (by kernel_rfl) ?_
          refine runs_v (D.bool ((↑(List.length a) : Int) == (↑(List.length a) : Int))) (by kernel_rfl) (by kernel_rfl) ?_
          refine runs_v (D.bool ((↑(List.length a) : Int) == (↑(List.length a) : Int))) (by kernel_rfl) (by kernel_rfl) ?_
          refine runs_v (D.bool ((↑(List.length a) : Int) == (↑(List.length a) : Int))) (by kernel_rfl) (by kernel_rfl) ?_
          refine runs_know 77 (d := .bool ((↑(List.length a) : Int) == (↑(List.length a) : Int))) (d' := .bool true) (by kernel_rfl) (congrArg D.bool (show ((↑(List.length a) : Int) == (↑(List.length a) : Int)) = true from (decide_eq_true (by omega)))) ?_
          refine runs_v (D.agg [D.int IntKind.i64 (5 : Int), D.int IntKind.i64 (0 : Int), D.sl ks none]) (by kernel_rfl) (by kernel_rfl) ?_
          refine runs_callQ ([D.agg [D.int IntKind.i64 (5 : Int), D.int IntKind.i64 (0 : Int), D.sl ks none]]) (by kernel_rfl) (by kernel_rfl) (by kernel_rfl) (by kernel_rfl) (e3) (by kernel_rfl) ?_
          refine runs_v (D.bool true) (by kernel_rfl) (by kernel_rfl) ?_
          refine runs_v (D.bool true) (by kernel_rfl) (by kernel_rfl) ?_
          refine runs_v (D.bool true) (by kernel_rfl) (by kernel_rfl) ?_
          refine runs_v (D.agg [D.int IntKind.i64 (3 : Int), D.int IntKind.i64 u, D.sl [] none]) (by kernel_rfl) (by kernel_rfl) ?_
          refine runs_callQ ([D.agg [D.int IntKind.i64 (3 : Int), D.int IntKind.i64 u, D.sl [] none]]) (by kernel_rfl) (by kernel_rfl) (by kernel_rfl) (by kernel_rfl) (e4) (by kernel_rfl) ?_
          refine runs_v (D.bool true) (by kernel_rfl) (by kernel_rfl) ?_
          refine runs_v (D.bool (decide (u ≤ (1000 : Int)))) (by kernel_rfl) (by kernel_rfl) ?_
          refine runs_v (D.bool ((true == decide (u ≤ (1000 : Int))) != false)) (by kernel_rfl) (by kernel_rfl) ?_
          refine runs_v (D.bool ((true == decide (u ≤ (1000 : Int))) != false)) (by kernel_rfl) (by kernel_rfl) ?_
          refine runs_v (D.bool ((true == decide (u ≤ (1000 : Int))) != false)) (by kernel_rfl) (by kernel_rfl) ?_
          refine runs_know 89 (d := .bool ((true == decide (u ≤ (1000 : Int))) != false)) (d' := .bool true) (by kernel_rfl) (congrArg D.bool (show ((true == decide (u ≤ (1000 : Int))) != false) = true from (by simp [ints, eInt, rows, eInts, bools, eBool, trips, eTrip, *]))) ?_
          refine runs_v (D.agg [D.int IntKind.i64 (5 : Int), D.int IntKind.i64 (0 : Int), D.sl ks none]) (by kernel_rfl) (by kernel_rfl) ?_
          refine runs_v (D.sl [[D.int IntKind.i64 (5 : Int), D.int IntKind.i64 (0 : Int), D.sl ks none]] (some (24 : Nat))) (by kernel_rfl) (by kernel_rfl) ?_
          refine runs_v (D.agg [D.int IntKind.i64 (4 : Int), D.int IntKind.i64 (0 : Int), D.sl [[D.int IntKind.i64 (5 : Int), D.int IntKind.i64 (0 : Int), D.sl ks none]] none]) (by kernel_rfl) (by kernel_rfl) ?_
          refine runs_v (D.sl (bools a) none) (by kernel_rfl) (by kernel_rfl) ?_
          refine runs_callQ ([D.agg [D.int IntKind.i64 (4 : Int), D.int IntKind.i64 (0 : Int), D.sl [[D.int IntKind.i64 (5 : Int), D.int IntKind.i64 (0 : Int), D.sl ks none]] none], D.sl (bools a) none]) (by kernel_rfl) (by kernel_rfl) (by kernel_rfl) (by kernel_rfl) (e5) (by kernel_rfl) ?_
          refine runs_v (D.agg [D.int IntKind.i64 (5 : Int), D.int IntKind.i64 (0 : Int), D.sl ks none]) (by kernel_rfl) (by kernel_rfl) ?_
          refine runs_v (D.sl (bools a) none) (by kernel_rfl) (by kernel_rfl) ?_
          refine runs_callQ ([D.agg [D.int IntKind.i64 (5 : Int), D.int IntKind.i64 (0 : Int), D.sl ks none], D.sl (bools a) none]) (by kernel_rfl) (by kernel_rfl) (by kernel_rfl) (by kernel_rfl) (e1) (by kernel_rfl) ?_
          refine runs_v (D.bool true) (by kernel_rfl) (by kernel_rfl) ?_
          refine runs_v (D.bool true) (by kernel_rfl) (by kernel_rfl) ?_
          refine runs_assign0 (D.bool true) (by kernel_rfl) (by kernel_rfl) (by kernel_rfl) ?_
          refine k_done ?_
          refine k_skip_seq ?_
          refine k_ret ?_
          exact ⟨.inr rfl, by kernel_rfl, by kernel_rfl⟩
        · rw [if_neg hf] at e4
          by_cases w1 : u ≥ 1
          · have w2 : ¬ u ≤ 1000 := by omega
            refine k_seq ?_
            refine k_seq ?_
            refine runs_v (D.int IntKind.i64 (↑(List.length a) : Int)) (by kernel_rfl) (by kernel_rfl) ?_
            refine runs_v (D.sl (bools a) none) (by kernel_rfl) (by kernel_rfl) ?_
            refine runs_ve (D.int IntKind.i64 (↑(List.length (bools a)) : Int)) (.int IntKind.i64 ((↑(List.length a) : Int))) (by simp only [ints, eInt, rows, eInts, bools, eBool, trips, eTrip, List.length_map]) (by kernel_rfl) (by kernel_rfl) ?_
            refine runs_v (D.bool (decide ((↑(List.length a) : Int) < (↑(List.length a) : Int)))) (by kernel_rfl) (by kernel_rfl) ?_
            refine k_done ?_
            refine k_skip_seq ?_
            refine runs_know 25 (d := .bool (decide ((↑(List.length a) : Int) < (↑(List.length a) : Int)))) (d' := .bool false) (by kernel_rfl) (congrArg D.bool (show (decide ((↑(List.length a) : Int) < (↑(List.length a) : Int))) = false from (decide_eq_false (by omega)))) ?_
            refine k_cond_f (by kernel_rfl) ?_
            refine k_exit_seq ?_
            refine k_exit_back ?_
            refine k_exit_hit rfl ?_
            refine k_skip_seq ?_
            refine k_seq ?_
            refine runs_v (D.int IntKind.u16 u) (by kernel_rfl) (by kernel_rfl) ?_
            refine runs_ve (D.int IntKind.i64 (IntKind.wrap IntKind.i64 u)) (.int IntKind.i64 (u)) (congrArg (D.int IntKind.i64) (show IntKind.wrap IntKind.i64 u = (u) from wrap_eq (by omega) (by omega) (by omega))) (by kernel_rfl) (by kernel_rfl) ?_
            refine runs_v (D.agg [D.int IntKind.i64 (3 : Int), D.int IntKind.i64 u, D.nils (24 : Nat)]) (by kernel_rfl) (by kernel_rfl) ?_
            refine runs_gf (D.lptr (11 : Nat) (0 : Nat)) ([]) (by kernel_rfl) (by kernel_rfl) ?_
            refine runs_gf (D.junk) ([]) (by kernel_rfl) (by kernel_rfl) ?_
            refine k_done ?_
            refine k_skip_seq ?_
            refine k_seq ?_
            refine runs_v (D.int IntKind.u16 u) (by kernel_rfl) (by kernel_rfl) ?_
            refine runs_v (D.bool (decide (u ≥ (1 : Int)))) (by kernel_rfl) (by kernel_rfl) ?_
            refine runs_v (D.bool (decide (u ≥ (1 : Int)))) (by kernel_rfl) (by kernel_rfl) ?_
            refine runs_know 47 (d := .bool (decide (u ≥ (1 : Int)))) (d' := .bool true) (by kernel_rfl) (congrArg D.bool (show (decide (u ≥ (1 : Int))) = true from (decide_eq_true (by assumption)))) ?_
            refine runs_v (D.int IntKind.u16 u) (by kernel_rfl) (by kernel_rfl) ?_
            refine runs_v (D.bool (decide (u ≤ (1000 : Int)))) (by kernel_rfl) (by kernel_rfl) ?_
            refine runs_v (D.bool (decide (u ≤ (1000 : Int)))) (by kernel_rfl) (by kernel_rfl) ?_
            refine runs_assign0 (D.bool (decide (u ≤ (1000 : Int)))) (by kernel_rfl) (by kernel_rfl) (by kernel_rfl) ?_
            refine k_done ?_
            refine k_skip_seq ?_
            refine k_seq ?_
            refine runs_v (D.agg [D.int IntKind.i64 (5 : Int), D.int IntKind.i64 (0 : Int), D.sl ks none]) (by kernel_rfl) (by kernel_rfl) ?_
            refine runs_v (D.sl (bools a) none) (by kernel_rfl) (by kernel_rfl) ?_
            refine runs_callQ ([D.agg [D.int IntKind.i64 (5 : Int), D.int IntKind.i64 (0 : Int), D.sl ks none], D.sl (bools a) none]) (by kernel_rfl) (by kernel_rfl) (by kernel_rfl) (by kernel_rfl) (e1) (by kernel_rfl) ?_
            refine runs_v (D.bool true) (by kernel_rfl) (by kernel_rfl) ?_
            refine runs_v (D.bool true) (by kernel_rfl) (by kernel_rfl) ?_
            refine runs_v (D.int IntKind.i64 (↑so : Int)) (by kernel_rfl) (by kernel_rfl) ?_
            refine runs_v (D.sl (bools a) none) (by kernel_rfl) (by kernel_rfl) ?_
            refine runs_ve (D.int IntKind.i64 (↑(List.length (bools a)) : Int)) (.int IntKind.i64 ((↑(List.length a) : Int))) (by simp only [ints, eInt, rows, eInts, bools, eBool, trips, eTrip, List.length_map]) (by kernel_rfl) (by kernel_rfl) ?_
            refine runs_v (D.bool ((↑so : Int) == (↑(List.length a) : Int))) (by kernel_rfl) (by kernel_rfl) ?_
            refine runs_v (D.bool ((↑so : Int) == (↑(List.length a) : Int))) (by kernel_rfl) (by kernel_rfl) ?_
            refine runs_v (D.bool ((↑so : Int) == (↑(List.length a) : Int))) (by kernel_rfl) (by kernel_rfl) ?_
            refine runs_know 61 (d := .bool ((↑so : Int) == (↑(List.length a) : Int))) (d' := .bool false) (by kernel_rfl) (congrArg D.bool (show ((↑so : Int) == (↑(List.length a) : Int)) = false from (decide_eq_false (by omega)))) ?_
            refine runs_v (D.bool true) (by kernel_rfl) (by kernel_rfl) ?_
            refine runs_v (D.bool false) (by kernel_rfl) (by kernel_rfl) ?_
            refine runs_v (D.bool false) (by kernel_rfl) (by kernel_rfl) ?_
            refine runs_no (by kernel_rfl) ?_
            refine runs_no (by kernel_rfl) ?_
            refine runs_v (D.bool false) (by kernel_rfl) (by kernel_rfl) ?_
            refine runs_v (D.bool false) (by kernel_rfl) (by kernel_rfl) ?_
            refine runs_v (D.bool true) (by kernel_rfl) (by kernel_rfl) ?_
            refine runs_v (D.bool true) (by kernel_rfl) (by kernel_rfl) ?_
            refine runs_v (D.agg [D.int IntKind.i64 (5 : Int), D.int IntKind.i64 (0 : Int), D.sl ks none]) (by kernel_rfl) (by kernel_rfl) ?_
            refine runs_callQ ([D.agg [D.int IntKind.i64 (5 : Int), D.int IntKind.i64 (0 : Int), D.sl ks none]]) (by kernel_rfl) (by kernel_rfl) (by kernel_rfl) (by kernel_rfl) (e2) (by kernel_rfl) ?_
            refine runs_v (D.sl (bools a) none) (by kernel_rfl) (by kernel_rfl) ?_
            refine runs_ve (D.int IntKind.i64 (↑(List.length (bools a)) : Int)) (.int IntKind.i64 ((↑(List.length a) : Int))) (by simp only [ints, eInt, rows, eInts, bools, eBool, trips, eTrip, List.length_map]) (by kernel_rfl) (by kernel_rfl) ?_
            refine runs_v (D.bool ((↑(List.length a) : Int) == (↑(List.length a) : Int))) (by kernel_rfl) (by kernel_rfl) ?_
            refine runs_v (D.bool ((↑(List.length a) : Int) == (↑(List.length a) : Int))) (by kernel_rfl) (by kernel_rfl) ?_
            refine runs_v (D.bool ((↑(List.length a) : Int) == (↑(List.length a) : Int))) (by kernel_rfl) (by kernel_rfl) ?_
            refine runs_know 77 (d := .bool ((↑(List.length a) : Int) == (↑(List.length a) : Int))) (d' := .bool true) (by kernel_rfl) (congrArg D.bool (show ((↑(List.length a) : Int) == (↑(List.length a) : Int)) = true from (decide_eq_true (by omega)))) ?_
            refine runs_v (D.agg [D.int IntKind.i64 (5 : Int), D.int IntKind.i64 (0 : Int), D.sl ks none]) (by kernel_rfl) (by kernel_rfl) ?_
            refine runs_callQ ([D.agg [D.int IntKind.i64 (5 : Int), D.int IntKind.i64 (0 : Int), D.sl ks none]]) (by kernel_rfl) (by kernel_rfl) (by kernel_rfl) (by kernel_rfl) (e3) (by kernel_rfl) ?_
            refine runs_v (D.bool true) (by kernel_rfl) (by kernel_rfl) ?_
            refine runs_v (D.bool true) (by kernel_rfl) (by kernel_rfl) ?_
            refine runs_v (D.bool true) (by kernel_rfl) (by kernel_rfl) ?_
            refine runs_v (D.agg [D.int IntKind.i64 (3 : Int), D.int IntKind.i64 u, D.sl [] none]) (by kernel_rfl) (by kernel_rfl) ?_
            refine runs_callQ ([D.agg [D.int IntKind.i64 (3 : Int), D.int IntKind.i64 u, D.sl [] none]]) (by kernel_rfl) (by kernel_rfl) (by kernel_rfl) (by kernel_rfl) (e4) (by kernel_rfl) ?_
            refine runs_v (D.bool false) (by kernel_rfl) (by kernel_rfl) ?_
            refine runs_v (D.bool (decide (u ≤ (1000 : Int)))) (by kernel_rfl) (by kernel_rfl) ?_
            refine runs_v (D.bool ((false == decide (u ≤ (1000 : Int))) != false)) (by kernel_rfl) (by kernel_rfl) ?_
            refine runs_v (D.bool ((false == decide (u ≤ (1000 : Int))) != false)) (by kernel_rfl) (by kernel_rfl) ?_
            refine runs_v (D.bool ((false == decide (u ≤ (1000 : Int))) != false)) (by kernel_rfl) (by kernel_rfl) ?_
            refine runs_know 89 (d := .bool ((false == decide (u ≤ (1000 : Int))) != false)) (d' := .bool true) (by kernel_rfl) (congrArg D.bool (show ((false == decide (u ≤ (1000 : Int))) != false) = true from (by simp [ints, eInt, rows, eInts, bools, eBool, trips, eTrip, *]))) ?_
            refine runs_v (D.agg [D.int IntKind.i64 (5 : Int), D.int IntKind.i64 (0 : Int), D.sl ks none]) (by kernel_rfl) (by kernel_rfl) ?_
            refine runs_v (D.sl [[D.int IntKind.i64 (5 : Int), D.int IntKind.i64 (0 : Int), D.sl ks none]] (some (24 : Nat))) (by kernel_rfl) (by kernel_rfl) ?_
            refine runs_v (D.agg [D.int IntKind.i64 (4 : Int), D.int IntKind.i64 (0 : Int), D.sl [[D.int IntKind.i64 (5 : Int), D.int IntKind.i64 (0 : Int), D.sl ks none]] none]) (by kernel_rfl) (by kernel_rfl) ?_
            refine runs_v (D.sl (bools a) none) (by kernel_rfl) (by kernel_rfl) ?_
            refine runs_callQ ([D.agg [D.int IntKind.i64 (4 : Int), D.int IntKind.i64 (0 : Int), D.sl [[D.int IntKind.i64 (5 : Int), D.int IntKind.i64 (0 : Int), D.sl ks none]] none], D.sl (bools a) none]) (by kernel_rfl) (by kernel_rfl) (by kernel_rfl) (by kernel_rfl) (e5) (by kernel_rfl) ?_
            refine runs_v (D.agg [D.int IntKind.i64 (5 : Int), D.int IntKind.i64 (0 : Int), D.sl ks none]) (by kernel_rfl) (by kernel_rfl) ?_
            refine runs_v (D.sl (bools a) none) (by kernel_rfl) (by kernel_rfl) ?_
            refine runs_callQ ([D.agg [D.int IntKind.i64 (5 : Int), D.int IntKind.i64 (0 : Int), D.sl ks none], D.sl (bools a) none]) (by kernel_rfl) (by kernel_rfl) (by kernel_rfl) (by kernel_rfl) (e1) (by kernel_rfl) ?_
            refine runs_v (D.bool true) (by kernel_rfl) (by kernel_rfl) ?_
            refine runs_v (D.bool true) (by kernel_rfl) (by kernel_rfl) ?_
            refine runs_assign0 (D.bool true) (by kernel_rfl) (by kernel_rfl) (by kernel_rfl) ?_
            refine k_done ?_
            refine k_skip_seq ?_
            refine k_ret ?_
            exact ⟨.inr rfl, by kernel_rfl, by kernel_rfl⟩
          · refine k_seq ?_
            refine k_seq ?_
            refine runs_v (D.int IntKind.i64 (↑(List.length a) : Int)) (by kernel_rfl) (by kernel_rfl) ?_
            refine runs_v (D.sl (bools a) none) (by kernel_rfl) (by kernel_rfl) ?_
            refine runs_ve (D.int IntKind.i64 (↑(List.length (bools a)) : Int)) (.int IntKind.i64 ((↑(List.length a) : Int))) (by simp only [ints, eInt, rows, eInts, bools, eBool, trips, eTrip, List.length_map]) (by kernel_rfl) (by kernel_rfl) ?_
            refine runs_v (D.bool (decide ((↑(List.length a) : Int) < (↑(List.length a) : Int)))) (by kernel_rfl) (by kernel_rfl) ?_
            refine k_done ?_
            refine k_skip_seq ?_
            refine runs_know 25 (d := .bool (decide ((↑(List.length a) : Int) < (↑(List.length a) : Int)))) (d' := .bool false) (by kernel_rfl) (congrArg D.bool (show (decide ((↑(List.length a) : Int) < (↑(List.length a) : Int))) = false from (decide_eq_false (by omega)))) ?_
            refine k_cond_f (by kernel_rfl) ?_
            refine k_exit_seq ?_
            refine k_exit_back ?_
            refine k_exit_hit rfl ?_
            refine k_skip_seq ?_
            refine k_seq ?_
            refine runs_v (D.int IntKind.u16 u) (by kernel_rfl) (by kernel_rfl) ?_
            refine runs_ve (D.int IntKind.i64 (IntKind.wrap IntKind.i64 u)) (.int IntKind.i64 (u)) (congrArg (D.int IntKind.i64) (show IntKind.wrap IntKind.i64 u = (u) from wrap_eq (by omega) (by omega) (by omega))) (by kernel_rfl) (by kernel_rfl) ?_
            refine runs_v (D.agg [D.int IntKind.i64 (3 : Int), D.int IntKind.i64 u, D.nils (24 : Nat)]) (by kernel_rfl) (by kernel_rfl) ?_
            refine runs_gf (D.lptr (11 : Nat) (0 : Nat)) ([]) (by kernel_rfl) (by kernel_rfl) ?_
            refine runs_gf (D.junk) ([]) (by kernel_rfl) (by kernel_rfl) ?_
            refine k_done ?_
            refine k_skip_seq ?_
            refine k_seq ?_
            refine runs_v (D.int IntKind.u16 u) (by kernel_rfl) (by kernel_rfl) ?_
            refine runs_v (D.bool (decide (u ≥ (1 : Int)))) (by kernel_rfl) (by kernel_rfl) ?_
            refine runs_v (D.bool (decide (u ≥ (1 : Int)))) (by kernel_rfl) (by kernel_rfl) ?_
            refine runs_know 47 (d := .bool (decide (u ≥ (1 : Int)))) (d' := .bool false) (by kernel_rfl) (congrArg D.bool (show (decide (u ≥ (1 : Int))) = false from (decide_eq_false (by assumption)))) ?_
            refine runs_no (by kernel_rfl) ?_
            refine runs_no (by kernel_rfl) ?_
            refine runs_v (D.bool false) (by kernel_rfl) (by kernel_rfl) ?_
            refine runs_assign0 (D.bool false) (by kernel_rfl) (by kernel_rfl) (by kernel_rfl) ?_
            refine k_done ?_
            refine k_skip_seq ?_
            refine k_seq ?_
            refine runs_v (D.agg [D.int IntKind.i64 (5 : Int), D.int IntKind.i64 (0 : Int), D.sl ks none]) (by kernel_rfl) (by kernel_rfl) ?_
            refine runs_v (D.sl (bools a) none) (by kernel_rfl) (by kernel_rfl) ?_
            refine runs_callQ ([D.agg [D.int IntKind.i64 (5 : Int), D.int IntKind.i64 (0 : Int), D.sl ks none], D.sl (bools a) none]) (by kernel_rfl) (by kernel_rfl) (by kernel_rfl) (by kernel_rfl) (e1) (by kernel_rfl) ?_
            refine runs_v (D.bool true) (by kernel_rfl) (by kernel_rfl) ?_
            refine runs_v (D.bool true) (by kernel_rfl) (by kernel_rfl) ?_
            refine runs_v (D.int IntKind.i64 (↑so : Int)) (by kernel_rfl) (by kernel_rfl) ?_
            refine runs_v (D.sl (bools a) none) (by kernel_rfl) (by kernel_rfl) ?_
            refine runs_ve (D.int IntKind.i64 (↑(List.length (bools a)) : Int)) (.int IntKind.i64 ((↑(List.length a) : Int))) (by simp only [ints, eInt, rows, eInts, bools, eBool, trips, eTrip, List.length_map]) (by kernel_rfl) (by kernel_rfl) ?_
            refine runs_v (D.bool ((↑so : Int) == (↑(List.length a) : Int))) (by kernel_rfl) (by kernel_rfl) ?_
            refine runs_v (D.bool ((↑so : Int) == (↑(List.length a) : Int))) (by kernel_rfl) (by kernel_rfl) ?_
            refine runs_v (D.bool ((↑so : Int) == (↑(List.length a) : Int))) (by kernel_rfl) (by kernel_rfl) ?_
            refine runs_know 61 (d := .bool ((↑so : Int) == (↑(List.length a) : Int))) (d' := .bool false) (by kernel_rfl) (congrArg D.bool (show ((↑so : Int) == (↑(List.length a) : Int)) = false from (decide_eq_false (by omega)))) ?_
            refine runs_v (D.bool true) (by kernel_rfl) (by kernel_rfl) ?_
            refine runs_v (D.bool false) (by kernel_rfl) (by kernel_rfl) ?_
            refine runs_v (D.bool false) (by kernel_rfl) (by kernel_rfl) ?_
            refine runs_no (by kernel_rfl) ?_
            refine runs_no (by kernel_rfl) ?_
            refine runs_v (D.bool false) (by kernel_rfl) (by kernel_rfl) ?_
            refine runs_v (D.bool false) (by kernel_rfl) (by kernel_rfl) ?_
            refine runs_v (D.bool true) (by kernel_rfl) (by kernel_rfl) ?_
            refine runs_v (D.bool true) (by kernel_rfl) (by kernel_rfl) ?_
            refine runs_v (D.agg [D.int IntKind.i64 (5 : Int), D.int IntKind.i64 (0 : Int), D.sl ks none]) (by kernel_rfl) (by kernel_rfl) ?_
            refine runs_callQ ([D.agg [D.int IntKind.i64 (5 : Int), D.int IntKind.i64 (0 : Int), D.sl ks none]]) (by kernel_rfl) (by kernel_rfl) (by kernel_rfl) (by kernel_rfl) (e2) (by kernel_rfl) ?_
            refine runs_v (D.sl (bools a) none) (by kernel_rfl) (by kernel_rfl) ?_
            refine runs_ve (D.int IntKind.i64 (↑(List.length (bools a)) : Int)) (.int IntKind.i64 ((↑(List.length a) : Int))) (by simp only [ints, eInt, rows, eInts, bools, eBool, trips, eTrip, List.length_map]) (by kernel_rfl) (by kernel_rfl) ?_
            refine runs_v (D.bool ((↑(List.length a) : Int) == (↑(List.length a) : Int))) (by kernel_rfl) (by kernel_rfl) ?_
            refine runs_v (D.bool ((↑(List.length a) : Int) == (↑(List.length a) : Int))) (by kernel_rfl) (by kernel_rfl) ?_
            refine runs_v (D.bool ((↑(List.length a) : Int) == (↑(List.length a) : Int))) (by kernel_rfl) (by kernel_rfl) ?_
            refine runs_know 77 (d := .bool ((↑(List.length a) : Int) == (↑(List.length a) : Int))) (d' := .bool true) (by kernel_rfl) (congrArg D.bool (show ((↑(List.length a) : Int) == (↑(List.length a) : Int)) = true from (decide_eq_true (by omega)))) ?_
            refine runs_v (D.agg [D.int IntKind.i64 (5 : Int), D.int IntKind.i64 (0 : Int), D.sl ks none]) (by kernel_rfl) (by kernel_rfl) ?_
            refine runs_callQ ([D.agg [D.int IntKind.i64 (5 : Int), D.int IntKind.i64 (0 : Int), D.sl ks none]]) (by kernel_rfl) (by kernel_rfl) (by kernel_rfl) (by kernel_rfl) (e3) (by kernel_rfl) ?_
            refine runs_v (D.bool true) (by kernel_rfl) (by kernel_rfl) ?_
            refine runs_v (D.bool true) (by kernel_rfl) (by kernel_rfl) ?_
            refine runs_v (D.bool true) (by kernel_rfl) (by kernel_rfl) ?_
            refine runs_v (D.agg [D.int IntKind.i64 (3 : Int), D.int IntKind.i64 u, D.sl [] none]) (by kernel_rfl) (by kernel_rfl) ?_
            refine runs_callQ ([D.agg [D.int IntKind.i64 (3 : Int), D.int IntKind.i64 u, D.sl [] none]]) (by kernel_rfl) (by kernel_rfl) (by kernel_rfl) (by kernel_rfl) (e4) (by kernel_rfl) ?_
            refine runs_v (D.bool false) (by kernel_rfl) (by kernel_rfl) ?_
            refine runs_v (D.bool false) (by kernel_rfl) (by kernel_rfl) ?_
            refine runs_v (D.bool true) (by kernel_rfl) (by kernel_rfl) ?_
            refine runs_v (D.bool true) (by kernel_rfl) (by kernel_rfl) ?_
            refine runs_v (D.bool true) (by kernel_rfl) (by kernel_rfl) ?_
            refine runs_v (D.agg [D.int IntKind.i64 (5 : Int), D.int IntKind.i64 (0 : Int), D.sl ks none]) (by kernel_rfl) (by kernel_rfl) ?_
            refine runs_v (D.sl [[D.int IntKind.i64 (5 : Int), D.int IntKind.i64 (0 : Int), D.sl ks none]] (some (24 : Nat))) (by kernel_rfl) (by kernel_rfl) ?_
            refine runs_v (D.agg [D.int IntKind.i64 (4 : Int), D.int IntKind.i64 (0 : Int), D.sl [[D.int IntKind.i64 (5 : Int), D.int IntKind.i64 (0 : Int), D.sl ks none]] none]) (by kernel_rfl) (by kernel_rfl) ?_
            refine runs_v (D.sl (bools a) none) (by kernel_rfl) (by kernel_rfl) ?_
            refine runs_callQ ([D.agg [D.int IntKind.i64 (4 : Int), D.int IntKind.i64 (0 : Int), D.sl [[D.int IntKind.i64 (5 : Int), D.int IntKind.i64 (0 : Int), D.sl ks none]] none], D.sl (bools a) none]) (by kernel_rfl) (by kernel_rfl) (by kernel_rfl) (by kernel_rfl) (e5) (by kernel_rfl) ?_
            refine runs_v (D.agg [D.int IntKind.i64 (5 : Int), D.int IntKind.i64 (0 : Int), D.sl ks none]) (by kernel_rfl) (by kernel_rfl) ?_
            refine runs_v (D.sl (bools a) none) (by kernel_rfl) (by kernel_rfl) ?_
            refine runs_callQ ([D.agg [D.int IntKind.i64 (5 : Int), D.int IntKind.i64 (0 : Int), D.sl ks none], D.sl (bools a) none]) (by kernel_rfl) (by kernel_rfl) (by kernel_rfl) (by kernel_rfl) (e1) (by kernel_rfl) ?_
            refine runs_v (D.bool true) (by kernel_rfl) (by kernel_rfl) ?_
            refine runs_v (D.bool true) (by kernel_rfl) (by kernel_rfl) ?_
            refine runs_assign0 (D.bool true) (by kernel_rfl) (by kernel_rfl) (by kernel_rfl) ?_
            refine k_done ?_
            refine k_skip_seq ?_
            refine k_ret ?_
            exact ⟨.inr rfl, by kernel_rfl, by kernel_rfl⟩
  | false =>
    refine k_seq ?_
    refine runs_v (D.bool false) (by kernel_rfl) (by kernel_rfl) ?_
    refine k_done ?_
    refine k_skip_seq ?_
    refine k_seq ?_
    refine runs_call ([]) (by kernel_rfl) (by kernel_rfl) (by kernel_rfl) (by kernel_rfl) (awake_ok) (by kernel_rfl) ?_
    refine runs_assign0 (D.bool true) (by kernel_rfl) (by kernel_rfl) (by kernel_rfl) ?_
    refine k_done ?_
    refine k_skip_seq ?_
    refine k_seq ?_
    refine k_seq ?_
    refine runs_v (D.bool true) (by kernel_rfl) (by kernel_rfl) ?_
    refine runs_v (D.bool false) (by kernel_rfl) (by kernel_rfl) ?_
    refine k_done ?_
    refine k_skip_seq ?_
    refine k_cond_f (by kernel_rfl) ?_
    refine k_skip_seq ?_
    refine k_seq ?_
    refine k_seq ?_
    refine runs_v (D.sl (bools a) none) (by kernel_rfl) (by kernel_rfl) ?_
    refine runs_ve (D.int IntKind.i64 (↑(List.length (bools a)) : Int)) (.int IntKind.i64 ((↑(List.length a) : Int))) (by simp only [ints, eInt, rows, eInts, bools, eBool, trips, eTrip, List.length_map]) (by kernel_rfl) (by kernel_rfl) ?_
    refine runs_v (D.bool (decide ((↑(List.length a) : Int) > (60 : Int)))) (by kernel_rfl) (by kernel_rfl) ?_
    refine k_done ?_
    refine k_skip_seq ?_
    refine runs_know 18 (d := .bool (decide ((↑(List.length a) : Int) > (60 : Int)))) (d' := .bool false) (by kernel_rfl) (congrArg D.bool (show (decide ((↑(List.length a) : Int) > (60 : Int))) = false from (decide_eq_false (by omega)))) ?_
    refine k_cond_f (by kernel_rfl) ?_
    refine k_skip_seq ?_
    refine k_seq ?_
    refine runs_v (D.agg [D.int IntKind.i64 (6 : Int), D.int IntKind.i64 (0 : Int), D.nils (24 : Nat)]) (by kernel_rfl) (by kernel_rfl) ?_
    refine runs_gf (D.lptr (8 : Nat) (0 : Nat)) ([]) (by kernel_rfl) (by kernel_rfl) ?_
    refine runs_gf (D.junk) ([]) (by kernel_rfl) (by kernel_rfl) ?_
    refine k_done ?_
    refine k_skip_seq ?_
    refine k_seq ?_
    refine k_seq ?_
    refine runs_v (D.bool false) (by kernel_rfl) (by kernel_rfl) ?_
    refine k_done ?_
    refine k_skip_seq ?_
    refine k_cond_f (by kernel_rfl) ?_
    refine k_skip_seq ?_
    refine k_seq ?_
    refine runs_v (D.int IntKind.i64 (0 : Int)) (by kernel_rfl) (by kernel_rfl) ?_
    refine k_done ?_
    refine k_skip_seq ?_
    refine k_seq ?_
    refine k_seq ?_
    refine runs_v (D.int IntKind.i64 (0 : Int)) (by kernel_rfl) (by kernel_rfl) ?_
    refine k_done ?_
    refine k_skip_seq ?_
    refine k_block ?_
    refine k_loop (fun i : Nat => f7 a false 6 u i (cntT (a.take i)) (eFs (ats i))) (fun _ => []) (fun i => i ≤ a.length) (fun i => a.length - i) 0 (by kernel_rfl) rfl (by simp) (by intro s hs; omega) ?_
    intro i hi
    have hc := cntT_le (a.take i)
    have hct := fun h => cntT_take (a := a) (i := i) h
    have hl : (eFs (ats i)).length = i := by rw [eFs_length, ats_len]
    have hs := eFs_ats i
    have htl : (a.take i).length = i := by simp; omega
    by_cases hlt : i < a.length
    · generalize eFs (ats i) = ks at *
      generalize cntT (a.take i) = m at *
      have h1 := hct hlt
      by_cases hb : a[i] = true
      · rw [if_pos hb] at h1
        refine k_seq ?_
        refine k_seq ?_
        refine runs_v (D.int IntKind.i64 (↑i : Int)) (by kernel_rfl) (by kernel_rfl) ?_
        refine runs_v (D.sl (bools a) none) (by kernel_rfl) (by kernel_rfl) ?_
        refine runs_ve (D.int IntKind.i64 (↑(List.length (bools a)) : Int)) (.int IntKind.i64 ((↑(List.length a) : Int))) (by simp only [ints, eInt, rows, eInts, bools, eBool, trips, eTrip, List.length_map, hb]) (by kernel_rfl) (by kernel_rfl) ?_
        refine runs_v (D.bool (decide ((↑i : Int) < (↑(List.length a) : Int)))) (by kernel_rfl) (by kernel_rfl) ?_
        refine k_done ?_
        refine k_skip_seq ?_
        refine runs_know 25 (d := .bool (decide ((↑i : Int) < (↑(List.length a) : Int)))) (d' := .bool true) (by kernel_rfl) (congrArg D.bool (show (decide ((↑i : Int) < (↑(List.length a) : Int))) = true from (decide_eq_true (by omega)))) ?_
        refine k_cond_t (by kernel_rfl) ?_
        refine k_skip_seq ?_
        refine k_seq ?_
        refine k_block ?_
        refine k_seq ?_
        refine runs_v (D.lptr (8 : Nat) (2 : Nat)) (by kernel_rfl) (by kernel_rfl) ?_
        refine runs_gf (D.sl ks (some (24 : Nat))) ([]) (by kernel_rfl) (by kernel_rfl) ?_
        refine runs_v (D.int IntKind.i64 (↑i : Int)) (by kernel_rfl) (by kernel_rfl) ?_
        refine runs_ve (D.int IntKind.i64 (IntKind.wrap IntKind.i64 ((↑i : Int) + (1 : Int)))) (.int IntKind.i64 ((i + 1 : Nat) : Int)) (congrArg (D.int IntKind.i64) (show IntKind.wrap IntKind.i64 ((↑i : Int) + (1 : Int)) = ((i + 1 : Nat) : Int) from wrap_eq (by omega) (by omega) (by omega))) (by kernel_rfl) (by kernel_rfl) ?_
        refine runs_v (D.agg [D.int IntKind.i64 (3 : Int), D.int IntKind.i64 (↑(i + (1 : Nat)) : Int), D.nils (24 : Nat)]) (by kernel_rfl) (by kernel_rfl) ?_
        refine runs_v (D.sl [[D.int IntKind.i64 (3 : Int), D.int IntKind.i64 (↑(i + (1 : Nat)) : Int), D.sl [] none]] (some (24 : Nat))) (by kernel_rfl) (by kernel_rfl) ?_
        refine runs_append (ks) ([[D.int IntKind.i64 (3 : Int), D.int IntKind.i64 (↑(i + (1 : Nat)) : Int), D.sl [] none]]) (ks ++ [[D.int IntKind.i64 (3 : Int), D.int IntKind.i64 (↑(i + (1 : Nat)) : Int), D.sl [] none]]) (by kernel_rfl) (by kernel_rfl) (by kernel_rfl) (by kernel_rfl) (by simp [hb, ints, eInt, rows, eInts, bools, eBool, trips, eTrip, room]; omega) rfl ?_
        refine runs_v (D.lptr (8 : Nat) (2 : Nat)) (by kernel_rfl) (by kernel_rfl) ?_
        refine runs_gf (D.junk) ([]) (by kernel_rfl) (by kernel_rfl) ?_
        refine k_done ?_
        refine k_skip_seq ?_
        refine k_seq ?_
        refine runs_v (D.sl (bools a) none) (by kernel_rfl) (by kernel_rfl) ?_
        refine runs_v (D.int IntKind.i64 (↑i : Int)) (by kernel_rfl) (by kernel_rfl) ?_
        refine runs_index (a) (eBool) (o := none) (kd := IntKind.i64) (i) (by kernel_rfl) (by kernel_rfl) (by kernel_rfl) (by assumption) (by kernel_rfl) ?_
        refine runs_v (D.bool a[i]) (by kernel_rfl) (by kernel_rfl) ?_
        refine k_done ?_
        refine k_skip_seq ?_
        refine runs_know 39 (d := .bool (a[i])) (d' := .bool true) (by kernel_rfl) (congrArg D.bool (show (a[i]) = true from (by assumption))) ?_
        refine k_cond_t (by kernel_rfl) ?_
        refine runs_v (D.int IntKind.i64 (↑m : Int)) (by kernel_rfl) (by kernel_rfl) ?_
        refine runs_ve (D.int IntKind.i64 (IntKind.wrap IntKind.i64 ((↑m : Int) + (1 : Int)))) (.int IntKind.i64 ((m + 1 : Nat) : Int)) (congrArg (D.int IntKind.i64) (show IntKind.wrap IntKind.i64 ((↑m : Int) + (1 : Int)) = ((m + 1 : Nat) : Int) from wrap_eq (by omega) (by omega) (by omega))) (by kernel_rfl) (by kernel_rfl) ?_
        refine runs_assign0 (D.int IntKind.i64 (↑(m + (1 : Nat)) : Int)) (by kernel_rfl) (by kernel_rfl) (by kernel_rfl) ?_
        refine k_done ?_
        refine k_skip_block ?_
        refine k_skip_seq ?_
        refine runs_v (D.int IntKind.i64 (↑i : Int)) (by kernel_rfl) (by kernel_rfl) ?_
        refine runs_ve (D.int IntKind.i64 (IntKind.wrap IntKind.i64 ((↑i : Int) + (1 : Int)))) (.int IntKind.i64 ((i + 1 : Nat) : Int)) (congrArg (D.int IntKind.i64) (show IntKind.wrap IntKind.i64 ((↑i : Int) + (1 : Int)) = ((i + 1 : Nat) : Int) from wrap_eq (by omega) (by omega) (by omega))) (by kernel_rfl) (by kernel_rfl) ?_
        refine runs_assign0 (D.int IntKind.i64 (↑(i + (1 : Nat)) : Int)) (by kernel_rfl) (by kernel_rfl) (by kernel_rfl) ?_
        refine k_done ?_
        refine k_skip_back ?_
        exact ⟨i + 1, hlt, by omega, by rw [hs, h1]; kernel_rfl, rfl⟩
      · rw [if_neg hb] at h1
        have hb' : a[i] = false := by simpa using hb
        refine k_seq ?_
        refine k_seq ?_
        refine runs_v (D.int IntKind.i64 (↑i : Int)) (by kernel_rfl) (by kernel_rfl) ?_
        refine runs_v (D.sl (bools a) none) (by kernel_rfl) (by kernel_rfl) ?_
        refine runs_ve (D.int IntKind.i64 (↑(List.length (bools a)) : Int)) (.int IntKind.i64 ((↑(List.length a) : Int))) (by simp only [ints, eInt, rows, eInts, bools, eBool, trips, eTrip, List.length_map, hb']) (by kernel_rfl) (by kernel_rfl) ?_
        refine runs_v (D.bool (decide ((↑i : Int) < (↑(List.length a) : Int)))) (by kernel_rfl) (by kernel_rfl) ?_
        refine k_done ?_
        refine k_skip_seq ?_
        refine runs_know 25 (d := .bool (decide ((↑i : Int) < (↑(List.length a) : Int)))) (d' := .bool true) (by kernel_rfl) (congrArg D.bool (show (decide ((↑i : Int) < (↑(List.length a) : Int))) = true from (decide_eq_true (by omega)))) ?_
        refine k_cond_t (by kernel_rfl) ?_
        refine k_skip_seq ?_
        refine k_seq ?_
        refine k_block ?_
        refine k_seq ?_
        refine runs_v (D.lptr (8 : Nat) (2 : Nat)) (by kernel_rfl) (by kernel_rfl) ?_
        refine runs_gf (D.sl ks (some (24 : Nat))) ([]) (by kernel_rfl) (by kernel_rfl) ?_
        refine runs_v (D.int IntKind.i64 (↑i : Int)) (by kernel_rfl) (by kernel_rfl) ?_
        refine runs_ve (D.int IntKind.i64 (IntKind.wrap IntKind.i64 ((↑i : Int) + (1 : Int)))) (.int IntKind.i64 ((i + 1 : Nat) : Int)) (congrArg (D.int IntKind.i64) (show IntKind.wrap IntKind.i64 ((↑i : Int) + (1 : Int)) = ((i + 1 : Nat) : Int) from wrap_eq (by omega) (by omega) (by omega))) (by kernel_rfl) (by kernel_rfl) ?_
        refine runs_v (D.agg [D.int IntKind.i64 (3 : Int), D.int IntKind.i64 (↑(i + (1 : Nat)) : Int), D.nils (24 : Nat)]) (by kernel_rfl) (by kernel_rfl) ?_
        refine runs_v (D.sl [[D.int IntKind.i64 (3 : Int), D.int IntKind.i64 (↑(i + (1 : Nat)) : Int), D.sl [] none]] (some (24 : Nat))) (by kernel_rfl) (by kernel_rfl) ?_
        refine runs_append (ks) ([[D.int IntKind.i64 (3 : Int), D.int IntKind.i64 (↑(i + (1 : Nat)) : Int), D.sl [] none]]) (ks ++ [[D.int IntKind.i64 (3 : Int), D.int IntKind.i64 (↑(i + (1 : Nat)) : Int), D.sl [] none]]) (by kernel_rfl) (by kernel_rfl) (by kernel_rfl) (by kernel_rfl) (by simp [hb', ints, eInt, rows, eInts, bools, eBool, trips, eTrip, room]; omega) rfl ?_
        refine runs_v (D.lptr (8 : Nat) (2 : Nat)) (by kernel_rfl) (by kernel_rfl) ?_
        refine runs_gf (D.junk) ([]) (by kernel_rfl) (by kernel_rfl) ?_
        refine k_done ?_
        refine k_skip_seq ?_
        refine k_seq ?_
        refine runs_v (D.sl (bools a) none) (by kernel_rfl) (by kernel_rfl) ?_
        refine runs_v (D.int IntKind.i64 (↑i : Int)) (by kernel_rfl) (by kernel_rfl) ?_
        refine runs_index (a) (eBool) (o := none) (kd := IntKind.i64) (i) (by kernel_rfl) (by kernel_rfl) (by kernel_rfl) (by assumption) (by kernel_rfl) ?_
        refine runs_v (D.bool a[i]) (by kernel_rfl) (by kernel_rfl) ?_
        refine k_done ?_
        refine k_skip_seq ?_
        refine runs_know 39 (d := .bool (a[i])) (d' := .bool false) (by kernel_rfl) (congrArg D.bool (show (a[i]) = false from (by assumption))) ?_
        refine k_cond_f (by kernel_rfl) ?_
        refine k_skip_block ?_
        refine k_skip_seq ?_
        refine runs_v (D.int IntKind.i64 (↑i : Int)) (by kernel_rfl) (by kernel_rfl) ?_
        refine runs_ve (D.int IntKind.i64 (IntKind.wrap IntKind.i64 ((↑i : Int) + (1 : Int)))) (.int IntKind.i64 ((i + 1 : Nat) : Int)) (congrArg (D.int IntKind.i64) (show IntKind.wrap IntKind.i64 ((↑i : Int) + (1 : Int)) = ((i + 1 : Nat) : Int) from wrap_eq (by omega) (by omega) (by omega))) (by kernel_rfl) (by kernel_rfl) ?_
        refine runs_assign0 (D.int IntKind.i64 (↑(i + (1 : Nat)) : Int)) (by kernel_rfl) (by kernel_rfl) (by kernel_rfl) ?_
        refine k_done ?_
        refine k_skip_back ?_
        exact ⟨i + 1, hlt, by omega, by rw [hs, h1]; kernel_rfl, rfl⟩
    · have hia : i = a.length := by omega
      subst hia
      rw [List.take_length]
      have hfit := ats_fits 6 (n := a.length) (by omega)
      have e2 := atoms_ok 2 (.mk 6 0 (ats a.length)) 5000 [] hfit (by omega)
      rw [ats_atoms 6 (by omega)] at e2
      have e3 := check_ok 2 (.mk 6 0 (ats a.length)) 4999 [] hfit (by omega) (by omega)
      rw [ats_check 6 (by omega) (by omega)] at e3
      have hu2 : IntKind.wrap IntKind.i64 u = u := wrap_eq rfl (by omega) (by omega)
      have e4 := check_ok 1 (.mk 3 u []) 4999 [] ⟨by simp [Fm.kids_mk], fun k hk => by simp [Fm.kids_mk] at hk⟩ (by omega) (by omega)
      rw [one_check, eF_leaf] at e4
      obtain ⟨σ1, e1⟩ := eval_ok 2 (.mk 6 0 (ats a.length)) a none 5000 hfit (by omega) (by omega)
      obtain ⟨σ2, e5⟩ := eval_ok 3 (.mk 4 0 [.mk 6 0 (ats a.length)]) a none 5000 ⟨by simp [Fm.kids_mk], fun k hk => by simp only [Fm.kids_mk, List.mem_singleton] at hk; subst hk; exact hfit⟩ (by omega) (by omega)
      rw [eval_not, eF_one] at e5
      have hev : evalR 2 (.mk 6 0 (ats a.length)) a = decide (cntT a > 0) := by
        rw [← cntT_any, ← ats_any]
        rfl
      rw [hev] at e1 e5
      generalize cntT a = so at *
      by_cases q : so > 0
      · rw [decide_eq_true q] at e1 e5
        rw [show eF (.mk 6 0 (ats a.length)) = [.int .i64 6, .int .i64 0, .sl (eFs (ats a.length)) none] from rfl] at e1 e2 e3 e5
        generalize eFs (ats a.length) = ks at *
        by_cases hf : 1 ≤ u ∧ u ≤ 1000
        · rw [if_pos hf] at e4
          have w1 : u ≥ 1 := by omega
          have w2 : u ≤ 1000 := by omega
          refine k_seq ?_
          refine k_seq ?_
          refine runs_v (D.int IntKind.i64 (↑(List.length a) : Int)) (by kernel_rfl) (by kernel_rfl) ?_
          refine runs_v (D.sl (bools a) none) (by kernel_rfl) (by kernel_rfl) ?_
          refine runs_ve (D.int IntKind.i64 (↑(List.length (bools a)) : Int)) (.int IntKind.i64 ((↑(List.length a) : Int))) (by simp only [ints, eInt, rows, eInts, bools, eBool, trips, eTrip, List.length_map]) (by kernel_rfl) (by kernel_rfl) ?_
          refine runs_v (D.bool (decide ((↑(List.length a) : Int) < (↑(List.length a) : Int)))) (by kernel_rfl) (by kernel_rfl) ?_
          refine k_done ?_
          refine k_skip_seq ?_
          refine runs_know 25 (d := .bool (decide ((↑(List.length a) : Int) < (↑(List.length a) : Int)))) (d' := .bool false) (by kernel_rfl) (congrArg D.bool (show (decide ((↑(List.length a) : Int) < (↑(List.length a) : Int))) = false from (decide_eq_false (by omega)))) ?_
          refine k_cond_f (by kernel_rfl) ?_
          refine k_exit_seq ?_
          refine k_exit_back ?_
          refine k_exit_hit rfl ?_
          refine k_skip_seq ?_
          refine k_seq ?_
          refine runs_v (D.int IntKind.u16 u) (by kernel_rfl) (by kernel_rfl) ?_
          refine runs_ve (D.int IntKind.i64 (IntKind.wrap IntKind.i64 u)) (.int IntKind.i64 (u)) (congrArg (D.int IntKind.i64) (show IntKind.wrap IntKind.i64 u = (u) from wrap_eq (by omega) (by omega) (by omega))) (by kernel_rfl) (by kernel_rfl) ?_
          refine runs_v (D.agg [D.int IntKind.i64 (3 : Int), D.int IntKind.i64 u, D.nils (24 : Nat)]) (by kernel_rfl) (by kernel_rfl) ?_
          refine runs_gf (D.lptr (11 : Nat) (0 : Nat)) ([]) (by kernel_rfl) (by kernel_rfl) ?_
          refine runs_gf (D.junk) ([]) (by kernel_rfl) (by kernel_rfl) ?_
          refine k_done ?_
          refine k_skip_seq ?_
          refine k_seq ?_
          refine runs_v (D.int IntKind.u16 u) (by kernel_rfl) (by kernel_rfl) ?_
          refine runs_v (D.bool (decide (u ≥ (1 : Int)))) (by kernel_rfl) (by kernel_rfl) ?_
          refine runs_v (D.bool (decide (u ≥ (1 : Int)))) (by kernel_rfl) (by kernel_rfl) ?_
          refine runs_know 47 (d := .bool (decide (u ≥ (1 : Int)))) (d' := .bool true) (by kernel_rfl) (congrArg D.bool (show (decide (u ≥ (1 : Int))) = true from (decide_eq_true (by assumption)))) ?_
          refine runs_v (D.int IntKind.u16 u) (by kernel_rfl) (by kernel_rfl) ?_
          refine runs_v (D.bool (decide (u ≤ (1000 : Int)))) (by kernel_rfl) (by kernel_rfl) ?_
          refine runs_v (D.bool (decide (u ≤ (1000 : Int)))) (by kernel_rfl) (by kernel_rfl) ?_
          refine runs_assign0 (D.bool (decide (u ≤ (1000 : Int)))) (by kernel_rfl) (by kernel_rfl) (by kernel_rfl) ?_
          refine k_done ?_
          refine k_skip_seq ?_
          refine k_seq ?_
          refine runs_v (D.agg [D.int IntKind.i64 (6 : Int), D.int IntKind.i64 (0 : Int), D.sl ks none]) (by kernel_rfl) (by kernel_rfl) ?_
          refine runs_v (D.sl (bools a) none) (by kernel_rfl) (by kernel_rfl) ?_
          refine runs_callQ ([D.agg [D.int IntKind.i64 (6 : Int), D.int IntKind.i64 (0 : Int), D.sl ks none], D.sl (bools a) none]) (by kernel_rfl) (by kernel_rfl) (by kernel_rfl) (by kernel_rfl) (e1) (by kernel_rfl) ?_
          refine runs_v (D.bool false) (by kernel_rfl) (by kernel_rfl) ?_
          refine runs_v (D.bool false) (by kernel_rfl) (by kernel_rfl) ?_
          refine runs_no (by kernel_rfl) ?_
          refine runs_no (by kernel_rfl) ?_
          refine runs_no (by kernel_rfl) ?_
          refine runs_no (by kernel_rfl) ?_
          refine runs_v (D.bool false) (by kernel_rfl) (by kernel_rfl) ?_
          refine runs_v (D.bool false) (by kernel_rfl) (by kernel_rfl) ?_
          refine runs_v (D.bool false) (by kernel_rfl) (by kernel_rfl) ?_
          refine runs_v (D.bool true) (by kernel_rfl) (by kernel_rfl) ?_
          refine runs_v (D.bool true) (by kernel_rfl) (by kernel_rfl) ?_
          refine runs_v (D.int IntKind.i64 (↑so : Int)) (by kernel_rfl) (by kernel_rfl) ?_
          refine runs_v (D.bool (decide ((↑so : Int) > (0 : Int)))) (by kernel_rfl) (by kernel_rfl) ?_
          refine runs_v (D.bool (decide ((↑so : Int) > (0 : Int)))) (by kernel_rfl) (by kernel_rfl) ?_
          refine runs_v (D.bool (decide ((↑so : Int) > (0 : Int)))) (by kernel_rfl) (by kernel_rfl) ?_
          refine runs_v (D.bool ((true == decide ((↑so : Int) > (0 : Int))) != false)) (by kernel_rfl) (by kernel_rfl) ?_
          refine runs_v (D.bool ((true == decide ((↑so : Int) > (0 : Int))) != false)) (by kernel_rfl) (by kernel_rfl) ?_
          refine runs_know 70 (d := .bool ((true == decide ((↑so : Int) > (0 : Int))) != false)) (d' := .bool true) (by kernel_rfl) (congrArg D.bool (show ((true == decide ((↑so : Int) > (0 : Int))) != false) = true from (by simp [ints, eInt, rows, eInts, bools, eBool, trips, eTrip, *]))) ?_
          refine runs_v (D.agg [D.int IntKind.i64 (6 : Int), D.int IntKind.i64 (0 : Int), D.sl ks none]) (by kernel_rfl) (by kernel_rfl) ?_
          refine runs_callQ ([D.agg [D.int IntKind.i64 (6 : Int), D.int IntKind.i64 (0 : Int), D.sl ks none]]) (by kernel_rfl) (by kernel_rfl) (by kernel_rfl) (by kernel_rfl) (e2) (by kernel_rfl) ?_
          refine runs_v (D.sl (bools a) none) (by kernel_rfl) (by kernel_rfl) ?_
          refine runs_ve (D.int IntKind.i64 (↑(List.length (bools a)) : Int)) (.int IntKind.i64 ((↑(List.length a) : Int))) (by simp only [ints, eInt, rows, eInts, bools, eBool, trips, eTrip, List.length_map]) (by kernel_rfl) (by kernel_rfl) ?_
          refine runs_v (D.bool ((↑(List.length a) : Int) == (↑(List.length a) : Int))) (by kernel_rfl) (by kernel_rfl) ?_
          refine runs_v (D.bool ((↑(List.length a) : Int) == (↑(List.length a) : Int))) (by kernel_rfl) (by kernel_rfl) ?_
          refine runs_v (D.bool ((↑(List.length a) : Int) == (↑(List.length a) : Int))) (by kernel_rfl) (by kernel_rfl) ?_
          refine runs_know 77 (d := .bool ((↑(List.length a) : Int) == (↑(List.length a) : Int))) (d' := .bool true) (by kernel_rfl) (congrArg D.bool (show ((↑(List.length a) : Int) == (↑(List.length a) : Int)) = true from (decide_eq_true (by omega)))) ?_
          refine runs_v (D.agg [D.int IntKind.i64 (6 : Int), D.int IntKind.i64 (0 : Int), D.sl ks none]) (by kernel_rfl) (by kernel_rfl) ?_
          refine runs_callQ ([D.agg [D.int IntKind.i64 (6 : Int), D.int IntKind.i64 (0 : Int), D.sl ks none]]) (by kernel_rfl) (by kernel_rfl) (by kernel_rfl) (by kernel_rfl) (e3) (by kernel_rfl) ?_
          refine runs_v (D.bool true) (by kernel_rfl) (by kernel_rfl) ?_
          refine runs_v (D.bool true) (by kernel_rfl) (by kernel_rfl) ?_
          refine runs_v (D.bool true) (by kernel_rfl) (by kernel_rfl) ?_
          refine runs_v (D.agg [D.int IntKind.i64 (3 : Int), D.int IntKind.i64 u, D.sl [] none]) (by kernel_rfl) (by kernel_rfl) ?_
          refine runs_callQ ([D.agg [D.int IntKind.i64 (3 : Int), D.int IntKind.i64 u, D.sl [] none]]) (by kernel_rfl) (by kernel_rfl) (by kernel_rfl) (by kernel_rfl) (e4) (by kernel_rfl) ?_
          refine runs_v (D.bool true) (by kernel_rfl) (by kernel_rfl) ?_
          refine runs_v (D.bool (decide (u ≤ (1000 : Int)))) (by kernel_rfl) (by kernel_rfl) ?_
          refine runs_v (D.bool ((true == decide (u ≤ (1000 : Int))) != false)) (by kernel_rfl) (by kernel_rfl) ?_
          refine runs_v (D.bool ((true == decide (u ≤ (1000 : Int))) != false)) (by kernel_rfl) (by kernel_rfl) ?_
          refine runs_v (D.bool ((true == decide (u ≤ (1000 : Int))) != false)) (by kernel_rfl) (by kernel_rfl) ?_
          refine runs_know 89 (d := .bool ((true == decide (u ≤ (1000 : Int))) != false)) (d' := .bool true) (by kernel_rfl) (congrArg D.bool (show ((true == decide (u ≤ (1000 : Int))) != false) = true from (by simp [ints, eInt, rows, eInts, bools, eBool, trips, eTrip, *]))) ?_
          refine runs_v (D.agg [D.int IntKind.i64 (6 : Int), D.int IntKind.i64 (0 : Int), D.sl ks none]) (by kernel_rfl) (by kernel_rfl) ?_
          refine runs_v (D.sl [[D.int IntKind.i64 (6 : Int), D.int IntKind.i64 (0 : Int), D.sl ks none]] (some (24 : Nat))) (by kernel_rfl) (by kernel_rfl) ?_
          refine runs_v (D.agg [D.int IntKind.i64 (4 : Int), D.int IntKind.i64 (0 : Int), D.sl [[D.int IntKind.i64 (6 : Int), D.int IntKind.i64 (0 : Int), D.sl ks none]] none]) (by kernel_rfl) (by kernel_rfl) ?_
          refine runs_v (D.sl (bools a) none) (by kernel_rfl) (by kernel_rfl) ?_
          refine runs_callQ ([D.agg [D.int IntKind.i64 (4 : Int), D.int IntKind.i64 (0 : Int), D.sl [[D.int IntKind.i64 (6 : Int), D.int IntKind.i64 (0 : Int), D.sl ks none]] none], D.sl (bools a) none]) (by kernel_rfl) (by kernel_rfl) (by kernel_rfl) (by kernel_rfl) (e5) (by kernel_rfl) ?_
          refine runs_v (D.agg [D.int IntKind.i64 (6 : Int), D.int IntKind.i64 (0 : Int), D.sl ks none]) (by kernel_rfl) (by kernel_rfl) ?_
          refine runs_v (D.sl (bools a) none) (by kernel_rfl) (by kernel_rfl) ?_
          refine runs_callQ ([D.agg [D.int IntKind.i64 (6 : Int), D.int IntKind.i64 (0 : Int), D.sl ks none], D.sl (bools a) none]) (by kernel_rfl) (by kernel_rfl) (by kernel_rfl) (by kernel_rfl) (e1) (by kernel_rfl) ?_
          refine runs_v (D.bool true) (by kernel_rfl) (by kernel_rfl) ?_
          refine runs_v (D.bool true) (by kernel_rfl) (by kernel_rfl) ?_
          refine runs_assign0 (D.bool true) (by kernel_rfl) (by kernel_rfl) (by kernel_rfl) ?_
          refine k_done ?_
          refine k_skip_seq ?_
          refine k_ret ?_
          exact ⟨.inr rfl, by kernel_rfl, by kernel_rfl⟩
        · rw [if_neg hf] at e4
          by_cases w1 : u ≥ 1
          · have w2 : ¬ u ≤ 1000 := by omega
            refine k_seq ?_
            refine k_seq ?_
            refine runs_v (D.int IntKind.i64 (↑(List.length a) : Int)) (by kernel_rfl) (by kernel_rfl) ?_
            refine runs_v (D.sl (bools a) none) (by kernel_rfl) (by kernel_rfl) ?_
            refine runs_ve (D.int IntKind.i64 (↑(List.length (bools a)) : Int)) (.int IntKind.i64 ((↑(List.length a) : Int))) (by simp only [ints, eInt, rows, eInts, bools, eBool, trips, eTrip, List.length_map]) (by kernel_rfl) (by kernel_rfl) ?_
            refine runs_v (D.bool (decide ((↑(List.length a) : Int) < (↑(List.length a) : Int)))) (by kernel_rfl) (by kernel_rfl) ?_
            refine k_done ?_
            refine k_skip_seq ?_
            refine runs_know 25 (d := .bool (decide ((↑(List.length a) : Int) < (↑(List.length a) : Int)))) (d' := .bool false) (by kernel_rfl) (congrArg D.bool (show (decide ((↑(List.length a) : Int) < (↑(List.length a) : Int))) = false from (decide_eq_false (by omega)))) ?_
            refine k_cond_f (by kernel_rfl) ?_
            refine k_exit_seq ?_
            refine k_exit_back ?_
            refine k_exit_hit rfl ?_
            refine k_skip_seq ?_
            refine k_seq ?_
            refine runs_v (D.int IntKind.u16 u) (by kernel_rfl) (by kernel_rfl) ?_
            refine runs_ve (D.int IntKind.i64 (IntKind.wrap IntKind.i64 u)) (.int IntKind.i64 (u)) (congrArg (D.int IntKind.i64) (show IntKind.wrap IntKind.i64 u = (u) from wrap_eq (by omega) (by omega) (by omega))) (by kernel_rfl) (by kernel_rfl) ?_
            refine runs_v (D.agg [D.int IntKind.i64 (3 : Int), D.int IntKind.i64 u, D.nils (24 : Nat)]) (by kernel_rfl) (by kernel_rfl) ?_
            refine runs_gf (D.lptr (11 : Nat) (0 : Nat)) ([]) (by kernel_rfl) (by kernel_rfl) ?_
            refine runs_gf (D.junk) ([]) (by kernel_rfl) (by kernel_rfl) ?_
            refine k_done ?_
            refine k_skip_seq ?_
            refine k_seq ?_
            refine runs_v (D.int IntKind.u16 u) (by kernel_rfl) (by kernel_rfl) ?_
            refine runs_v (D.bool (decide (u ≥ (1 : Int)))) (by kernel_rfl) (by kernel_rfl) ?_
            refine runs_v (D.bool (decide (u ≥ (1 : Int)))) (by kernel_rfl) (by kernel_rfl) ?_
            refine runs_know 47 (d := .bool (decide (u ≥ (1 : Int)))) (d' := .bool true) (by kernel_rfl) (congrArg D.bool (show (decide (u ≥ (1 : Int))) = true from (decide_eq_true (by assumption)))) ?_
            refine runs_v (D.int IntKind.u16 u) (by kernel_rfl) (by kernel_rfl) ?_
            refine runs_v (D.bool (decide (u ≤ (1000 : Int)))) (by kernel_rfl) (by kernel_rfl) ?_
            refine runs_v (D.bool (decide (u ≤ (1000 : Int)))) (by kernel_rfl) (by kernel_rfl) ?_
            refine runs_assign0 (D.bool (decide (u ≤ (1000 : Int)))) (by kernel_rfl) (by kernel_rfl) (by kernel_rfl) ?_
            refine k_done ?_
            refine k_skip_seq ?_
            refine k_seq ?_
            refine runs_v (D.agg [D.int IntKind.i64 (6 : Int), D.int IntKind.i64 (0 : Int), D.sl ks none]) (by kernel_rfl) (by kernel_rfl) ?_
            refine runs_v (D.sl (bools a) none) (by kernel_rfl) (by kernel_rfl) ?_
            refine runs_callQ ([D.agg [D.int IntKind.i64 (6 : Int), D.int IntKind.i64 (0 : Int), D.sl ks none], D.sl (bools a) none]) (by kernel_rfl) (by kernel_rfl) (by kernel_rfl) (by kernel_rfl) (e1) (by kernel_rfl) ?_
            refine runs_v (D.bool false) (by kernel_rfl) (by kernel_rfl) ?_
            refine runs_v (D.bool false) (by kernel_rfl) (by kernel_rfl) ?_
            refine runs_no (by kernel_rfl) ?_
            refine runs_no (by kernel_rfl) ?_
            refine runs_no (by kernel_rfl) ?_
            refine runs_no (by kernel_rfl) ?_
            refine runs_v (D.bool false) (by kernel_rfl) (by kernel_rfl) ?_
            refine runs_v (D.bool false) (by kernel_rfl) (by kernel_rfl) ?_
            refine runs_v (D.bool false) (by kernel_rfl) (by kernel_rfl) ?_
            refine runs_v (D.bool true) (by kernel_rfl) (by kernel_rfl) ?_
            refine runs_v (D.bool true) (by kernel_rfl) (by kernel_rfl) ?_
            refine runs_v (D.int IntKind.i64 (↑so : Int)) (by kernel_rfl) (by kernel_rfl) ?_
            refine runs_v (D.bool (decide ((↑so : Int) > (0 : Int)))) (by kernel_rfl) (by kernel_rfl) ?_
            refine runs_v (D.bool (decide ((↑so : Int) > (0 : Int)))) (by kernel_rfl) (by kernel_rfl) ?_
            refine runs_v (D.bool (decide ((↑so : Int) > (0 : Int)))) (by kernel_rfl) (by kernel_rfl) ?_
            refine runs_v (D.bool ((true == decide ((↑so : Int) > (0 : Int))) != false)) (by kernel_rfl) (by kernel_rfl) ?_
            refine runs_v (D.bool ((true == decide ((↑so : Int) > (0 : Int))) != false)) (by kernel_rfl) (by kernel_rfl) ?_
            refine runs_know 70 (d := .bool ((true == decide ((↑so : Int) > (0 : Int))) != false)) (d' := .bool true) (by kernel_rfl) (congrArg D.bool (show ((true == decide ((↑so : Int) > (0 : Int))) != false) = true from (by simp [ints, eInt, rows, eInts, bools, eBool, trips, eTrip, *]))) ?_
            refine runs_v (D.agg [D.int IntKind.i64 (6 : Int), D.int IntKind.i64 (0 : Int), D.sl ks none]) (by kernel_rfl) (by kernel_rfl) ?_
            refine runs_callQ ([D.agg [D.int IntKind.i64 (6 : Int), D.int IntKind.i64 (0 : Int), D.sl ks none]]) (by kernel_rfl) (by kernel_rfl) (by kernel_rfl) (by kernel_rfl) (e2) (by kernel_rfl) ?_
            refine runs_v (D.sl (bools a) none) (by kernel_rfl) (by kernel_rfl) ?_
            refine runs_ve (D.int IntKind.i64 (↑(List.length (bools a)) : Int)) (.int IntKind.i64 ((↑(List.length a) : Int))) (by simp only [ints, eInt, rows, eInts, bools, eBool, trips, eTrip, List.length_map]) (by kernel_rfl) (by kernel_rfl) ?_
            refine runs_v (D.bool ((↑(List.length a) : Int) == (↑(List.length a) : Int))) (by kernel_rfl) (by kernel_rfl) ?_
            refine runs_v (D.bool ((↑(List.length a) : Int) == (↑(List.length a) : Int))) (by kernel_rfl) (by kernel_rfl) ?_
            refine runs_v (D.bool ((↑(List.length a) : Int) == (↑(List.length a) : Int))) (by kernel_rfl) (by kernel_rfl) ?_
            refine runs_know 77 (d := .bool ((↑(List.length a) : Int) == (↑(List.length a) : Int))) (d' := .bool true) (by kernel_rfl) (congrArg D.bool (show ((↑(List.length a) : Int) == (↑(List.length a) : Int)) = true from (decide_eq_true (by omega)))) ?_
            refine runs_v (D.agg [D.int IntKind.i64 (6 : Int), D.int IntKind.i64 (0 : Int), D.sl ks none]) (by kernel_rfl) (by kernel_rfl) ?_
            refine runs_callQ ([D.agg [D.int IntKind.i64 (6 : Int), D.int IntKind.i64 (0 : Int), D.sl ks none]]) (by kernel_rfl) (by kernel_rfl) (by kernel_rfl) (by kernel_rfl) (e3) (by kernel_rfl) ?_
            refine runs_v (D.bool true) (by kernel_rfl) (by kernel_rfl) ?_
            refine runs_v (D.bool true) (by kernel_rfl) (by kernel_rfl) ?_
            refine runs_v (D.bool true) (by kernel_rfl) (by kernel_rfl) ?_
            refine runs_v (D.agg [D.int IntKind.i64 (3 : Int), D.int IntKind.i64 u, D.sl [] none]) (by kernel_rfl) (by kernel_rfl) ?_
            refine runs_callQ ([D.agg [D.int IntKind.i64 (3 : Int), D.int IntKind.i64 u, D.sl [] none]]) (by kernel_rfl) (by kernel_rfl) (by kernel_rfl) (by kernel_rfl) (e4) (by kernel_rfl) ?_
            refine runs_v (D.bool false) (by kernel_rfl) (by kernel_rfl) ?_
            refine runs_v (D.bool (decide (u ≤ (1000 : Int)))) (by kernel_rfl) (by kernel_rfl) ?_
            refine runs_v (D.bool ((false == decide (u ≤ (1000 : Int))) != false)) (by kernel_rfl) (by kernel_rfl) ?_
            refine runs_v (D.bool ((false == decide (u ≤ (1000 : Int))) != false)) (by kernel_rfl) (by kernel_rfl) ?_
            refine runs_v (D.bool ((false == decide (u ≤ (1000 : Int))) != false)) (by kernel_rfl) (by kernel_rfl) ?_
            refine runs_know 89 (d := .bool ((false == decide (u ≤ (1000 : Int))) != false)) (d' := .bool true) (by kernel_rfl) (congrArg D.bool (show ((false == decide (u ≤ (1000 : Int))) != false) = true from (by simp [ints, eInt, rows, eInts, bools, eBool, trips, eTrip, *]))) ?_
            refine runs_v (D.agg [D.int IntKind.i64 (6 : Int), D.int IntKind.i64 (0 : Int), D.sl ks none]) (by kernel_rfl) (by kernel_rfl) ?_
            refine runs_v (D.sl [[D.int IntKind.i64 (6 : Int), D.int IntKind.i64 (0 : Int), D.sl ks none]] (some (24 : Nat))) (by kernel_rfl) (by kernel_rfl) ?_
            refine runs_v (D.agg [D.int IntKind.i64 (4 : Int), D.int IntKind.i64 (0 : Int), D.sl [[D.int IntKind.i64 (6 : Int), D.int IntKind.i64 (0 : Int), D.sl ks none]] none]) (by kernel_rfl) (by kernel_rfl) ?_
            refine runs_v (D.sl (bools a) none) (by kernel_rfl) (by kernel_rfl) ?_
            refine runs_callQ ([D.agg [D.int IntKind.i64 (4 : Int), D.int IntKind.i64 (0 : Int), D.sl [[D.int IntKind.i64 (6 : Int), D.int IntKind.i64 (0 : Int), D.sl ks none]] none], D.sl (bools a) none]) (by kernel_rfl) (by kernel_rfl) (by kernel_rfl) (by kernel_rfl) (e5) (by kernel_rfl) ?_
            refine runs_v (D.agg [D.int IntKind.i64 (6 : Int), D.int IntKind.i64 (0 : Int), D.sl ks none]) (by kernel_rfl) (by kernel_rfl) ?_
            refine runs_v (D.sl (bools a) none) (by kernel_rfl) (by kernel_rfl) ?_
            refine runs_callQ ([D.agg [D.int IntKind.i64 (6 : Int), D.int IntKind.i64 (0 : Int), D.sl ks none], D.sl (bools a) none]) (by kernel_rfl) (by kernel_rfl) (by kernel_rfl) (by kernel_rfl) (e1) (by kernel_rfl) ?_
            refine runs_v (D.bool true) (by kernel_rfl) (by kernel_rfl) ?_
            refine runs_v (D.bool true) (by kernel_rfl) (by kernel_rfl) ?_
            refine runs_assign0 (D.bool true) (by kernel_rfl) (by kernel_rfl) (by kernel_rfl) ?_
            refine k_done ?_
            refine k_skip_seq ?_
            refine k_ret ?_
            exact ⟨.inr rfl, by kernel_rfl, by kernel_rfl⟩
          · refine k_seq ?_
            refine k_seq ?_
            refine runs_v (D.int IntKind.i64 (↑(List.length a) : Int)) (by kernel_rfl) (by kernel_rfl) ?_
            refine runs_v (D.sl (bools a) none) (by kernel_rfl) (by kernel_rfl) ?_
            refine runs_ve (D.int IntKind.i64 (↑(List.length (bools a)) : Int)) (.int IntKind.i64 ((↑(List.length a) : Int))) (by simp only [ints, eInt, rows, eInts, bools, eBool, trips, eTrip, List.length_map]) (by kernel_rfl) (by kernel_rfl) ?_
            refine runs_v (D.bool (decide ((↑(List.length a) : Int) < (↑(List.length a) : Int)))) (by kernel_rfl) (by kernel_rfl) ?_
            refine k_done ?_
            refine k_skip_seq ?_
            refine runs_know 25 (d := .bool (decide ((↑(List.length a) : Int) < (↑(List.length a) : Int)))) (d' := .bool false) (by kernel_rfl) (congrArg D.bool (show (decide ((↑(List.length a) : Int) < (↑(List.length a) : Int))) = false from (decide_eq_false (by omega)))) ?_
            refine k_cond_f (by kernel_rfl) ?_
            refine k_exit_seq ?_
            refine k_exit_back ?_
            refine k_exit_hit rfl ?_
            refine k_skip_seq ?_
            refine k_seq ?_
            refine runs_v (D.int IntKind.u16 u) (by kernel_rfl) (by kernel_rfl) ?_
            refine runs_ve (D.int IntKind.i64 (IntKind.wrap IntKind.i64 u)) (.int IntKind.i64 (u)) (congrArg (D.int IntKind.i64) (show IntKind.wrap IntKind.i64 u = (u) from wrap_eq (by omega) (by omega) (by omega))) (by kernel_rfl) (by kernel_rfl) ?_
            refine runs_v (D.agg [D.int IntKind.i64 (3 : Int), D.int IntKind.i64 u, D.nils (24 : Nat)]) (by kernel_rfl) (by kernel_rfl) ?_
            refine runs_gf (D.lptr (11 : Nat) (0 : Nat)) ([]) (by kernel_rfl) (by kernel_rfl) ?_
            refine runs_gf (D.junk) ([]) (by kernel_rfl) (by kernel_rfl) ?_
            refine k_done ?_
            refine k_skip_seq ?_
            refine k_seq ?_
            refine runs_v (D.int IntKind.u16 u) (by kernel_rfl) (by kernel_rfl) ?_
            refine runs_v (D.bool (decide (u ≥ (1 : Int)))) (by kernel_rfl) (by kernel_rfl) ?_
            refine runs_v (D.bool (decide (u ≥ (1 : Int)))) (by kernel_rfl) (by kernel_rfl) ?_
            refine runs_know 47 (d := .bool (decide (u ≥ (1 : Int)))) (d' := .bool false) (by kernel_rfl) (congrArg D.bool (show (decide (u ≥ (1 : Int))) = false from (decide_eq_false (by assumption)))) ?_
            refine runs_no (by kernel_rfl) ?_
            refine runs_no (by kernel_rfl) ?_
            refine runs_v (D.bool false) (by kernel_rfl) (by kernel_rfl) ?_
            refine runs_assign0 (D.bool false) (by kernel_rfl) (by kernel_rfl) (by kernel_rfl) ?_
            refine k_done ?_
            refine k_skip_seq ?_
            refine k_seq ?_
            refine runs_v (D.agg [D.int IntKind.i64 (6 : Int), D.int IntKind.i64 (0 : Int), D.sl ks none]) (by kernel_rfl) (by kernel_rfl) ?_
            refine runs_v (D.sl (bools a) none) (by kernel_rfl) (by kernel_rfl) ?_
            refine runs_callQ ([D.agg [D.int IntKind.i64 (6 : Int), D.int IntKind.i64 (0 : Int), D.sl ks none], D.sl (bools a) none]) (by kernel_rfl) (by kernel_rfl) (by kernel_rfl) (by kernel_rfl) (e1) (by kernel_rfl) ?_
            refine runs_v (D.bool false) (by kernel_rfl) (by kernel_rfl) ?_
            refine runs_v (D.bool false) (by kernel_rfl) (by kernel_rfl) ?_
            refine runs_no (by kernel_rfl) ?_
            refine runs_no (by kernel_rfl) ?_
            refine runs_no (by kernel_rfl) ?_
            refine runs_no (by kernel_rfl) ?_
            refine runs_v (D.bool false) (by kernel_rfl) (by kernel_rfl) ?_
            refine runs_v (D.bool false) (by kernel_rfl) (by kernel_rfl) ?_
            refine runs_v (D.bool false) (by kernel_rfl) (by kernel_rfl) ?_
            refine runs_v (D.bool true) (by kernel_rfl) (by kernel_rfl) ?_
            refine runs_v (D.bool true) (by kernel_rfl) (by kernel_rfl) ?_
            refine runs_v (D.int IntKind.i64 (↑so : Int)) (by kernel_rfl) (by kernel_rfl) ?_
            refine runs_v (D.bool (decide ((↑so : Int) > (0 : Int)))) (by kernel_rfl) (by kernel_rfl) ?_
            refine runs_v (D.bool (decide ((↑so : Int) > (0 : Int)))) (by kernel_rfl) (by kernel_rfl) ?_
            refine runs_v (D.bool (decide ((↑so : Int) > (0 : Int)))) (by kernel_rfl) (by kernel_rfl) ?_
            refine runs_v (D.bool ((true == decide ((↑so : Int) > (0 : Int))) != false)) (by kernel_rfl) (by kernel_rfl) ?_
            refine runs_v (D.bool ((true == decide ((↑so : Int) > (0 : Int))) != false)) (by kernel_rfl) (by kernel_rfl) ?_
            refine runs_know 70 (d := .bool ((true == decide ((↑so : Int) > (0 : Int))) != false)) (d' := .bool true) (by kernel_rfl) (congrArg D.bool (show ((true == decide ((↑so : Int) > (0 : Int))) != false) = true from (by simp [ints, eInt, rows, eInts, bools, eBool, trips, eTrip, *]))) ?_
            refine runs_v (D.agg [D.int IntKind.i64 (6 : Int), D.int IntKind.i64 (0 : Int), D.sl ks none]) (by kernel_rfl) (by kernel_rfl) ?_
            refine runs_callQ ([D.agg [D.int IntKind.i64 (6 : Int), D.int IntKind.i64 (0 : Int), D.sl ks none]]) (by kernel_rfl) (by kernel_rfl) (by kernel_rfl) (by kernel_rfl) (e2) (by kernel_rfl) ?_
            refine runs_v (D.sl (bools a) none) (by kernel_rfl) (by kernel_rfl) ?_
            refine runs_ve (D.int IntKind.i64 (↑(List.length (bools a)) : Int)) (.int IntKind.i64 ((↑(List.length a) : Int))) (by simp only [ints, eInt, rows, eInts, bools, eBool, trips, eTrip, List.length_map]) (by kernel_rfl) (by kernel_rfl) ?_
            refine runs_v (D.bool ((↑(List.length a) : Int) == (↑(List.length a) : Int))) (by kernel_rfl) (by kernel_rfl) ?_
            refine runs_v (D.bool ((↑(List.length a) : Int) == (↑(List.length a) : Int))) (by kernel_rfl) (by kernel_rfl) ?_
            refine runs_v (D.bool ((↑(List.length a) : Int) == (↑(List.length a) : Int))) (by kernel_rfl) (by kernel_rfl) ?_
            refine runs_know 77 (d := .bool ((↑(List.length a) : Int) == (↑(List.length a) : Int))) (d' := .bool true) (by kernel_rfl) (congrArg D.bool (show ((↑(List.length a) : Int) == (↑(List.length a) : Int)) = true from (decide_eq_true (by omega)))) ?_
            refine runs_v (D.agg [D.int IntKind.i64 (6 : Int), D.int IntKind.i64 (0 : Int), D.sl ks none]) (by kernel_rfl) (by kernel_rfl) ?_
            refine runs_callQ ([D.agg [D.int IntKind.i64 (6 : Int), D.int IntKind.i64 (0 : Int), D.sl ks none]]) (by kernel_rfl) (by kernel_rfl) (by kernel_rfl) (by kernel_rfl) (e3) (by kernel_rfl) ?_
            refine runs_v (D.bool true) (by kernel_rfl) (by kernel_rfl) ?_
            refine runs_v (D.bool true) (by kernel_rfl) (by kernel_rfl) ?_
            refine runs_v (D.bool true) (by kernel_rfl) (by kernel_rfl) ?_
            refine runs_v (D.agg [D.int IntKind.i64 (3 : Int), D.int IntKind.i64 u, D.sl [] none]) (by kernel_rfl) (by kernel_rfl) ?_
            refine runs_callQ ([D.agg [D.int IntKind.i64 (3 : Int), D.int IntKind.i64 u, D.sl [] none]]) (by kernel_rfl) (by kernel_rfl) (by kernel_rfl) (by kernel_rfl) (e4) (by kernel_rfl) ?_
            refine runs_v (D.bool false) (by kernel_rfl) (by kernel_rfl) ?_
            refine runs_v (D.bool false) (by kernel_rfl) (by kernel_rfl) ?_
            refine runs_v (D.bool true) (by kernel_rfl) (by kernel_rfl) ?_
            refine runs_v (D.bool true) (by kernel_rfl) (by kernel_rfl) ?_
            refine runs_v (D.bool true) (by kernel_rfl) (by kernel_rfl) ?_
            refine runs_v (D.agg [D.int IntKind.i64 (6 : Int), D.int IntKind.i64 (0 : Int), D.sl ks none]) (by kernel_rfl) (by kernel_rfl) ?_
            refine runs_v (D.sl [[D.int IntKind.i64 (6 : Int), D.int IntKind.i64 (0 : Int), D.sl ks none]] (some (24 : Nat))) (by kernel_rfl) (by kernel_rfl) ?_
            refine runs_v (D.agg [D.int IntKind.i64 (4 : Int), D.int IntKind.i64 (0 : Int), D.sl [[D.int IntKind.i64 (6 : Int), D.int IntKind.i64 (0 : Int), D.sl ks none]] none]) (by kernel_rfl) (by kernel_rfl) ?_
            refine runs_v (D.sl (bools a) none) (by kernel_rfl) (by kernel_rfl) ?_
            refine runs_callQ ([D.agg [D.int IntKind.i64 (4 : Int), D.int IntKind.i64 (0 : Int), D.sl [[D.int IntKind.i64 (6 : Int), D.int IntKind.i64 (0 : Int), D.sl ks none]] none], D.sl (bools a) none]) (by kernel_rfl) (by kernel_rfl) (by kernel_rfl) (by kernel_rfl) (e5) (by kernel_rfl) ?_
            refine runs_v (D.agg [D.int IntKind.i64 (6 : Int), D.int IntKind.i64 (0 : Int), D.sl ks none]) (by kernel_rfl) (by kernel_rfl) ?_
            refine runs_v (D.sl (bools a) none) (by kernel_rfl) (by kernel_rfl) ?_
            refine runs_callQ ([D.agg [D.int IntKind.i64 (6 : Int), D.int IntKind.i64 (0 : Int), D.sl ks none], D.sl (bools a) none]) (by kernel_rfl) (by kernel_rfl) (by kernel_rfl) (by kernel_rfl) (e1) (by kernel_rfl) ?_
            refine runs_v (D.bool true) (by kernel_rfl) (by kernel_rfl) ?_
            refine runs_v (D.bool true) (by kernel_rfl) (by kernel_rfl) ?_
            refine runs_assign0 (D.bool true) (by kernel_rfl) (by kernel_rfl) (by kernel_rfl) ?_
            refine k_done ?_
            refine k_skip_seq ?_
            refine k_ret ?_
            exact ⟨.inr rfl, by kernel_rfl, by kernel_rfl⟩
      · rw [decide_eq_false q] at e1 e5
        rw [show eF (.mk 6 0 (ats a.length)) = [.int .i64 6, .int .i64 0, .sl (eFs (ats a.length)) none] from rfl] at e1 e2 e3 e5
        generalize eFs (ats a.length) = ks at *
        by_cases hf : 1 ≤ u ∧ u ≤ 1000
        · rw [if_pos hf] at e4
          have w1 : u ≥ 1 := by omega
          have w2 : u ≤ 1000 := by omega
          refine k_seq ?_
          refine k_seq ?_
          refine runs_v (D.int IntKind.i64 (↑(List.length a) : Int)) (by kernel_rfl) (by kernel_rfl) ?_
          refine runs_v (D.sl (bools a) none) (by kernel_rfl) (by kernel_rfl) ?_
          refine runs_ve (D.int IntKind.i64 (↑(List.length (bools a)) : Int)) (.int IntKind.i64 ((↑(List.length a) : Int))) (by simp only [ints, eInt, rows, eInts, bools, eBool, trips, eTrip, List.length_map]) (by kernel_rfl) (by kernel_rfl) ?_
          refine runs_v (D.bool (decide ((↑(List.length a) : Int) < (↑(List.length a) : Int)))) (by kernel_rfl) (by kernel_rfl) ?_
          refine k_done ?_
          refine k_skip_seq ?_
          refine runs_know 25 (d := .bool (decide ((↑(List.length a) : Int) < (↑(List.length a) : Int)))) (d' := .bool false) (by kernel_rfl) (congrArg D.bool (show (decide ((↑(List.length a) : Int) < (↑(List.length a) : Int))) = false from (decide_eq_false (by omega)))) ?_
          refine k_cond_f (by kernel_rfl) ?_
          refine k_exit_seq ?_
          refine k_exit_back ?_
          refine k_exit_hit rfl ?_
          refine k_skip_seq ?_
          refine k_seq ?_
          refine runs_v (D.int IntKind.u16 u) (by kernel_rfl) (by kernel_rfl) ?_
          refine runs_ve (D.int IntKind.i64 (IntKind.wrap IntKind.i64 u)) (.int IntKind.i64 (u)) (congrArg (D.int IntKind.i64) (show IntKind.wrap IntKind.i64 u = (u) from wrap_eq (by omega) (by omega) (by omega))) (by kernel_rfl) (by kernel_rfl) ?_
          refine runs_v (D.agg [D.int IntKind.i64 (3 : Int), D.int IntKind.i64 u, D.nils (24 : Nat)]) (by kernel_rfl) (by kernel_rfl) ?_
          refine runs_gf (D.lptr (11 : Nat) (0 : Nat)) ([]) (by kernel_rfl) (by kernel_rfl) ?_
          refine runs_gf (D.junk) ([]) (by kernel_rfl) (by kernel_rfl) ?_
          refine k_done ?_
          refine k_skip_seq ?_
          refine k_seq ?_
          refine runs_v (D.int IntKind.u16 u) (by kernel_rfl) (by kernel_rfl) ?_
          refine runs_v (D.bool (decide (u ≥ (1 : Int)))) (by kernel_rfl) (by kernel_rfl) ?_
          refine runs_v (D.bool (decide (u ≥ (1 : Int)))) (by kernel_rfl) (by kernel_rfl) ?_
          refine runs_know 47 (d := .bool (decide (u ≥ (1 : Int)))) (d' := .bool true) (by kernel_rfl) (congrArg D.bool (show (decide (u ≥ (1 : Int))) = true from (decide_eq_true (by assumption)))) ?_
          refine runs_v (D.int IntKind.u16 u) (by kernel_rfl) (by kernel_rfl) ?_
          refine runs_v (D.bool (decide (u ≤ (1000 : Int)))) (by kernel_rfl) (by kernel_rfl) ?_
          refine runs_v (D.bool (decide (u ≤ (1000 : Int)))) (by kernel_rfl) (by kernel_rfl) ?_
          refine runs_assign0 (D.bool (decide (u ≤ (1000 : Int)))) (by kernel_rfl) (by kernel_rfl) (by kernel_rfl) ?_
          refine k_done ?_
          refine k_skip_seq ?_
          refine k_seq ?_
          refine runs_v (D.agg [D.int IntKind.i64 (6 : Int), D.int IntKind.i64 (0 : Int), D.sl ks none]) (by kernel_rfl) (by kernel_rfl) ?_
          refine runs_v (D.sl (bools a) none) (by kernel_rfl) (by kernel_rfl) ?_
          refine runs_callQ ([D.agg [D.int IntKind.i64 (6 : Int), D.int IntKind.i64 (0 : Int), D.sl ks none], D.sl (bools a) none]) (by kernel_rfl) (by kernel_rfl) (by kernel_rfl) (by kernel_rfl) (e1) (by kernel_rfl) ?_
          refine runs_v (D.bool false) (by kernel_rfl) (by kernel_rfl) ?_
          refine runs_v (D.bool false) (by kernel_rfl) (by kernel_rfl) ?_
          refine runs_no (by kernel_rfl) ?_
          refine runs_no (by kernel_rfl) ?_
          refine runs_no (by kernel_rfl) ?_
          refine runs_no (by kernel_rfl) ?_
          refine runs_v (D.bool false) (by kernel_rfl) (by kernel_rfl) ?_
          refine runs_v (D.bool false) (by kernel_rfl) (by kernel_rfl) ?_
          refine runs_v (D.bool false) (by kernel_rfl) (by kernel_rfl) ?_
          refine runs_v (D.bool true) (by kernel_rfl) (by kernel_rfl) ?_
          refine runs_v (D.bool true) (by kernel_rfl) (by kernel_rfl) ?_
          refine runs_v (D.int IntKind.i64 (↑so : Int)) (by kernel_rfl) (by kernel_rfl) ?_
          refine runs_v (D.bool (decide ((↑so : Int) > (0 : Int)))) (by kernel_rfl) (by kernel_rfl) ?_
          refine runs_v (D.bool (decide ((↑so : Int) > (0 : Int)))) (by kernel_rfl) (by kernel_rfl) ?_
          refine runs_v (D.bool (decide ((↑so : Int) > (0 : Int)))) (by kernel_rfl) (by kernel_rfl) ?_
          refine runs_v (D.bool ((false == decide ((↑so : Int) > (0 : Int))) != false)) (by kernel_rfl) (by kernel_rfl) ?_
          refine runs_v (D.bool ((false == decide ((↑so : Int) > (0 : Int))) != false)) (by kernel_rfl) (by kernel_rfl) ?_
          refine runs_know 70 (d := .bool ((false == decide ((↑so : Int) > (0 : Int))) != false)) (d' := .bool true) (by kernel_rfl) (congrArg D.bool (show ((false == decide ((↑so : Int) > (0 : Int))) != false) = true from (by simp [ints, eInt, rows, eInts, bools, eBool, trips, eTrip, *]))) ?_
          refine runs_v (D.agg [D.int IntKind.i64 (6 : Int), D.int IntKind.i64 (0 : Int), D.sl ks none]) (by kernel_rfl) (by kernel_rfl) ?_
          refine runs_callQ ([D.agg [D.int IntKind.i64 (6 : Int), D.int IntKind.i64 (0 : Int), D.sl ks none]]) (by kernel_rfl) (by kernel_rfl) (by kernel_rfl) (by kernel_rfl) (e2) (by kernel_rfl) ?_
          refine runs_v (D.sl (bools a) none) (by kernel_rfl) (by kernel_rfl) ?_
          refine runs_ve (D.int IntKind.i64 (↑(List.length (bools a)) : Int)) (.int IntKind.i64 ((↑(List.length a) : Int))) (by simp only [ints, eInt, rows, eInts, bools, eBool, trips, eTrip, List.length_map]) (by kernel_rfl) (by kernel_rfl) ?_
          refine runs_v (D.bool ((↑(List.length a) : Int) == (↑(List.length a) : Int))) (by kernel_rfl) (by kernel_rfl) ?_
          refine runs_v (D.bool ((↑(List.length a) : Int) == (↑(List.length a) : Int))) (by kernel_rfl) (by kernel_rfl) ?_
          refine runs_v (D.bool ((↑(List.length a) : Int) == (↑(List.length a) : Int))) (by kernel_rfl) (by kernel_rfl) ?_
          refine runs_know 77 (d := .bool ((↑(List.length a) : Int) == (↑(List.length a) : Int))) (d' := .bool true) (by kernel_rfl) (congrArg D.bool (show ((↑(List.length a) : Int) == (↑(List.length a) : Int)) = true from (decide_eq_true (by omega)))) ?_
          refine runs_v (D.agg [D.int IntKind.i64 (6 : Int), D.int IntKind.i64 (0 : Int), D.sl ks none]) (by kernel_rfl) (by kernel_rfl) ?_
          refine runs_callQ ([D.agg [D.int IntKind.i64 (6 : Int), D.int IntKind.i64 (0 : Int), D.sl ks none]]) (by kernel_rfl) (by kernel_rfl) (by kernel_rfl) (by kernel_rfl) (e3) (by kernel_rfl) ?_
          refine runs_v (D.bool true) (by kernel_rfl) (by kernel_rfl) ?_
          refine runs_v (D.bool true) (by kernel_rfl) (by kernel_rfl) ?_
          refine runs_v (D.bool true) (by kernel_rfl) (by kernel_rfl) ?_
          refine runs_v (D.agg [D.int IntKind.i64 (3 : Int), D.int IntKind.i64 u, D.sl [] none]) (by kernel_rfl) (by kernel_rfl) ?_
          refine runs_callQ ([D.agg [D.int IntKind.i64 (3 : Int), D.int IntKind.i64 u, D.sl [] none]]) (by kernel_rfl) (by kernel_rfl) (by kernel_rfl) (by kernel_rfl) (e4) (by kernel_rfl) ?_
          refine runs_v (D.bool true) (by kernel_rfl) (by kernel_rfl) ?_
          refine runs_v (D.bool (decide (u ≤ (1000 : Int)))) (by kernel_rfl) (by kernel_rfl) ?_
          refine runs_v (D.bool ((true == decide (u ≤ (1000 : Int))) != false)) (by kernel_rfl) (by kernel_rfl) ?_
          refine runs_v (D.bool ((true == decide (u ≤ (1000 : Int))) != false)) (by kernel_rfl) (by kernel_rfl) ?_
          refine runs_v (D.bool ((true == decide (u ≤ (1000 : Int))) != false)) (by kernel_rfl) (by kernel_rfl) ?_
          refine runs_know 89 (d := .bool ((true == decide (u ≤ (1000 : Int))) != false)) (d' := .bool true) (by kernel_rfl) (congrArg D.bool (show ((true == decide (u ≤ (1000 : Int))) != false) = true from (by simp [ints, eInt, rows, eInts, bools, eBool, trips, eTrip, *]))) ?_
          refine runs_v (D.agg [D.int IntKind.i64 (6 : Int), D.int IntKind.i64 (0 : Int), D.sl ks none]) (by kernel_rfl) (by kernel_rfl) ?_
          refine runs_v (D.sl [[D.int IntKind.i64 (6 : Int), D.int IntKind.i64 (0 : Int), D.sl ks none]] (some (24 : Nat))) (by kernel_rfl) (by kernel_rfl) ?_
          refine runs_v (D.agg [D.int IntKind.i64 (4 : Int), D.int IntKind.i64 (0 : Int), D.sl [[D.int IntKind.i64 (6 : Int), D.int IntKind.i64 (0 : Int), D.sl ks none]] none]) (by kernel_rfl) (by kernel_rfl) ?_
          refine runs_v (D.sl (bools a) none) (by kernel_rfl) (by kernel_rfl) ?_
          refine runs_callQ ([D.agg [D.int IntKind.i64 (4 : Int), D.int IntKind.i64 (0 : Int), D.sl [[D.int IntKind.i64 (6 : Int), D.int IntKind.i64 (0 : Int), D.sl ks none]] none], D.sl (bools a) none]) (by kernel_rfl) (by kernel_rfl) (by kernel_rfl) (by kernel_rfl) (e5) (by kernel_rfl) ?_
          refine runs_v (D.agg [D.int IntKind.i64 (6 : Int), D.int IntKind.i64 (0 : Int), D.sl ks none]) (by kernel_rfl) (by kernel_rfl) ?_
          refine runs_v (D.sl (bools a) none) (by kernel_rfl) (by kernel_rfl) ?_
          refine runs_callQ ([D.agg [D.int IntKind.i64 (6 : Int), D.int IntKind.i64 (0 : Int), D.sl ks none], D.sl (bools a) none]) (by kernel_rfl) (by kernel_rfl) (by kernel_rfl) (by kernel_rfl) (e1) (by kernel_rfl) ?_
          refine runs_v (D.bool true) (by kernel_rfl) (by kernel_rfl) ?_
          refine runs_v (D.bool true) (by kernel_rfl) (by kernel_rfl) ?_
          refine runs_assign0 (D.bool true) (by kernel_rfl) (by kernel_rfl) (by kernel_rfl) ?_
          refine k_done ?_
          refine k_skip_seq ?_
          refine k_ret ?_
          exact ⟨.inr rfl, by kernel_rfl, by kernel_rfl⟩
        · rw [if_neg hf] at e4
          by_cases w1 : u ≥ 1
          · have w2 : ¬ u ≤ 1000 := by omega
            refine k_seq ?_
            refine k_seq ?_
            refine runs_v (D.int IntKind.i64 (↑(List.length a) : Int)) (by kernel_rfl) (by kernel_rfl) ?_
            refine runs_v (D.sl (bools a) none) (by kernel_rfl) (by kernel_rfl) ?_
            refine runs_ve (D.int IntKind.i64 (↑(List.length (bools a)) : Int)) (.int IntKind.i64 ((↑(List.length a) : Int))) (by simp only [ints, eInt, rows, eInts, bools, eBool, trips, eTrip, List.length_map]) (by kernel_rfl) (by kernel_rfl) ?_
            refine runs_v (D.bool (decide ((↑(List.length a) : Int) < (↑(List.length a) : Int)))) (by kernel_rfl) (by kernel_rfl) ?_
            refine k_done ?_
            refine k_skip_seq ?_
            refine runs_know 25 (d := .bool (decide ((↑(List.length a) : Int) < (↑(List.length a) : Int)))) (d' := .bool false) (by kernel_rfl) (congrArg D.bool (show (decide ((↑(List.length a) : Int) < (↑(List.length a) : Int))) = false from (decide_eq_false (by omega)))) ?_
            refine k_cond_f (by kernel_rfl) ?_
            refine k_exit_seq ?_
            refine k_exit_back ?_
            refine k_exit_hit rfl ?_
            refine k_skip_seq ?_
            refine k_seq ?_
            refine runs_v (D.int IntKind.u16 u) (by kernel_rfl) (by kernel_rfl) ?_
            refine runs_ve (D.int IntKind.i64 (IntKind.wrap IntKind.i64 u)) (.int IntKind.i64 (u)) (congrArg (D.int IntKind.i64) (show IntKind.wrap IntKind.i64 u = (u) from wrap_eq (by omega) (by omega) (by omega))) (by kernel_rfl) (by kernel_rfl) ?_
            refine runs_v (D.agg [D.int IntKind.i64 (3 : Int), D.int IntKind.i64 u, D.nils (24 : Nat)]) (by kernel_rfl) (by kernel_rfl) ?_
            refine runs_gf (D.lptr (11 : Nat) (0 : Nat)) ([]) (by kernel_rfl) (by kernel_rfl) ?_
            refine runs_gf (D.junk) ([]) (by kernel_rfl) (by kernel_rfl) ?_
            refine k_done ?_
            refine k_skip_seq ?_
            refine k_seq ?_
            refine runs_v (D.int IntKind.u16 u) (by kernel_rfl) (by kernel_rfl) ?_
            refine runs_v (D.bool (decide (u ≥ (1 : Int)))) (by kernel_rfl) (by kernel_rfl) ?_
            refine runs_v (D.bool (decide (u ≥ (1 : Int)))) (by kernel_rfl) (by kernel_rfl) ?_
            refine runs_know 47 (d := .bool (decide (u ≥ (1 : Int)))) (d' := .bool true) (by kernel_rfl) (congrArg D.bool (show (decide (u ≥ (1 : Int))) = true from (decide_eq_true (by assumption)))) ?_
            refine runs_v (D.int IntKind.u16 u) (by kernel_rfl) (by kernel_rfl) ?_
            refine runs_v (D.bool (decide (u ≤ (1000 : Int)))) (by kernel_rfl) (by kernel_rfl) ?_
            refine runs_v (D.bool (decide (u ≤ (1000 : Int)))) (by kernel_rfl) (by kernel_rfl) ?_
            refine runs_assign0 (D.bool (decide (u ≤ (1000 : Int)))) (by kernel_rfl) (by kernel_rfl) (by kernel_rfl) ?_
            refine k_done ?_
            refine k_skip_seq ?_
            refine k_seq ?_
            refine runs_v (D.agg [D.int IntKind.i64 (6 : Int), D.int IntKind.i64 (0 : Int), D.sl ks none]) (by kernel_rfl) (by kernel_rfl) ?_
            refine runs_v (D.sl (bools a) none) (by kernel_rfl) (by kernel_rfl) ?_
            refine runs_callQ ([D.agg [D.int IntKind.i64 (6 : Int), D.int IntKind.i64 (0 : Int), D.sl ks none], D.sl (bools a) none]) (by kernel_rfl) (by kernel_rfl) (by kernel_rfl) (by kernel_rfl) (e1) (by kernel_rfl) ?_
            refine runs_v (D.bool false) (by kernel_rfl) (by kernel_rfl) ?_
            refine runs_v (D.bool false) (by kernel_rfl) (by kernel_rfl) ?_
            refine runs_no (by kernel_rfl) ?_
            refine runs_no (by kernel_rfl) ?_
            refine runs_no (by kernel_rfl) ?_
            refine runs_no (by kernel_rfl) ?_
            refine runs_v (D.bool false) (by kernel_rfl) (by kernel_rfl) ?_
            refine runs_v (D.bool false) (by kernel_rfl) (by kernel_rfl) ?_
            refine runs_v (D.bool false) (by kernel_rfl) (by kernel_rfl) ?_
            refine runs_v (D.bool true) (by kernel_rfl) (by kernel_rfl) ?_
            refine runs_v (D.bool true) (by kernel_rfl) (by kernel_rfl) ?_
            refine runs_v (D.int IntKind.i64 (↑so : Int)) (by kernel_rfl) (by kernel_rfl) ?_
            refine runs_v (D.bool (decide ((↑so : Int) > (0 : Int)))) (by kernel_rfl) (by kernel_rfl) ?_
            refine runs_v (D.bool (decide ((↑so : Int) > (0 : Int)))) (by kernel_rfl) (by kernel_rfl) ?_
            refine runs_v (D.bool (decide ((↑so : Int) > (0 : Int)))) (by kernel_rfl) (by kernel_rfl) ?_
            refine runs_v (D.bool ((false == decide ((↑so : Int) > (0 : Int))) != false)) (by kernel_rfl) (by kernel_rfl) ?_
            refine runs_v (D.bool ((false == decide ((↑so : Int) > (0 : Int))) != false)) (by kernel_rfl) (by kernel_rfl) ?_
            refine runs_know 70 (d := .bool ((false == decide ((↑so : Int) > (0 : Int))) != false)) (d' := .bool true) (by kernel_rfl) (congrArg D.bool (show ((false == decide ((↑so : Int) > (0 : Int))) != false) = true from (by simp [ints, eInt, rows, eInts, bools, eBool, trips, eTrip, *]))) ?_
            refine runs_v (D.agg [D.int IntKind.i64 (6 : Int), D.int IntKind.i64 (0 : Int), D.sl ks none]) (by kernel_rfl) (by kernel_rfl) ?_
            refine runs_callQ ([D.agg [D.int IntKind.i64 (6 : Int), D.int IntKind.i64 (0 : Int), D.sl ks none]]) (by kernel_rfl) (by kernel_rfl) (by kernel_rfl) (by kernel_rfl) (e2) (by kernel_rfl) ?_
            refine runs_v (D.sl (bools a) none) (by kernel_rfl) (by kernel_rfl) ?_
            refine runs_ve (D.int IntKind.i64 (↑(List.length (bools a)) : Int)) (.int IntKind.i64 ((↑(List.length a) : Int))) (by simp only [ints, eInt, rows, eInts, bools, eBool, trips, eTrip, List.length_map]) (by kernel_rfl) (by kernel_rfl) ?_
            refine runs_v (D.bool ((↑(List.length a) : Int) == (↑(List.length a) : Int))) (by kernel_rfl) (by kernel_rfl) ?_
            refine runs_v (D.bool ((↑(List.length a) : Int) == (↑(List.length a) : Int))) (by kernel_rfl) (by kernel_rfl) ?_
            refine runs_v (D.bool ((↑(List.length a) : Int) == (↑(List.length a) : Int))) (by kernel_rfl) (by kernel_rfl) ?_
            refine runs_know 77 (d := .bool ((↑(List.length a) : Int) == (↑(List.length a) : Int))) (d' := .bool true) (by kernel_rfl) (congrArg D.bool (show ((↑(List.length a) : Int) == (↑(List.length a) : Int)) = true from (decide_eq_true (by omega)))) ?_
            refine runs_v (D.agg [D.int IntKind.i64 (6 : Int), D.int IntKind.i64 (0 : Int), D.sl ks none]) (by kernel_rfl) (by kernel_rfl) ?_
            refine runs_callQ ([D.agg [D.int IntKind.i64 (6 : Int), D.int IntKind.i64 (0 : Int), D.sl ks none]]) (by kernel_rfl) (by kernel_rfl) (by kernel_rfl) (by kernel_rfl) (e3) (by kernel_rfl) ?_
            refine runs_v (D.bool true) (by kernel_rfl) (by kernel_rfl) ?_
            refine runs_v (D.bool true) (by kernel_rfl) (by kernel_rfl) ?_
            refine runs_v (D.bool true) (by kernel_rfl) (by kernel_rfl) ?_
            refine runs_v (D.agg [D.int IntKind.i64 (3 : Int), D.int IntKind.i64 u, D.sl [] none]) (by kernel_rfl) (by kernel_rfl) ?_
            refine runs_callQ ([D.agg [D.int IntKind.i64 (3 : Int), D.int IntKind.i64 u, D.sl [] none]]) (by kernel_rfl) (by kernel_rfl) (by kernel_rfl) (by kernel_rfl) (e4) (by kernel_rfl) ?_
            refine runs_v (D.bool false) (by kernel_rfl) (by kernel_rfl) ?_
            refine runs_v (D.bool (decide (u ≤ (1000 : Int)))) (by kernel_rfl) (by kernel_rfl) ?_
            refine runs_v (D.bool ((false == decide (u ≤ (1000 : Int))) != false)) (by kernel_rfl) (by kernel_rfl) ?_
            refine runs_v (D.bool ((false == decide (u ≤ (1000 : Int))) != false)) (by kernel_rfl) (by kernel_rfl) ?_
            refine runs_v (D.bool ((false == decide (u ≤ (1000 : Int))) != false)) (by kernel_rfl) (by kernel_rfl) ?_
            refine runs_know 89 (d := .bool ((false == decide (u ≤ (1000 : Int))) != false)) (d' := .bool true) (by kernel_rfl) (congrArg D.bool (show ((false == decide (u ≤ (1000 : Int))) != false) = true from (by simp [ints, eInt, rows, eInts, bools, eBool, trips, eTrip, *]))) ?_
            refine runs_v (D.agg [D.int IntKind.i64 (6 : Int), D.int IntKind.i64 (0 : Int), D.sl ks none]) (by kernel_rfl) (by kernel_rfl) ?_
            refine runs_v (D.sl [[D.int IntKind.i64 (6 : Int), D.int IntKind.i64 (0 : Int), D.sl ks none]] (some (24 : Nat))) (by kernel_rfl) (by kernel_rfl) ?_
            refine runs_v (D.agg [D.int IntKind.i64 (4 : Int), D.int IntKind.i64 (0 : Int), D.sl [[D.int IntKind.i64 (6 : Int), D.int IntKind.i64 (0 : Int), D.sl ks none]] none]) (by kernel_rfl) (by kernel_rfl) ?_
            refine runs_v (D.sl (bools a) none) (by kernel_rfl) (by kernel_rfl) ?_
            refine runs_callQ ([D.agg [D.int IntKind.i64 (4 : Int), D.int IntKind.i64 (0 : Int), D.sl [[D.int IntKind.i64 (6 : Int), D.int IntKind.i64 (0 : Int), D.sl ks none]] none], D.sl (bools a) none]) (by kernel_rfl) (by kernel_rfl) (by kernel_rfl) (by kernel_rfl) (e5) (by kernel_rfl) ?_
            refine runs_v (D.agg [D.int IntKind.i64 (6 : Int), D.int IntKind.i64 (0 : Int), D.sl ks none]) (by kernel_rfl) (by kernel_rfl) ?_
            refine runs_v (D.sl (bools a) none) (by kernel_rfl) (by kernel_rfl) ?_
            refine runs_callQ ([D.agg [D.int IntKind.i64 (6 : Int), D.int IntKind.i64 (0 : Int), D.sl ks none], D.sl (bools a) none]) (by kernel_rfl) (by kernel_rfl) (by kernel_rfl) (by kernel_rfl) (e1) (by kernel_rfl) ?_
            refine runs_v (D.bool true) (by kernel_rfl) (by kernel_rfl) ?_
            refine runs_v (D.bool true) (by kernel_rfl) (by kernel_rfl) ?_
            refine runs_assign0 (D.bool true) (by kernel_rfl) (by kernel_rfl) (by kernel_rfl) ?_
            refine k_done ?_
            refine k_skip_seq ?_
            refine k_ret ?_
            exact ⟨.inr rfl, by kernel_rfl, by kernel_rfl⟩
          · refine k_seq ?_
            refine k_seq ?_
            refine runs_v (D.int IntKind.i64 (↑(List.length a) : Int)) (by kernel_rfl) (by kernel_rfl) ?_
            refine runs_v (D.sl (bools a) none) (by kernel_rfl) (by kernel_rfl) ?_
            refine runs_ve (D.int IntKind.i64 (↑(List.length (bools a)) : Int)) (.int IntKind.i64 ((↑(List.length a) : Int))) (by simp only [ints, eInt, rows, eInts, bools, eBool, trips, eTrip, List.length_map]) (by kernel_rfl) (by kernel_rfl) ?_
            refine runs_v (D.bool (decide ((↑(List.length a) : Int) < (↑(List.length a) : Int)))) (by kernel_rfl) (by kernel_rfl) ?_
            refine k_done ?_
            refine k_skip_seq ?_
            refine runs_know 25 (d := .bool (decide ((↑(List.length a) : Int) < (↑(List.length a) : Int)))) (d' := .bool false) (by kernel_rfl) (congrArg D.bool (show (decide ((↑(List.length a) : Int) < (↑(List.length a) : Int))) = false from (decide_eq_false (by omega)))) ?_
            refine k_cond_f (by kernel_rfl) ?_
            refine k_exit_seq ?_
            refine k_exit_back ?_
            refine k_exit_hit rfl ?_
            refine k_skip_seq ?_
            refine k_seq ?_
            refine runs_v (D.int IntKind.u16 u) (by kernel_rfl) (by kernel_rfl) ?_
            refine runs_ve (D.int IntKind.i64 (IntKind.wrap IntKind.i64 u)) (.int IntKind.i64 (u)) (congrArg (D.int IntKind.i64) (show IntKind.wrap IntKind.i64 u = (u) from wrap_eq (by omega) (by omega) (by omega))) (by kernel_rfl) (by kernel_rfl) ?_
            refine runs_v (D.agg [D.int IntKind.i64 (3 : Int), D.int IntKind.i64 u, D.nils (24 : Nat)]) (by kernel_rfl) (by kernel_rfl) ?_
            refine runs_gf (D.lptr (11 : Nat) (0 : Nat)) ([]) (by kernel_rfl) (by kernel_rfl) ?_
            refine runs_gf (D.junk) ([]) (by kernel_rfl) (by kernel_rfl) ?_
            refine k_done ?_
            refine k_skip_seq ?_
            refine k_seq ?_
            refine runs_v (D.int IntKind.u16 u) (by kernel_rfl) (by kernel_rfl) ?_
            refine runs_v (D.bool (decide (u ≥ (1 : Int)))) (by kernel_rfl) (by kernel_rfl) ?_
            refine runs_v (D.bool (decide (u ≥ (1 : Int)))) (by kernel_rfl) (by kernel_rfl) ?_
            refine runs_know 47 (d := .bool (decide (u ≥ (1 : Int)))) (d' := .bool false) (by kernel_rfl) (congrArg D.bool (show (decide (u ≥ (1 : Int))) = false from (decide_eq_false (by assumption)))) ?_
            refine runs_no (by kernel_rfl) ?_
            refine runs_no (by kernel_rfl) ?_
            refine runs_v (D.bool false) (by kernel_rfl) (by kernel_rfl) ?_
            refine runs_assign0 (D.bool false) (by kernel_rfl) (by kernel_rfl) (by kernel_rfl) ?_
            refine k_done ?_
            refine k_skip_seq ?_
            refine k_seq ?_
            refine runs_v (D.agg [D.int IntKind.i64 (6 : Int), D.int IntKind.i64 (0 : Int), D.sl ks none]) (by kernel_rfl) (by kernel_rfl) ?_
            refine runs_v (D.sl (bools a) none) (by kernel_rfl) (by kernel_rfl) ?_
            refine runs_callQ ([D.agg [D.int IntKind.i64 (6 : Int), D.int IntKind.i64 (0 : Int), D.sl ks none], D.sl (bools a) none]) (by kernel_rfl) (by kernel_rfl) (by kernel_rfl) (by kernel_rfl) (e1) (by kernel_rfl) ?_
            refine runs_v (D.bool false) (by kernel_rfl) (by kernel_rfl) ?_
            refine runs_v (D.bool false) (by kernel_rfl) (by kernel_rfl) ?_
            refine runs_no (by kernel_rfl) ?_
            refine runs_no (by kernel_rfl) ?_
            refine runs_no (by kernel_rfl) ?_
            refine runs_no (by kernel_rfl) ?_
            refine runs_v (D.bool false) (by kernel_rfl) (by kernel_rfl) ?_
            refine runs_v (D.bool false) (by kernel_rfl) (by kernel_rfl) ?_
            refine runs_v (D.bool false) (by kernel_rfl) (by kernel_rfl) ?_
            refine runs_v (D.bool true) (by kernel_rfl) (by kernel_rfl) ?_
            refine runs_v (D.bool true) (by kernel_rfl) (by kernel_rfl) ?_
            refine runs_v (D.int IntKind.i64 (↑so : Int)) (by kernel_rfl) (by kernel_rfl) ?_
            refine runs_v (D.bool (decide ((↑so : Int) > (0 : Int)))) (by kernel_rfl) (by kernel_rfl) ?_
            refine runs_v (D.bool (decide ((↑so : Int) > (0 : Int)))) (by kernel_rfl) (by kernel_rfl) ?_
            refine runs_v (D.bool (decide ((↑so : Int) > (0 : Int)))) (by kernel_rfl) (by kernel_rfl) ?_
            refine runs_v (D.bool ((false == decide ((↑so : Int) > (0 : Int))) != false)) (by kernel_rfl) (by kernel_rfl) ?_
            refine runs_v (D.bool ((false == decide ((↑so : Int) > (0 : Int))) != false)) (by kernel_rfl) (by kernel_rfl) ?_
            refine runs_know 70 (d := .bool ((false == decide ((↑so : Int) > (0 : Int))) != false)) (d' := .bool true) (by kernel_rfl) (congrArg D.bool (show ((false == decide ((↑so : Int) > (0 : Int))) != false) = true from (by simp [ints, eInt, rows, eInts, bools, eBool, trips, eTrip, *]))) ?_
            refine runs_v (D.agg [D.int IntKind.i64 (6 : Int), D.int IntKind.i64 (0 : Int), D.sl ks none]) (by kernel_rfl) (by kernel_rfl) ?_
            refine runs_callQ ([D.agg [D.int IntKind.i64 (6 : Int), D.int IntKind.i64 (0 : Int), D.sl ks none]]) (by kernel_rfl) (by kernel_rfl) (by kernel_rfl) (by kernel_rfl) (e2) (by kernel_rfl) ?_
            refine runs_v (D.sl (bools a) none) (by kernel_rfl) (by kernel_rfl) ?_
            refine runs_ve (D.int IntKind.i64 (↑(List.length (bools a)) : Int)) (.int IntKind.i64 ((↑(List.length a) : Int))) (by simp only [ints, eInt, rows, eInts, bools, eBool, trips, eTrip, List.length_map]) (by kernel_rfl) (by kernel_rfl) ?_
            refine runs_v (D.bool ((↑(List.length a) : Int) == (↑(List.length a) : Int))) (by kernel_rfl) (by kernel_rfl) ?_
            refine runs_v (D.bool ((↑(List.length a) : Int) == (↑(List.length a) : Int))) (by kernel_rfl) (by kernel_rfl) ?_
            refine runs_v (D.bool ((↑(List.length a) : Int) == (↑(List.length a) : Int))) (by kernel_rfl) (by kernel_rfl) ?_
            refine runs_know 77 (d := .bool ((↑(List.length a) : Int) == (↑(List.length a) : Int))) (d' := .bool true) (by kernel_rfl) (congrArg D.bool (show ((↑(List.length a) : Int) == (↑(List.length a) : Int)) = true from (decide_eq_true (by omega)))) ?_
            refine runs_v (D.agg [D.int IntKind.i64 (6 : Int), D.int IntKind.i64 (0 : Int), D.sl ks none]) (by kernel_rfl) (by kernel_rfl) ?_
            refine runs_callQ ([D.agg [D.int IntKind.i64 (6 : Int), D.int IntKind.i64 (0 : Int), D.sl ks none]]) (by kernel_rfl) (by kernel_rfl) (by kernel_rfl) (by kernel_rfl) (e3) (by kernel_rfl) ?_
            refine runs_v (D.bool true) (by kernel_rfl) (by kernel_rfl) ?_
            refine runs_v (D.bool true) (by kernel_rfl) (by kernel_rfl) ?_
            refine runs_v (D.bool true) (by kernel_rfl) (by kernel_rfl) ?_
            refine runs_v (D.agg [D.int IntKind.i64 (3 : Int), D.int IntKind.i64 u, D.sl [] none]) (by kernel_rfl) (by kernel_rfl) ?_
            refine runs_callQ ([D.agg [D.int IntKind.i64 (3 : Int), D.int IntKind.i64 u, D.sl [] none]]) (by kernel_rfl) (by kernel_rfl) (by kernel_rfl) (by kernel_rfl) (e4) (by kernel_rfl) ?_
            refine runs_v (D.bool false) (by kernel_rfl) (by kernel_rfl) ?_
            refine runs_v (D.bool false) (by kernel_rfl) (by kernel_rfl) ?_
            refine runs_v (D.bool true) (by kernel_rfl) (by kernel_rfl) ?_
            refine runs_v (D.bool true) (by kernel_rfl) (by kernel_rfl) ?_
            refine runs_v (D.bool true) (by kernel_rfl) (by kernel_rfl) ?_
            refine runs_v (D.agg [D.int IntKind.i64 (6 : Int), D.int IntKind.i64 (0 : Int), D.sl ks none]) (by kernel_rfl) (by kernel_rfl) ?_
            refine runs_v (D.sl [[D.int IntKind.i64 (6 : Int), D.int IntKind.i64 (0 : Int), D.sl ks none]] (some (24 : Nat))) (by kernel_rfl) (by kernel_rfl) ?_
            refine runs_v (D.agg [D.int IntKind.i64 (4 : Int), D.int IntKind.i64 (0 : Int), D.sl [[D.int IntKind.i64 (6 : Int), D.int IntKind.i64 (0 : Int), D.sl ks none]] none]) (by kernel_rfl) (by kernel_rfl) ?_
            refine runs_v (D.sl (bools a) none) (by kernel_rfl) (by kernel_rfl) ?_
            refine runs_callQ ([D.agg [D.int IntKind.i64 (4 : Int), D.int IntKind.i64 (0 : Int), D.sl [[D.int IntKind.i64 (6 : Int), D.int IntKind.i64 (0 : Int), D.sl ks none]] none], D.sl (bools a) none]) (by kernel_rfl) (by kernel_rfl) (by kernel_rfl) (by kernel_rfl) (e5) (by kernel_rfl) ?_
            refine runs_v (D.agg [D.int IntKind.i64 (6 : Int), D.int IntKind.i64 (0 : Int), D.sl ks none]) (by kernel_rfl) (by kernel_rfl) ?_
            refine runs_v (D.sl (bools a) none) (by kernel_rfl) (by kernel_rfl) ?_
            refine runs_callQ ([D.agg [D.int IntKind.i64 (6 : Int), D.int IntKind.i64 (0 : Int), D.sl ks none], D.sl (bools a) none]) (by kernel_rfl) (by kernel_rfl) (by kernel_rfl) (by kernel_rfl) (e1) (by kernel_rfl) ?_
            refine runs_v (D.bool true) (by kernel_rfl) (by kernel_rfl) ?_
            refine runs_v (D.bool true) (by kernel_rfl) (by kernel_rfl) ?_
            refine runs_assign0 (D.bool true) (by kernel_rfl) (by kernel_rfl) (by kernel_rfl) ?_
            refine k_done ?_
            refine k_skip_seq ?_
            refine k_ret ?_
            exact ⟨.inr rfl, by kernel_rfl, by kernel_rfl⟩
end Go.Abs.A
