/-
  The given program's functions of layer 21 and their values.
-/
import Derived.Test.YtmmjjkahaemlkaaKont
import Derived.Test.YtmmjjkahaemlkaaQ1
set_option linter.unusedVariables false
set_option linter.unusedSimpArgs false
namespace Go.Abs.B
open Go Go.Abs
set_option maxRecDepth 8000
attribute [local irreducible] callN runC evalOp

def f41 (c : List Int) (v i : Int) : Fr := Fr.mk ([.sl (ints c) none, .int .i64 v, .junk, .junk, .int .i64 0, .junk, .junk, .int .i64 c.length, .int .i64 i] ++ List.replicate 10 .junk) (List.replicate 19 none) []
theorem idx_at (v : Int) : ∀ (c : List Int) (i : Nat) (h : i < c.length), v ∉ c.take i → c[i] = v → c.idxOf v = i
  | x :: xs, 0, _, _, h => by
    simp only [List.getElem_cons_zero] at h
    simp [h]
  | x :: xs, i + 1, hl, hn, h => by
    simp only [List.take_succ_cons, List.mem_cons, not_or] at hn
    simp only [List.getElem_cons_succ] at h
    have := idx_at v xs i (by simpa using hl) hn.2 h
    rw [List.idxOf_cons, beq_eq_false_iff_ne.2 (fun e : x = v => hn.1 e.symm), cond_false, this]
def idxR (c : List Int) (v : Int) : Int := if v ∈ c then c.idxOf v else -1
theorem index_ok (n : Nat) (c : List Int) (v : Int) (o : Option Nat) (σ : St) (hn : c.length < n) (hc : c.length < 4611686018427387904) :
    callN T (n + 1) 41 [.sl (ints c) o, .int .i64 v] σ = some (.int .i64 (idxR c v), σ) := by
  refine call_of (m := m41) rfl rfl (by decide) (k_start ?_)
  unfold m41
  refine k_seq ?_
  refine runs_v (D.int IntKind.i64 (0 : Int)) (by kernel_rfl) (by kernel_rfl) ?_
  refine k_done ?_
  refine k_skip_seq ?_
  refine k_seq ?_
  refine k_seq ?_
  refine runs_v (D.sl (ints c) none) (by kernel_rfl) (by kernel_rfl) ?_
  refine runs_ve (D.int IntKind.i64 (↑(List.length (ints c)) : Int)) (.int IntKind.i64 ((↑(List.length c) : Int))) (by simp only [ints, eInt, List.length_map, List.length_append, List.length_cons, List.length_nil]) (by kernel_rfl) (by kernel_rfl) ?_
  refine runs_v (D.int IntKind.i64 (0 : Int)) (by kernel_rfl) (by kernel_rfl) ?_
  refine k_done ?_
  refine k_skip_seq ?_
  refine k_block ?_
  refine k_loop (fun i : Nat => f41 c v i) (fun _ => σ) (fun i => i ≤ c.length ∧ v ∉ c.take i) (fun i => c.length - i) 0 (by kernel_rfl) rfl (by simp) (by omega) ?_
  rintro i ⟨hi, hv⟩
  by_cases hlt : i < c.length
  · by_cases heq : v = c[i]
    · refine k_seq ?_
      refine runs_v (D.bool (decide ((↑i : Int) < (↑(List.length c) : Int)))) (by kernel_rfl) (by kernel_rfl) ?_
      refine k_done ?_
      refine k_skip_seq ?_
      refine k_seq ?_
      refine runs_know 9 (d := .bool (decide ((↑i : Int) < (↑(List.length c) : Int)))) (d' := .bool true) (by kernel_rfl) (congrArg D.bool (show (decide ((↑i : Int) < (↑(List.length c) : Int))) = true from (decide_eq_true (by omega)))) ?_
      refine k_cond_t (by kernel_rfl) ?_
      refine k_skip_seq ?_
      refine k_seq ?_
      refine k_block ?_
      refine k_seq ?_
      refine runs_v (D.int IntKind.i64 (↑i : Int)) (by kernel_rfl) (by kernel_rfl) ?_
      refine runs_assign0 (D.int IntKind.i64 (↑i : Int)) (by kernel_rfl) (by kernel_rfl) (by kernel_rfl) ?_
      refine k_done ?_
      refine k_skip_seq ?_
      refine k_seq ?_
      refine runs_v (D.int IntKind.i64 v) (by kernel_rfl) (by kernel_rfl) ?_
      refine runs_v (D.sl (ints c) none) (by kernel_rfl) (by kernel_rfl) ?_
      refine runs_v (D.int IntKind.i64 (↑i : Int)) (by kernel_rfl) (by kernel_rfl) ?_
      refine runs_index (c) (eInt) (o := none) (kd := IntKind.i64) (i) (by kernel_rfl) (by kernel_rfl) (by kernel_rfl) (by assumption) (by kernel_rfl) ?_
      refine runs_v (D.int IntKind.i64 c[i]) (by kernel_rfl) (by kernel_rfl) ?_
      refine runs_v (D.bool (v == c[i])) (by kernel_rfl) (by kernel_rfl) ?_
      refine k_done ?_
      refine k_skip_seq ?_
      refine runs_know 16 (d := .bool (v == c[i])) (d' := .bool true) (by kernel_rfl) (congrArg D.bool (show (v == c[i]) = true from (decide_eq_true (by assumption)))) ?_
      refine k_cond_t (by kernel_rfl) ?_
      refine k_seq ?_
      refine runs_v (D.int IntKind.i64 (↑i : Int)) (by kernel_rfl) (by kernel_rfl) ?_
      refine runs_assign0 (D.int IntKind.i64 (↑i : Int)) (by kernel_rfl) (by kernel_rfl) (by kernel_rfl) ?_
      refine k_done ?_
      refine k_skip_seq ?_
      refine k_ret ?_
      refine ⟨.inr rfl, rfl, ?_⟩
      have : v ∈ c := by rw [heq]; exact List.getElem_mem hlt
      unfold idxR
      rw [if_pos this, idx_at v c i hlt hv heq.symm]
      show _ = _
      kernel_rfl
    · refine k_seq ?_
      refine runs_v (D.bool (decide ((↑i : Int) < (↑(List.length c) : Int)))) (by kernel_rfl) (by kernel_rfl) ?_
      refine k_done ?_
      refine k_skip_seq ?_
      refine k_seq ?_
      refine runs_know 9 (d := .bool (decide ((↑i : Int) < (↑(List.length c) : Int)))) (d' := .bool true) (by kernel_rfl) (congrArg D.bool (show (decide ((↑i : Int) < (↑(List.length c) : Int))) = true from (decide_eq_true (by omega)))) ?_
      refine k_cond_t (by kernel_rfl) ?_
      refine k_skip_seq ?_
      refine k_seq ?_
      refine k_block ?_
      refine k_seq ?_
      refine runs_v (D.int IntKind.i64 (↑i : Int)) (by kernel_rfl) (by kernel_rfl) ?_
      refine runs_assign0 (D.int IntKind.i64 (↑i : Int)) (by kernel_rfl) (by kernel_rfl) (by kernel_rfl) ?_
      refine k_done ?_
      refine k_skip_seq ?_
      refine k_seq ?_
      refine runs_v (D.int IntKind.i64 v) (by kernel_rfl) (by kernel_rfl) ?_
      refine runs_v (D.sl (ints c) none) (by kernel_rfl) (by kernel_rfl) ?_
      refine runs_v (D.int IntKind.i64 (↑i : Int)) (by kernel_rfl) (by kernel_rfl) ?_
      refine runs_index (c) (eInt) (o := none) (kd := IntKind.i64) (i) (by kernel_rfl) (by kernel_rfl) (by kernel_rfl) (by assumption) (by kernel_rfl) ?_
      refine runs_v (D.int IntKind.i64 c[i]) (by kernel_rfl) (by kernel_rfl) ?_
      refine runs_v (D.bool (v == c[i])) (by kernel_rfl) (by kernel_rfl) ?_
      refine k_done ?_
      refine k_skip_seq ?_
      refine runs_know 16 (d := .bool (v == c[i])) (d' := .bool false) (by kernel_rfl) (congrArg D.bool (show (v == c[i]) = false from (decide_eq_false (by assumption)))) ?_
      refine k_cond_f (by kernel_rfl) ?_
      refine k_skip_block ?_
      refine k_skip_seq ?_
      refine runs_ve (D.int IntKind.i64 (IntKind.wrap IntKind.i64 ((↑i : Int) + (1 : Int)))) (.int IntKind.i64 ((i + 1 : Nat) : Int)) (congrArg (D.int IntKind.i64) (show IntKind.wrap IntKind.i64 ((↑i : Int) + (1 : Int)) = ((i + 1 : Nat) : Int) by rw [IntKind.wrap_i64] <;> omega)) (by kernel_rfl) (by kernel_rfl) ?_
      refine runs_v (D.int IntKind.i64 (↑(i + (1 : Nat)) : Int)) (by kernel_rfl) (by kernel_rfl) ?_
      refine k_done ?_
      refine k_skip_back ?_
      refine ⟨i + 1, ⟨hlt, ?_⟩, by omega, by kernel_rfl, rfl⟩
      rw [List.take_succ_eq_append_getElem hlt]
      simp only [List.mem_append, List.mem_singleton, not_or]
      exact ⟨hv, heq⟩
  · refine k_seq ?_
    refine runs_v (D.bool (decide ((↑i : Int) < (↑(List.length c) : Int)))) (by kernel_rfl) (by kernel_rfl) ?_
    refine k_done ?_
    refine k_skip_seq ?_
    refine k_seq ?_
    refine runs_know 9 (d := .bool (decide ((↑i : Int) < (↑(List.length c) : Int)))) (d' := .bool false) (by kernel_rfl) (congrArg D.bool (show (decide ((↑i : Int) < (↑(List.length c) : Int))) = false from (decide_eq_false (by omega)))) ?_
    refine k_cond_f (by kernel_rfl) ?_
    refine k_exit_seq ?_
    refine k_exit_back ?_
    refine k_exit_hit rfl ?_
    refine k_skip_seq ?_
    refine k_seq ?_
    refine runs_v (D.int IntKind.i64 (-1 : Int)) (by kernel_rfl) (by kernel_rfl) ?_
    refine k_done ?_
    refine k_skip_seq ?_
    refine k_ret ?_
    refine ⟨.inr rfl, rfl, ?_⟩
    have : v ∉ c := by
      rwa [List.take_of_length_le (by omega)] at hv
    unfold idxR
    rw [if_neg this]
    show _ = _
    kernel_rfl
theorem contains_ok (n : Nat) (c : List Int) (v : Int) (o : Option Nat) (σ : St) (hn : c.length < n) (hc : c.length < 4611686018427387904) :
    callN T (n + 2) 32 [.sl (ints c) o, .int .i64 v] σ = some (.bool (decide (v ∈ c)), σ) := by
  have hr : decide (idxR c v ≥ 0) = decide (v ∈ c) := by
    unfold idxR
    by_cases h : v ∈ c
    · rw [if_pos h, decide_eq_true h, decide_eq_true (by omega)]
    · rw [if_neg h, decide_eq_false h, decide_eq_false (by omega)]
  rw [← hr]
  refine call_of (m := m32) rfl rfl (by decide) (k_start ?_)
  unfold m32
  refine k_seq ?_
  refine runs_v (D.bool false) (by kernel_rfl) (by kernel_rfl) ?_
  refine k_done ?_
  refine k_skip_seq ?_
  refine k_seq ?_
  refine runs_v (D.sl (ints c) none) (by kernel_rfl) (by kernel_rfl) ?_
  refine runs_v (D.int IntKind.i64 v) (by kernel_rfl) (by kernel_rfl) ?_
  refine runs_call ([D.sl (ints c) none, D.int IntKind.i64 v]) (by kernel_rfl) (by kernel_rfl) (by kernel_rfl) (by kernel_rfl) (index_ok n _ _ _ _ hn hc) (by kernel_rfl) ?_
  refine runs_v (D.bool (decide (idxR c v ≥ (0 : Int)))) (by kernel_rfl) (by kernel_rfl) ?_
  refine runs_assign0 (D.bool (decide (idxR c v ≥ (0 : Int)))) (by kernel_rfl) (by kernel_rfl) (by kernel_rfl) ?_
  refine k_done ?_
  refine k_skip_seq ?_
  refine k_ret ?_
  refine ⟨.inr rfl, rfl, ?_⟩
  show _ = _
  kernel_rfl

/-- What the map has seen. -/
def seenOf (out : List Int) : List (D × D) := out.map fun v => (.int .i64 v, .bool true)
def st33 (out : List Int) : St := [.map (seenOf out), .cells [.map 0], .cells [.sl (ints out) (some 3)]]
theorem find_hit (v : Int) : ∀ out : List Int, v ∈ out → findKey 0 (.int .i64 v) (seenOf out) = some (some (.bool true))
  | x :: xs, h => by
    show (match (if IntKind.i64 = IntKind.i64 then some (v == x) else none) with | some true => _ | some false => _ | none => _) = _
    rw [if_pos rfl]
    by_cases hx : v = x
    · rw [beq_iff_eq.2 hx]
    · rw [beq_eq_false_iff_ne.2 hx]
      exact find_hit v xs ((List.mem_cons.1 h).resolve_left hx)
theorem find_miss (v : Int) : ∀ out : List Int, v ∉ out → findKey 0 (.int .i64 v) (seenOf out) = some none
  | [], _ => rfl
  | x :: xs, h => by
    show (match (if IntKind.i64 = IntKind.i64 then some (v == x) else none) with | some true => _ | some false => _ | none => _) = _
    have hx : v ≠ x := fun e => h (by simp [e])
    rw [if_pos rfl, beq_eq_false_iff_ne.2 hx]
    exact find_miss v xs (fun e => h (List.mem_cons_of_mem _ e))
theorem put_new (v : Int) : ∀ out : List Int, v ∉ out → putKey 0 (.int .i64 v) (.bool true) (seenOf out) = some (seenOf (out ++ [v]))
  | [], _ => rfl
  | x :: xs, h => by
    show (match (if IntKind.i64 = IntKind.i64 then some (v == x) else none) with | some true => _ | some false => _ | none => _) = _
    have hx : v ≠ x := fun e => h (by simp [e])
    rw [if_pos rfl, beq_eq_false_iff_ne.2 hx]
    show (putKey 0 (.int .i64 v) (.bool true) (seenOf xs)).map _ = _
    rw [put_new v xs (fun e => h (List.mem_cons_of_mem _ e))]
    rfl

def f33 (c : List Int) (w : Int) (i : Int) : Fr := Fr.mk ([.sl (ints c) none, .int .i64 w, .ptr 1 0, .ptr 2 0, .junk, .junk, .junk, .junk, .sl (ints c) none, .int .i64 c.length, .int .i64 i] ++ List.replicate 19 .junk) (List.replicate 30 none) []
theorem put_ok (n : Nat) (c : List Int) (w : Int) (o : Option Nat) (out : List Int) (hn : c.length < n) (hc : out.length + c.length < 4096) :
    callN T (n + 1) 33 [.sl (ints c) o, .int .i64 w, .ptr 1 0, .ptr 2 0] (st33 out) = some (.tup [], st33 (addAll w c out)) := by
  refine call_of (m := m33) rfl rfl (by decide) (k_start ?_)
  unfold m33
  refine k_seq ?_
  refine runs_v (D.sl (ints c) none) (by kernel_rfl) (by kernel_rfl) ?_
  refine runs_ve (D.int IntKind.i64 (↑(List.length (ints c)) : Int)) (.int IntKind.i64 ((↑(List.length c) : Int))) (by simp only [ints, eInt, List.length_map, List.length_append, List.length_cons, List.length_nil]) (by kernel_rfl) (by kernel_rfl) ?_
  refine runs_v (D.int IntKind.i64 (0 : Int)) (by kernel_rfl) (by kernel_rfl) ?_
  refine k_done ?_
  refine k_skip_seq ?_
  refine k_block ?_
  refine k_loop (fun i : Nat => f33 c w i) (fun i => st33 (addAll w (c.take i) out)) (fun i => i ≤ c.length) (fun i => c.length - i) 0 (by kernel_rfl) rfl (by simp) (by omega) ?_
  intro i hi
  have hol : (addAll w (c.take i) out).length ≤ out.length + i := by
    have := addAll_len w (c.take i) out
    simp at this
    omega
  have hr : addAll w (c.take i) out = addAll w (c.take i) out := rfl
  generalize hout : addAll w (c.take i) out = res at hol
  clear hr
  by_cases hlt : i < c.length
  · have htk : addAll w (c.take (i + 1)) out = if c[i] ≠ w ∧ c[i] ∉ res then res ++ [c[i]] else res := by
      rw [List.take_succ_eq_append_getElem hlt, addAll_snoc, hout]
    by_cases hne : c[i] = w
    · refine k_seq ?_
      refine runs_v (D.bool (decide ((↑i : Int) < (↑(List.length c) : Int)))) (by kernel_rfl) (by kernel_rfl) ?_
      refine k_done ?_
      refine k_skip_seq ?_
      refine k_seq ?_
      refine runs_know 11 (d := .bool (decide ((↑i : Int) < (↑(List.length c) : Int)))) (d' := .bool true) (by kernel_rfl) (congrArg D.bool (show (decide ((↑i : Int) < (↑(List.length c) : Int))) = true from (decide_eq_true (by omega)))) ?_
      refine k_cond_t (by kernel_rfl) ?_
      refine k_skip_seq ?_
      refine k_seq ?_
      refine k_block ?_
      refine k_seq ?_
      refine runs_index (c) (eInt) (o := none) (kd := IntKind.i64) (i) (by kernel_rfl) (by kernel_rfl) (by kernel_rfl) (by assumption) (by kernel_rfl) ?_
      refine runs_v (D.int IntKind.i64 c[i]) (by kernel_rfl) (by kernel_rfl) ?_
      refine runs_assign0 (D.int IntKind.i64 c[i]) (by kernel_rfl) (by kernel_rfl) (by kernel_rfl) ?_
      refine k_done ?_
      refine k_skip_seq ?_
      refine k_seq ?_
      refine runs_v (D.int IntKind.i64 c[i]) (by kernel_rfl) (by kernel_rfl) ?_
      refine runs_v (D.int IntKind.i64 w) (by kernel_rfl) (by kernel_rfl) ?_
      refine runs_v (D.bool (c[i] != w)) (by kernel_rfl) (by kernel_rfl) ?_
      refine runs_v (D.bool (c[i] != w)) (by kernel_rfl) (by kernel_rfl) ?_
      refine runs_know 17 (d := .bool (c[i] != w)) (d' := .bool false) (by kernel_rfl) (congrArg D.bool (show (c[i] != w) = false from (bne_eq_false_iff_eq.2 (by assumption)))) ?_
      refine runs_no (by kernel_rfl) ?_
      refine runs_no (by kernel_rfl) ?_
      refine runs_no (by kernel_rfl) ?_
      refine runs_no (by kernel_rfl) ?_
      refine runs_v (D.bool false) (by kernel_rfl) (by kernel_rfl) ?_
      refine k_done ?_
      refine k_skip_seq ?_
      refine k_cond_f (by kernel_rfl) ?_
      refine k_skip_block ?_
      refine k_skip_seq ?_
      refine runs_ve (D.int IntKind.i64 (IntKind.wrap IntKind.i64 ((↑i : Int) + (1 : Int)))) (.int IntKind.i64 ((i + 1 : Nat) : Int)) (congrArg (D.int IntKind.i64) (show IntKind.wrap IntKind.i64 ((↑i : Int) + (1 : Int)) = ((i + 1 : Nat) : Int) by rw [IntKind.wrap_i64] <;> omega)) (by kernel_rfl) (by kernel_rfl) ?_
      refine runs_v (D.int IntKind.i64 (↑(i + (1 : Nat)) : Int)) (by kernel_rfl) (by kernel_rfl) ?_
      refine k_done ?_
      refine k_skip_back ?_
      rw [if_neg (fun h => h.1 hne)] at htk
      exact ⟨i + 1, hlt, by omega, by kernel_rfl, by rw [htk]⟩
    by_cases hin : c[i] ∈ res
    · have hf := find_hit c[i] res hin
      refine k_seq ?_
      refine runs_v (D.bool (decide ((↑i : Int) < (↑(List.length c) : Int)))) (by kernel_rfl) (by kernel_rfl) ?_
      refine k_done ?_
      refine k_skip_seq ?_
      refine k_seq ?_
      refine runs_know 11 (d := .bool (decide ((↑i : Int) < (↑(List.length c) : Int)))) (d' := .bool true) (by kernel_rfl) (congrArg D.bool (show (decide ((↑i : Int) < (↑(List.length c) : Int))) = true from (decide_eq_true (by omega)))) ?_
      refine k_cond_t (by kernel_rfl) ?_
      refine k_skip_seq ?_
      refine k_seq ?_
      refine k_block ?_
      refine k_seq ?_
      refine runs_index (c) (eInt) (o := none) (kd := IntKind.i64) (i) (by kernel_rfl) (by kernel_rfl) (by kernel_rfl) (by assumption) (by kernel_rfl) ?_
      refine runs_v (D.int IntKind.i64 c[i]) (by kernel_rfl) (by kernel_rfl) ?_
      refine runs_assign0 (D.int IntKind.i64 c[i]) (by kernel_rfl) (by kernel_rfl) (by kernel_rfl) ?_
      refine k_done ?_
      refine k_skip_seq ?_
      refine k_seq ?_
      refine runs_v (D.int IntKind.i64 c[i]) (by kernel_rfl) (by kernel_rfl) ?_
      refine runs_v (D.int IntKind.i64 w) (by kernel_rfl) (by kernel_rfl) ?_
      refine runs_v (D.bool (c[i] != w)) (by kernel_rfl) (by kernel_rfl) ?_
      refine runs_v (D.bool (c[i] != w)) (by kernel_rfl) (by kernel_rfl) ?_
      refine runs_know 17 (d := .bool (c[i] != w)) (d' := .bool true) (by kernel_rfl) (congrArg D.bool (show (c[i] != w) = true from (bne_iff_ne.2 (by assumption)))) ?_
      refine runs_v (D.map (0 : Nat)) (by kernel_rfl) (by kernel_rfl) ?_
      refine runs_v (D.int IntKind.i64 c[i]) (by kernel_rfl) (by kernel_rfl) ?_
      refine runs_hit ((0 : Nat)) (seenOf res) (D.int IntKind.i64 c[i]) _ (by kernel_rfl) (by kernel_rfl) (by kernel_rfl) (by kernel_rfl) (by kernel_rfl) (by assumption) ?_
      refine runs_v (D.bool false) (by kernel_rfl) (by kernel_rfl) ?_
      refine runs_v (D.bool false) (by kernel_rfl) (by kernel_rfl) ?_
      refine k_done ?_
      refine k_skip_seq ?_
      refine k_cond_f (by kernel_rfl) ?_
      refine k_skip_block ?_
      refine k_skip_seq ?_
      refine runs_ve (D.int IntKind.i64 (IntKind.wrap IntKind.i64 ((↑i : Int) + (1 : Int)))) (.int IntKind.i64 ((i + 1 : Nat) : Int)) (congrArg (D.int IntKind.i64) (show IntKind.wrap IntKind.i64 ((↑i : Int) + (1 : Int)) = ((i + 1 : Nat) : Int) by rw [IntKind.wrap_i64] <;> omega)) (by kernel_rfl) (by kernel_rfl) ?_
      refine runs_v (D.int IntKind.i64 (↑(i + (1 : Nat)) : Int)) (by kernel_rfl) (by kernel_rfl) ?_
      refine k_done ?_
      refine k_skip_back ?_
      rw [if_neg (fun h => h.2 hin)] at htk
      exact ⟨i + 1, hlt, by omega, by kernel_rfl, by rw [htk]⟩
    · have hf := find_miss c[i] res hin
      have hp := put_new c[i] res hin
      refine k_seq ?_
      refine runs_v (D.bool (decide ((↑i : Int) < (↑(List.length c) : Int)))) (by kernel_rfl) (by kernel_rfl) ?_
      refine k_done ?_
      refine k_skip_seq ?_
      refine k_seq ?_
      refine runs_know 11 (d := .bool (decide ((↑i : Int) < (↑(List.length c) : Int)))) (d' := .bool true) (by kernel_rfl) (congrArg D.bool (show (decide ((↑i : Int) < (↑(List.length c) : Int))) = true from (decide_eq_true (by omega)))) ?_
      refine k_cond_t (by kernel_rfl) ?_
      refine k_skip_seq ?_
      refine k_seq ?_
      refine k_block ?_
      refine k_seq ?_
      refine runs_index (c) (eInt) (o := none) (kd := IntKind.i64) (i) (by kernel_rfl) (by kernel_rfl) (by kernel_rfl) (by assumption) (by kernel_rfl) ?_
      refine runs_v (D.int IntKind.i64 c[i]) (by kernel_rfl) (by kernel_rfl) ?_
      refine runs_assign0 (D.int IntKind.i64 c[i]) (by kernel_rfl) (by kernel_rfl) (by kernel_rfl) ?_
      refine k_done ?_
      refine k_skip_seq ?_
      refine k_seq ?_
      refine runs_v (D.int IntKind.i64 c[i]) (by kernel_rfl) (by kernel_rfl) ?_
      refine runs_v (D.int IntKind.i64 w) (by kernel_rfl) (by kernel_rfl) ?_
      refine runs_v (D.bool (c[i] != w)) (by kernel_rfl) (by kernel_rfl) ?_
      refine runs_v (D.bool (c[i] != w)) (by kernel_rfl) (by kernel_rfl) ?_
      refine runs_know 17 (d := .bool (c[i] != w)) (d' := .bool true) (by kernel_rfl) (congrArg D.bool (show (c[i] != w) = true from (bne_iff_ne.2 (by assumption)))) ?_
      refine runs_v (D.map (0 : Nat)) (by kernel_rfl) (by kernel_rfl) ?_
      refine runs_v (D.int IntKind.i64 c[i]) (by kernel_rfl) (by kernel_rfl) ?_
      refine runs_miss ((0 : Nat)) (seenOf res) (D.int IntKind.i64 c[i]) (by kernel_rfl) (by kernel_rfl) (by kernel_rfl) (by kernel_rfl) (by kernel_rfl) (by assumption) ?_
      refine runs_v (D.bool true) (by kernel_rfl) (by kernel_rfl) ?_
      refine runs_v (D.bool true) (by kernel_rfl) (by kernel_rfl) ?_
      refine k_done ?_
      refine k_skip_seq ?_
      refine k_cond_t (by kernel_rfl) ?_
      refine k_seq ?_
      refine runs_v (D.map (0 : Nat)) (by kernel_rfl) (by kernel_rfl) ?_
      refine runs_v (D.int IntKind.i64 c[i]) (by kernel_rfl) (by kernel_rfl) ?_
      refine runs_update ((0 : Nat)) (seenOf res) _ (D.int IntKind.i64 c[i]) (D.bool true) (by kernel_rfl) (by kernel_rfl) (by kernel_rfl) (by kernel_rfl) (by kernel_rfl) (by kernel_rfl) (by kernel_rfl) (by assumption) ?_
      refine k_done ?_
      refine k_skip_seq ?_
      refine runs_gs (D.sl (ints res) (some (3 : Nat))) ([Obj.map (seenOf (res ++ [c[i]])), Obj.cells [D.map (0 : Nat)], Obj.cells [D.sl (ints res) none]]) (by kernel_rfl) (by kernel_rfl) ?_
      refine runs_v (D.int IntKind.i64 c[i]) (by kernel_rfl) (by kernel_rfl) ?_
      refine runs_v (D.sl [[D.int IntKind.i64 c[i]]] (some (3 : Nat))) (by kernel_rfl) (by kernel_rfl) ?_
      refine runs_append (ints res) ([[D.int IntKind.i64 c[i]]]) (ints (res ++ [c[i]])) (by kernel_rfl) (by kernel_rfl) (by kernel_rfl) (by kernel_rfl) (by simp [ints, room]; omega) (by simp [ints, eInt]) ?_
      refine runs_gf (D.junk) ([Obj.map (seenOf (res ++ [c[i]])), Obj.cells [D.map (0 : Nat)], Obj.cells [D.sl (ints (res ++ [c[i]])) (some (3 : Nat))]]) (by kernel_rfl) (by kernel_rfl) ?_
      refine k_done ?_
      refine k_skip_block ?_
      refine k_skip_seq ?_
      refine runs_ve (D.int IntKind.i64 (IntKind.wrap IntKind.i64 ((↑i : Int) + (1 : Int)))) (.int IntKind.i64 ((i + 1 : Nat) : Int)) (congrArg (D.int IntKind.i64) (show IntKind.wrap IntKind.i64 ((↑i : Int) + (1 : Int)) = ((i + 1 : Nat) : Int) by rw [IntKind.wrap_i64] <;> omega)) (by kernel_rfl) (by kernel_rfl) ?_
      refine runs_v (D.int IntKind.i64 (↑(i + (1 : Nat)) : Int)) (by kernel_rfl) (by kernel_rfl) ?_
      refine k_done ?_
      refine k_skip_back ?_
      rw [if_pos ⟨hne, hin⟩] at htk
      exact ⟨i + 1, hlt, by omega, by kernel_rfl, by rw [htk]; kernel_rfl⟩
  · have hia : i = c.length := by omega
    subst hia
    rw [List.take_length] at hout
    refine k_seq ?_
    refine runs_v (D.bool (decide ((↑(List.length c) : Int) < (↑(List.length c) : Int)))) (by kernel_rfl) (by kernel_rfl) ?_
    refine k_done ?_
    refine k_skip_seq ?_
    refine k_seq ?_
    refine runs_know 11 (d := .bool (decide ((↑(List.length c) : Int) < (↑(List.length c) : Int)))) (d' := .bool false) (by kernel_rfl) (congrArg D.bool (show (decide ((↑(List.length c) : Int) < (↑(List.length c) : Int))) = false from (decide_eq_false (by omega)))) ?_
    refine k_cond_f (by kernel_rfl) ?_
    refine k_exit_seq ?_
    refine k_exit_back ?_
    refine k_exit_hit rfl ?_
    refine k_skip_nil ?_
    refine ⟨.inl rfl, rfl, ?_⟩
    rw [hout]
    show _ = _
    kernel_rfl
end Go.Abs.B
