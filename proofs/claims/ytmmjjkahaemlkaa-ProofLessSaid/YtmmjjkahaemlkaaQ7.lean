import Derived.Test.YtmmjjkahaemlkaaKont
import Derived.Test.YtmmjjkahaemlkaaQ5
set_option linter.unusedVariables false
set_option linter.unusedSimpArgs false
/-
  Check of both, and the statement ProofChecks as the machine code sees it.
-/
namespace Go.Abs.B
open Go Go.Abs
set_option maxRecDepth 8000
attribute [local irreducible] callN runC evalOp

theorem idx_at' {α : Type} [BEq α] [LawfulBEq α] (v : α) : ∀ (c : List α) (i : Nat) (h : i < c.length), v ∉ c.take i → c[i] = v → c.idxOf v = i
  | x :: xs, 0, _, _, h => by
    simp only [List.getElem_cons_zero] at h
    simp [h]
  | x :: xs, i + 1, hl, hn, h => by
    simp only [List.take_succ_cons, List.mem_cons, not_or] at hn
    simp only [List.getElem_cons_succ] at h
    have := idx_at' v xs i (by simpa using hl) hn.2 h
    rw [List.idxOf_cons, beq_eq_false_iff_ne.2 (fun e : x = v => hn.1 e.symm), cond_false, this]
theorem not_take_succ {α : Type} {v : α} {c : List α} {i : Nat} (h : i < c.length) (hn : v ∉ c.take i) (hx : c[i] ≠ v) : v ∉ c.take (i + 1) := by
  rw [List.take_succ_eq_append_getElem h]
  simp only [List.mem_append, List.mem_singleton, not_or]
  exact ⟨hn, fun e => hx e.symm⟩

theorem empty_ok (n : Nat) (c : List Int) (o : Option Nat) (σ : St) : callN T (n + 1) 30 [.sl (ints c) o] σ = some (.bool ((c.length : Int) == 0), σ) := by
  refine call_of (m := m30) rfl rfl (by decide) (k_start ?_)
  unfold m30
  refine k_seq ?_
  refine rv (D.bool false) ?_
  refine k_done (k_skip_seq (k_seq ?_))
  refine rv (D.sl (ints c) none) ?_
  refine rve (D.int IntKind.i64 (↑(List.length (ints c)) : Int)) (.int IntKind.i64 ((↑(List.length c) : Int))) (by simp only [ints, eInt, rows, eInts, bools, eBool, trips, eTrip, List.length_map]) ?_
  refine rv (D.bool ((↑(List.length c) : Int) == (0 : Int))) ?_
  refine ra0 (D.bool ((↑(List.length c) : Int) == (0 : Int))) ?_
  refine k_done (k_skip_seq (k_ret ?_))
  exact ⟨.inr rfl, by kernel_rfl, by kernel_rfl⟩

def f40 (l : List (List Int)) (i : Int) : Fr := Fr.mk ([.sl (rows l) none, .func 30 [], .junk, .junk, .int .i64 0, .junk, .junk, .int .i64 l.length, .int .i64 i] ++ List.replicate 10 .junk) (List.replicate 19 none) []
def idxE (l : List (List Int)) : Int := if [] ∈ l then l.idxOf [] else -1
theorem indexE_ok (n : Nat) (l : List (List Int)) (o : Option Nat) (σ : St) (hn : l.length < n) (hc : l.length < 4611686018427387904) :
    callN T (n + 2) 40 [.sl (rows l) o, .func 30 []] σ = some (.int .i64 (idxE l), σ) := by
  refine call_of (m := m40) rfl rfl (by decide) (k_start ?_)
  unfold m40
  refine k_seq ?_
  refine rv (D.int IntKind.i64 (0 : Int)) ?_
  refine k_done (k_skip_seq (k_seq (k_seq ?_)))
  refine rv (D.sl (rows l) none) ?_
  refine rve (D.int IntKind.i64 (↑(List.length (rows l)) : Int)) (.int IntKind.i64 ((↑(List.length l) : Int))) (by simp only [ints, eInt, rows, eInts, bools, eBool, trips, eTrip, List.length_map]) ?_
  refine rv (D.int IntKind.i64 (0 : Int)) ?_
  refine k_done (k_skip_seq (k_block ?_))
  refine k_loop (fun i : Nat => f40 l i) (fun _ => σ) (fun i => i ≤ l.length ∧ [] ∉ l.take i) (fun i => l.length - i) 0 (by kernel_rfl) rfl (by simp) (by omega) ?_
  rintro i ⟨hi, hv⟩
  by_cases hlt : i < l.length
  · by_cases heq : l[i].length = 0
    · refine k_seq ?_
      refine rv (D.bool (decide ((↑i : Int) < (↑(List.length l) : Int)))) ?_
      refine k_done (k_skip_seq (k_seq ?_))
      refine rkn 9 (decide ((↑i : Int) < (↑(List.length l) : Int))) true (decide_eq_true (by omega)) ?_
      refine kct (k_skip_seq (k_seq (k_block (k_seq ?_))))
      refine rv (D.int IntKind.i64 (↑i : Int)) ?_
      refine ra0 (D.int IntKind.i64 (↑i : Int)) ?_
      refine k_done (k_skip_seq (k_seq ?_))
      refine rv (D.func (30 : Nat) []) ?_
      refine rv (D.sl (rows l) none) ?_
      refine rv (D.int IntKind.i64 (↑i : Int)) ?_
      refine runs_index (l) (eInts) (o := none) (kd := IntKind.i64) (i) (by kernel_rfl) (by kernel_rfl) (by kernel_rfl) (by assumption) (by kernel_rfl) ?_
      refine rv (D.sl (ints l[i]) none) ?_
      refine runs_callv ((30 : Nat)) ([]) ([D.sl (ints l[i]) none]) ([D.sl (ints l[i]) none]) (by kernel_rfl) (by kernel_rfl) (by kernel_rfl) (by kernel_rfl) (by kernel_rfl) (by kernel_rfl) (empty_ok _ _ _ _) (by kernel_rfl) ?_
      refine k_done (k_skip_seq ?_)
      refine rkn 16 ((↑(List.length l[i]) : Int) == (0 : Int)) true (decide_eq_true (by omega)) ?_
      refine kct (k_seq ?_)
      refine rv (D.int IntKind.i64 (↑i : Int)) ?_
      refine ra0 (D.int IntKind.i64 (↑i : Int)) ?_
      refine k_done (k_skip_seq (k_ret ?_))
      refine ⟨.inr rfl, by kernel_rfl, ?_⟩
      have he : l[i] = [] := List.length_eq_zero_iff.1 heq
      have : [] ∈ l := by rw [← he]; exact List.getElem_mem hlt
      unfold idxE
      rw [if_pos this, idx_at' [] l i hlt hv he]
      show _ = _
      kernel_rfl
    · refine k_seq ?_
      refine rv (D.bool (decide ((↑i : Int) < (↑(List.length l) : Int)))) ?_
      refine k_done (k_skip_seq (k_seq ?_))
      refine rkn 9 (decide ((↑i : Int) < (↑(List.length l) : Int))) true (decide_eq_true (by omega)) ?_
      refine kct (k_skip_seq (k_seq (k_block (k_seq ?_))))
      refine rv (D.int IntKind.i64 (↑i : Int)) ?_
      refine ra0 (D.int IntKind.i64 (↑i : Int)) ?_
      refine k_done (k_skip_seq (k_seq ?_))
      refine rv (D.func (30 : Nat) []) ?_
      refine rv (D.sl (rows l) none) ?_
      refine rv (D.int IntKind.i64 (↑i : Int)) ?_
      refine runs_index (l) (eInts) (o := none) (kd := IntKind.i64) (i) (by kernel_rfl) (by kernel_rfl) (by kernel_rfl) (by assumption) (by kernel_rfl) ?_
      refine rv (D.sl (ints l[i]) none) ?_
      refine runs_callv ((30 : Nat)) ([]) ([D.sl (ints l[i]) none]) ([D.sl (ints l[i]) none]) (by kernel_rfl) (by kernel_rfl) (by kernel_rfl) (by kernel_rfl) (by kernel_rfl) (by kernel_rfl) (empty_ok _ _ _ _) (by kernel_rfl) ?_
      refine k_done (k_skip_seq ?_)
      refine rkn 16 ((↑(List.length l[i]) : Int) == (0 : Int)) false (decide_eq_false (by omega)) ?_
      refine kcf (k_skip_block (k_skip_seq ?_))
      refine rve (D.int IntKind.i64 (IntKind.wrap IntKind.i64 ((↑i : Int) + (1 : Int)))) (.int IntKind.i64 ((i + 1 : Nat) : Int)) (congrArg (D.int IntKind.i64) (show IntKind.wrap IntKind.i64 ((↑i : Int) + (1 : Int)) = ((i + 1 : Nat) : Int) by rw [IntKind.wrap_i64] <;> omega)) ?_
      refine rv (D.int IntKind.i64 (↑(i + (1 : Nat)) : Int)) ?_
      refine k_done (k_skip_back ?_)
      exact ⟨i + 1, ⟨hlt, not_take_succ hlt hv (fun e => heq (by rw [e]; rfl))⟩, by omega, by kernel_rfl, rfl⟩
  · refine k_seq ?_
    refine rv (D.bool (decide ((↑i : Int) < (↑(List.length l) : Int)))) ?_
    refine k_done (k_skip_seq (k_seq ?_))
    refine rkn 9 (decide ((↑i : Int) < (↑(List.length l) : Int))) false (decide_eq_false (by omega)) ?_
    refine kcf (k_exit_seq (k_exit_back (k_exit_hit rfl (k_skip_seq (k_seq ?_)))))
    refine rv (D.int IntKind.i64 (-1 : Int)) ?_
    refine k_done (k_skip_seq (k_ret ?_))
    refine ⟨.inr rfl, by kernel_rfl, ?_⟩
    have : [] ∉ l := by
      rwa [List.take_of_length_le (by omega)] at hv
    unfold idxE
    rw [if_neg this]
    show _ = _
    kernel_rfl
theorem containsE_ok (n : Nat) (l : List (List Int)) (o : Option Nat) (σ : St) (hn : l.length < n) (hc : l.length < 4611686018427387904) :
    callN T (n + 3) 29 [.sl (rows l) o, .func 30 []] σ = some (.bool (decide ([] ∈ l)), σ) := by
  have hr : decide (idxE l ≥ 0) = decide ([] ∈ l) := by
    unfold idxE
    by_cases h : [] ∈ l
    · rw [if_pos h, decide_eq_true h, decide_eq_true (by omega)]
    · rw [if_neg h, decide_eq_false h, decide_eq_false (by omega)]
  rw [← hr]
  refine call_of (m := m29) rfl rfl (by decide) (k_start ?_)
  unfold m29
  refine k_seq ?_
  refine rv (D.bool false) ?_
  refine k_done (k_skip_seq (k_seq ?_))
  refine rv (D.sl (rows l) none) ?_
  refine rv (D.func (30 : Nat) []) ?_
  refine runs_call ([D.sl (rows l) none, D.func (30 : Nat) []]) (by kernel_rfl) (by kernel_rfl) (by kernel_rfl) (by kernel_rfl) (indexE_ok n _ _ _ hn hc) (by kernel_rfl) ?_
  refine rv (D.bool (decide (idxE l ≥ (0 : Int)))) ?_
  refine ra0 (D.bool (decide (idxE l ≥ (0 : Int)))) ?_
  refine k_done (k_skip_seq (k_ret ?_))
  exact ⟨.inr rfl, by kernel_rfl, by kernel_rfl⟩

/-- Whether the steps are a proof. -/
def checkR (l : List (List Int)) (st : List Step3) : Int := if (allR l st).2 = 0 then (if [] ∈ (allR l st).1 then 0 else 50) else (allR l st).2
theorem allF_len : ∀ (st : List Step3) (l out : List (List Int)), allF l st = some out → out.length = l.length + st.length
  | [], l, out, h => by
    simp only [allF, Option.some.injEq] at h
    subst h
    rfl
  | s :: st, l, out, h => by
    simp only [allF] at h
    split at h
    · have := allF_len st _ _ h
      simp only [List.length_append, List.length_cons, List.length_nil] at this ⊢
      omega
    · cases h
theorem allR_len {l : List (List Int)} {st : List Step3} : (allR l st).1.length ≤ l.length + st.length := by
  unfold allR
  split
  · rename_i out h
    rw [allF_len _ _ _ h]
    exact Nat.le_refl _
  · simp
theorem allR_err (l : List (List Int)) (st : List Step3) : (allR l st).2 = 0 ∨ (allR l st).2 = 50 := by
  unfold allR
  split
  · exact .inl rfl
  · exact .inr rfl

theorem progCheck_ok (n : Nat) (l : List (List Int)) (st : List Step3) (o1 o2 : Option Nat) (σ : St) (hn : 2000 < n) (h1 : l.length ≤ 60) (h2 : ∀ c ∈ l, c.length ≤ 12) (h3 : st.length ≤ 30) :
    callN T (n + 5) 17 [.sl (rows l) o1, .sl (trips st) o2] σ = some (.int .i64 (checkR l st), σ) := by
  have hall := progAll_ok n l st none none [] hn h1 h2 h3
  have hlen := allR_len (l := l) (st := st)
  have herr := allR_err l st
  unfold checkR
  refine call_of (m := m17) rfl rfl (by decide) (k_start ?_)
  unfold m17
  generalize (allR l st).1 = out at *
  generalize (allR l st).2 = e at *
  by_cases h : e = 0
  · rw [if_pos h]
    by_cases hm : [] ∈ out
    · rw [if_pos hm]
      refine k_seq ?_
      refine rv (D.int IntKind.i64 (0 : Int)) ?_
      refine k_done (k_skip_seq (k_seq ?_))
      refine rv (D.sl (rows l) none) ?_
      refine rv (D.sl (trips st) none) ?_
      refine runs_call ([D.sl (rows l) none, D.sl (trips st) none]) (by kernel_rfl) (by kernel_rfl) (by kernel_rfl) (by kernel_rfl) (hall) (by kernel_rfl) ?_
      refine rv (D.tup [D.sl (rows out) none, D.int IntKind.i64 e]) ?_
      refine rv (D.sl (rows out) none) ?_
      refine rv (D.int IntKind.i64 e) ?_
      refine ra0 (D.sl (rows out) none) ?_
      refine ra0 (D.int IntKind.i64 e) ?_
      refine k_done (k_skip_seq (k_seq (k_seq ?_)))
      refine rv (D.int IntKind.i64 e) ?_
      refine rv (D.bool (e == (0 : Int))) ?_
      refine rv (D.bool (e == (0 : Int))) ?_
      refine rkn 15 (e == (0 : Int)) true (decide_eq_true (by assumption)) ?_
      refine rv (D.sl (rows out) none) ?_
      refine runs_call ([D.sl (rows out) none, D.func (30 : Nat) []]) (by kernel_rfl) (by kernel_rfl) (by kernel_rfl) (by kernel_rfl) (containsE_ok (n + 1) _ _ _ (by omega) (by omega)) (by kernel_rfl) ?_
      refine rv (D.bool !decide ([] ∈ out)) ?_
      refine rv (D.bool !decide ([] ∈ out)) ?_
      refine k_done (k_skip_seq ?_)
      refine rkn 19 (!decide ([] ∈ out)) false (by simp only [*, decide_true, decide_false, not_false_eq_true, Bool.not_true, Bool.not_false]) ?_
      refine kcf (k_skip_seq (k_seq ?_))
      refine rv (D.int IntKind.i64 e) ?_
      refine ra0 (D.int IntKind.i64 e) ?_
      refine k_done (k_skip_seq (k_ret ?_))
      subst h
      exact ⟨.inr rfl, by kernel_rfl, by kernel_rfl⟩
    · rw [if_neg hm]
      refine k_seq ?_
      refine rv (D.int IntKind.i64 (0 : Int)) ?_
      refine k_done (k_skip_seq (k_seq ?_))
      refine rv (D.sl (rows l) none) ?_
      refine rv (D.sl (trips st) none) ?_
      refine runs_call ([D.sl (rows l) none, D.sl (trips st) none]) (by kernel_rfl) (by kernel_rfl) (by kernel_rfl) (by kernel_rfl) (hall) (by kernel_rfl) ?_
      refine rv (D.tup [D.sl (rows out) none, D.int IntKind.i64 e]) ?_
      refine rv (D.sl (rows out) none) ?_
      refine rv (D.int IntKind.i64 e) ?_
      refine ra0 (D.sl (rows out) none) ?_
      refine ra0 (D.int IntKind.i64 e) ?_
      refine k_done (k_skip_seq (k_seq (k_seq ?_)))
      refine rv (D.int IntKind.i64 e) ?_
      refine rv (D.bool (e == (0 : Int))) ?_
      refine rv (D.bool (e == (0 : Int))) ?_
      refine rkn 15 (e == (0 : Int)) true (decide_eq_true (by assumption)) ?_
      refine rv (D.sl (rows out) none) ?_
      refine runs_call ([D.sl (rows out) none, D.func (30 : Nat) []]) (by kernel_rfl) (by kernel_rfl) (by kernel_rfl) (by kernel_rfl) (containsE_ok (n + 1) _ _ _ (by omega) (by omega)) (by kernel_rfl) ?_
      refine rv (D.bool !decide ([] ∈ out)) ?_
      refine rv (D.bool !decide ([] ∈ out)) ?_
      refine k_done (k_skip_seq ?_)
      refine rkn 19 (!decide ([] ∈ out)) true (by simp only [*, decide_true, decide_false, not_false_eq_true, Bool.not_true, Bool.not_false]) ?_
      refine kct ?_
      refine rv (D.int IntKind.i64 (50 : Int)) ?_
      refine k_done (k_skip_seq (k_seq ?_))
      refine rv (D.int IntKind.i64 (50 : Int)) ?_
      refine ra0 (D.int IntKind.i64 (50 : Int)) ?_
      refine k_done (k_skip_seq (k_ret ?_))
      exact ⟨.inr rfl, by kernel_rfl, by kernel_rfl⟩
  · rw [if_neg h]
    refine k_seq ?_
    refine rv (D.int IntKind.i64 (0 : Int)) ?_
    refine k_done (k_skip_seq (k_seq ?_))
    refine rv (D.sl (rows l) none) ?_
    refine rv (D.sl (trips st) none) ?_
    refine runs_call ([D.sl (rows l) none, D.sl (trips st) none]) (by kernel_rfl) (by kernel_rfl) (by kernel_rfl) (by kernel_rfl) (hall) (by kernel_rfl) ?_
    refine rv (D.tup [D.sl (rows out) none, D.int IntKind.i64 e]) ?_
    refine rv (D.sl (rows out) none) ?_
    refine rv (D.int IntKind.i64 e) ?_
    refine ra0 (D.sl (rows out) none) ?_
    refine ra0 (D.int IntKind.i64 e) ?_
    refine k_done (k_skip_seq (k_seq (k_seq ?_)))
    refine rv (D.int IntKind.i64 e) ?_
    refine rv (D.bool (e == (0 : Int))) ?_
    refine rv (D.bool (e == (0 : Int))) ?_
    refine rkn 15 (e == (0 : Int)) false (decide_eq_false (by assumption)) ?_
    refine rno (rno (rno ?_))
    refine rv (D.bool false) ?_
    refine k_done (k_skip_seq (kcf (k_skip_seq (k_seq ?_))))
    refine rv (D.int IntKind.i64 e) ?_
    refine ra0 (D.int IntKind.i64 e) ?_
    refine k_done (k_skip_seq (k_ret ?_))
    exact ⟨.inr rfl, by kernel_rfl, by kernel_rfl⟩

def f18 (l : List (List Int)) (st : List Step3) (out : List (List Int)) (i : Int) : Fr := Fr.mk ([.sl (rows l) none, .sl (trips st) none, .junk, .junk, .int .i64 0, .sl (rows out) none, .junk, .int .i64 i] ++ List.replicate 21 .junk) (List.replicate 29 none) []
theorem refCheck_ok (n : Nat) (l : List (List Int)) (st : List Step3) (o1 o2 : Option Nat) (σ : St) (hn : 2000 < n) (h1 : l.length ≤ 60) (h2 : ∀ c ∈ l, c.length ≤ 12) (h3 : st.length ≤ 30) :
    callN T (n + 4) 18 [.sl (rows l) o1, .sl (trips st) o2] σ = some (.int .i64 (checkR l st), σ) := by
  have hall := refAll_ok n l st none none [] hn h1 h2 h3
  have hlen := allR_len (l := l) (st := st)
  have herr := allR_err l st
  unfold checkR
  refine call_of (m := m18) rfl rfl (by decide) (k_start ?_)
  unfold m18
  generalize (allR l st).1 = out at *
  generalize (allR l st).2 = e at *
  by_cases h : e = 0
  · rw [if_pos h]
    refine k_seq ?_
    refine rv (D.int IntKind.i64 (0 : Int)) ?_
    refine k_done (k_skip_seq (k_seq ?_))
    refine rv (D.sl (rows l) none) ?_
    refine rv (D.sl (trips st) none) ?_
    refine runs_call ([D.sl (rows l) none, D.sl (trips st) none]) (by kernel_rfl) (by kernel_rfl) (by kernel_rfl) (by kernel_rfl) (hall) (by kernel_rfl) ?_
    refine rv (D.tup [D.sl (rows out) none, D.int IntKind.i64 e]) ?_
    refine rv (D.sl (rows out) none) ?_
    refine rv (D.int IntKind.i64 e) ?_
    refine ra0 (D.sl (rows out) none) ?_
    refine ra0 (D.int IntKind.i64 e) ?_
    refine k_done (k_skip_seq (k_seq (k_seq ?_)))
    refine rv (D.int IntKind.i64 e) ?_
    refine rv (D.bool (e != (0 : Int))) ?_
    refine k_done (k_skip_seq ?_)
    refine rkn 15 (e != (0 : Int)) false (bne_eq_false_iff_eq.2 (by assumption)) ?_
    refine kcf (k_skip_seq (k_seq (k_seq ?_)))
    refine rv (D.int IntKind.i64 (0 : Int)) ?_
    refine k_done (k_skip_seq (k_block ?_))
    refine k_loop (fun i : Nat => f18 l st out i) (fun _ => σ) (fun i => i ≤ out.length ∧ [] ∉ out.take i) (fun i => out.length - i) 0 (by kernel_rfl) rfl (by simp) (by omega) ?_
    rintro i ⟨hi, hv⟩
    by_cases hlt : i < out.length
    · by_cases heq : out[i].length = 0
      · have he : out[i] = [] := List.length_eq_zero_iff.1 heq
        have : [] ∈ out := by rw [← he]; exact List.getElem_mem hlt
        rw [if_pos this]
        refine k_seq (k_seq ?_)
        refine rv (D.int IntKind.i64 (↑i : Int)) ?_
        refine rv (D.sl (rows out) none) ?_
        refine rve (D.int IntKind.i64 (↑(List.length (rows out)) : Int)) (.int IntKind.i64 ((↑(List.length out) : Int))) (by simp only [ints, eInt, rows, eInts, bools, eBool, trips, eTrip, List.length_map]) ?_
        refine rv (D.bool (decide ((↑i : Int) < (↑(List.length out) : Int)))) ?_
        refine k_done (k_skip_seq ?_)
        refine rkn 20 (decide ((↑i : Int) < (↑(List.length out) : Int))) true (decide_eq_true (by omega)) ?_
        refine kct (k_skip_seq (k_seq (k_block (k_seq ?_))))
        refine rv (D.sl (rows out) none) ?_
        refine rv (D.int IntKind.i64 (↑i : Int)) ?_
        refine runs_index (out) (eInts) (o := none) (kd := IntKind.i64) (i) (by kernel_rfl) (by kernel_rfl) (by kernel_rfl) (by assumption) (by kernel_rfl) ?_
        refine rv (D.sl (ints out[i]) none) ?_
        refine rve (D.int IntKind.i64 (↑(List.length (ints out[i])) : Int)) (.int IntKind.i64 ((↑(List.length out[i]) : Int))) (by simp only [ints, eInt, rows, eInts, bools, eBool, trips, eTrip, List.length_map]) ?_
        refine rv (D.bool ((↑(List.length out[i]) : Int) == (0 : Int))) ?_
        refine k_done (k_skip_seq ?_)
        refine rkn 28 ((↑(List.length out[i]) : Int) == (0 : Int)) true (decide_eq_true (by omega)) ?_
        refine kct (k_seq ?_)
        refine rv (D.int IntKind.i64 (0 : Int)) ?_
        refine k_done (k_skip_seq (k_ret ?_))
        exact ⟨.inr rfl, by kernel_rfl, by kernel_rfl⟩
      · refine k_seq (k_seq ?_)
        refine rv (D.int IntKind.i64 (↑i : Int)) ?_
        refine rv (D.sl (rows out) none) ?_
        refine rve (D.int IntKind.i64 (↑(List.length (rows out)) : Int)) (.int IntKind.i64 ((↑(List.length out) : Int))) (by simp only [ints, eInt, rows, eInts, bools, eBool, trips, eTrip, List.length_map]) ?_
        refine rv (D.bool (decide ((↑i : Int) < (↑(List.length out) : Int)))) ?_
        refine k_done (k_skip_seq ?_)
        refine rkn 20 (decide ((↑i : Int) < (↑(List.length out) : Int))) true (decide_eq_true (by omega)) ?_
        refine kct (k_skip_seq (k_seq (k_block (k_seq ?_))))
        refine rv (D.sl (rows out) none) ?_
        refine rv (D.int IntKind.i64 (↑i : Int)) ?_
        refine runs_index (out) (eInts) (o := none) (kd := IntKind.i64) (i) (by kernel_rfl) (by kernel_rfl) (by kernel_rfl) (by assumption) (by kernel_rfl) ?_
        refine rv (D.sl (ints out[i]) none) ?_
        refine rve (D.int IntKind.i64 (↑(List.length (ints out[i])) : Int)) (.int IntKind.i64 ((↑(List.length out[i]) : Int))) (by simp only [ints, eInt, rows, eInts, bools, eBool, trips, eTrip, List.length_map]) ?_
        refine rv (D.bool ((↑(List.length out[i]) : Int) == (0 : Int))) ?_
        refine k_done (k_skip_seq ?_)
        refine rkn 28 ((↑(List.length out[i]) : Int) == (0 : Int)) false (decide_eq_false (by omega)) ?_
        refine kcf (k_skip_block (k_skip_seq ?_))
        refine rv (D.int IntKind.i64 (↑i : Int)) ?_
        refine rve (D.int IntKind.i64 (IntKind.wrap IntKind.i64 ((↑i : Int) + (1 : Int)))) (.int IntKind.i64 ((i + 1 : Nat) : Int)) (congrArg (D.int IntKind.i64) (show IntKind.wrap IntKind.i64 ((↑i : Int) + (1 : Int)) = ((i + 1 : Nat) : Int) by rw [IntKind.wrap_i64] <;> omega)) ?_
        refine ra0 (D.int IntKind.i64 (↑(i + (1 : Nat)) : Int)) ?_
        refine k_done (k_skip_back ?_)
        exact ⟨i + 1, ⟨hlt, not_take_succ hlt hv (fun e => heq (by rw [e]; rfl))⟩, by omega, by kernel_rfl, rfl⟩
    · have : [] ∉ out := by
        rwa [List.take_of_length_le (by omega)] at hv
      rw [if_neg this]
      refine k_seq (k_seq ?_)
      refine rv (D.int IntKind.i64 (↑i : Int)) ?_
      refine rv (D.sl (rows out) none) ?_
      refine rve (D.int IntKind.i64 (↑(List.length (rows out)) : Int)) (.int IntKind.i64 ((↑(List.length out) : Int))) (by simp only [ints, eInt, rows, eInts, bools, eBool, trips, eTrip, List.length_map]) ?_
      refine rv (D.bool (decide ((↑i : Int) < (↑(List.length out) : Int)))) ?_
      refine k_done (k_skip_seq ?_)
      refine rkn 20 (decide ((↑i : Int) < (↑(List.length out) : Int))) false (decide_eq_false (by omega)) ?_
      refine kcf (k_exit_seq (k_exit_back (k_exit_hit rfl (k_skip_seq (k_seq ?_)))))
      refine rv (D.int IntKind.i64 (50 : Int)) ?_
      refine k_done (k_skip_seq (k_ret ?_))
      exact ⟨.inr rfl, by kernel_rfl, by kernel_rfl⟩
  · rw [if_neg h]
    refine k_seq ?_
    refine rv (D.int IntKind.i64 (0 : Int)) ?_
    refine k_done (k_skip_seq (k_seq ?_))
    refine rv (D.sl (rows l) none) ?_
    refine rv (D.sl (trips st) none) ?_
    refine runs_call ([D.sl (rows l) none, D.sl (trips st) none]) (by kernel_rfl) (by kernel_rfl) (by kernel_rfl) (by kernel_rfl) (hall) (by kernel_rfl) ?_
    refine rv (D.tup [D.sl (rows out) none, D.int IntKind.i64 e]) ?_
    refine rv (D.sl (rows out) none) ?_
    refine rv (D.int IntKind.i64 e) ?_
    refine ra0 (D.sl (rows out) none) ?_
    refine ra0 (D.int IntKind.i64 e) ?_
    refine k_done (k_skip_seq (k_seq (k_seq ?_)))
    refine rv (D.int IntKind.i64 e) ?_
    refine rv (D.bool (e != (0 : Int))) ?_
    refine k_done (k_skip_seq ?_)
    refine rkn 15 (e != (0 : Int)) true (bne_iff_ne.2 (by assumption)) ?_
    refine kct (k_seq ?_)
    refine rv (D.int IntKind.i64 e) ?_
    refine ra0 (D.int IntKind.i64 e) ?_
    refine k_done (k_skip_seq (k_ret ?_))
    exact ⟨.inr rfl, by kernel_rfl, by kernel_rfl⟩
end Go.Abs.B
