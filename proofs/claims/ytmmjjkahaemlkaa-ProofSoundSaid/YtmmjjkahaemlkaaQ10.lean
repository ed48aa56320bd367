/-
  The statement ProofSound as the machine code sees it.
-/
import Derived.Test.YtmmjjkahaemlkaaKont
import Derived.Test.YtmmjjkahaemlkaaQ9
set_option linter.unusedVariables false
set_option linter.unusedSimpArgs false
namespace Go.Abs.B
open Go Go.Abs
set_option maxRecDepth 8000
attribute [local irreducible] callN runC evalOp

theorem ok0_of {l : List (List Int)} {st : List Step3} (h : (allR l st).2 = 0) : allF l st = some (allR l st).1 := by
  unfold allR at h ⊢
  split at h
  · rename_i out ho
    rw [ho]
  · cases h
theorem check_50 {l : List (List Int)} {st : List Step3} {t : List Bool} (he : (allR l st).2 = 0) (hm : metB (allR l st).1 t = true) : checkR l st = 50 := by
  unfold checkR
  rw [if_pos he, if_neg]
  intro h
  have := List.all_eq_true.1 hm [] h
  cases this

def f4 (l : List (List Int)) (st : List Step3) (t : List Bool) (all : List (List Int)) (m : Bool) (i k : D) : Fr := Fr.mk ([.sl (rows l) none, .sl (trips st) none, .sl (bools t) none, .junk, .junk, .junk, .bool false, .junk, .junk, .bool m, .sl (rows all) none, .junk, i, k] ++ List.replicate 74 .junk) (List.replicate 88 none) []
theorem lawSound_ok (l : List (List Int)) (st : List Step3) (t : List Bool) (o1 o2 o3 : Option Nat) (ht : t.length ≤ 9223372036854775807) :
    ∃ σ, callN T 3001 4 [.sl (rows l) o1, .sl (trips st) o2, .sl (bools t) o3] [] = some (.bool true, σ) := by
  refine ⟨[], ?_⟩
  refine call_of (m := m4) rfl rfl (by decide) (k_start ?_)
  unfold m4
  have htd := tidy_ok 2999 l none [] (by omega)
  by_cases h1 : tidyB l = true
  · rw [h1] at htd
    by_cases h2 : st.length > 30
    · refine k_seq ?_
      refine runs_v (D.bool false) (by kernel_rfl) (by kernel_rfl) ?_
      refine k_done ?_
      refine k_skip_seq ?_
      refine k_seq ?_
      refine runs_call ([]) (by kernel_rfl) (by kernel_rfl) (by kernel_rfl) (by kernel_rfl) (awakeC_ok) (by kernel_rfl) ?_
      refine runs_assign0 (D.bool true) (by kernel_rfl) (by kernel_rfl) (by kernel_rfl) ?_
      refine k_done ?_
      refine k_skip_seq ?_
      refine k_seq ?_
      refine k_seq ?_
      refine runs_v (D.bool true) (by kernel_rfl) (by kernel_rfl) ?_
      refine runs_v (D.bool false) (by kernel_rfl) (by kernel_rfl) ?_
      refine k_done ?_
      refine k_skip_seq ?_
      refine k_cond_f (by kernel_rfl) ?_
      refine k_skip_seq ?_
      refine k_seq ?_
      refine runs_v (D.sl (rows l) none) (by kernel_rfl) (by kernel_rfl) ?_
      refine runs_call ([D.sl (rows l) none]) (by kernel_rfl) (by kernel_rfl) (by kernel_rfl) (by kernel_rfl) (htd) (by kernel_rfl) ?_
      refine runs_assign0 (D.bool true) (by kernel_rfl) (by kernel_rfl) (by kernel_rfl) ?_
      refine k_done ?_
      refine k_skip_seq ?_
      refine k_seq ?_
      refine k_seq ?_
      refine runs_v (D.bool true) (by kernel_rfl) (by kernel_rfl) ?_
      refine runs_v (D.bool false) (by kernel_rfl) (by kernel_rfl) ?_
      refine runs_v (D.bool false) (by kernel_rfl) (by kernel_rfl) ?_
      refine runs_v (D.sl (trips st) none) (by kernel_rfl) (by kernel_rfl) ?_
      refine runs_ve (D.int IntKind.i64 (↑(List.length (trips st)) : Int)) (.int IntKind.i64 ((↑(List.length st) : Int))) (by simp only [ints, eInt, rows, eInts, bools, eBool, trips, eTrip, List.length_map]) (by kernel_rfl) (by kernel_rfl) ?_
      refine runs_v (D.bool (decide ((↑(List.length st) : Int) > (30 : Int)))) (by kernel_rfl) (by kernel_rfl) ?_
      refine runs_v (D.bool (decide ((↑(List.length st) : Int) > (30 : Int)))) (by kernel_rfl) (by kernel_rfl) ?_
      refine k_done ?_
      refine k_skip_seq ?_
      refine runs_know 25 (d := .bool (decide ((↑(List.length st) : Int) > (30 : Int)))) (d' := .bool true) (by kernel_rfl) (congrArg D.bool (show (decide ((↑(List.length st) : Int) > (30 : Int))) = true from (decide_eq_true (by omega)))) ?_
      refine k_cond_t (by kernel_rfl) ?_
      refine k_seq ?_
      refine runs_v (D.bool true) (by kernel_rfl) (by kernel_rfl) ?_
      refine k_done ?_
      refine k_skip_seq ?_
      refine k_ret ?_
      exact ⟨.inr rfl, by kernel_rfl, by kernel_rfl⟩
    obtain ⟨g1, g2⟩ := tidy_iff h1
    have hpa := progAll_ok 2996 l st none none [] (by omega) g1 g2 (by omega)
    have hpc := progCheck_ok 2995 l st none none [] (by omega) g1 g2 (by omega)
    have hmt := met_ok 2998 l t none none [] ht (by omega) (by omega) (fun c hc => by have := g2 c hc; omega)
    have hlen := allR_len (l := l) (st := st)
    have hc720 : ∀ c ∈ (allR l st).1, c.length ≤ 720 := allR_small g1 g2
    by_cases he : (allR l st).2 = 0
    · have hma := met_ok 2998 (allR l st).1 t none none [] ht (by omega) (by omega) (fun c hc => by have := hc720 c hc; omega)
      have hmet : (∀ c ∈ (allR l st).1, inR c) → metB l t = true → metB (allR l st).1 t = true := fun hr hm => allF_met t st l _ (ok0_of he) hr hm
      have h50 := fun h => check_50 (t := t) he h
      rw [he] at hpa
      generalize (allR l st).1 = a at *
      generalize checkR l st = ch at *
      generalize metB l t = ml at *
      refine k_seq ?_
      refine runs_v (D.bool false) (by kernel_rfl) (by kernel_rfl) ?_
      refine k_done ?_
      refine k_skip_seq ?_
      refine k_seq ?_
      refine runs_call ([]) (by kernel_rfl) (by kernel_rfl) (by kernel_rfl) (by kernel_rfl) (awakeC_ok) (by kernel_rfl) ?_
      refine runs_assign0 (D.bool true) (by kernel_rfl) (by kernel_rfl) (by kernel_rfl) ?_
      refine k_done ?_
      refine k_skip_seq ?_
      refine k_seq ?_
      refine k_seq ?_
      refine runs_v (D.bool true) (by kernel_rfl) (by kernel_rfl) ?_
      refine runs_v (D.bool false) (by kernel_rfl) (by kernel_rfl) ?_
      refine k_done ?_
      refine k_skip_seq ?_
      refine k_cond_f (by kernel_rfl) ?_
      refine k_skip_seq ?_
      refine k_seq ?_
      refine runs_v (D.sl (rows l) none) (by kernel_rfl) (by kernel_rfl) ?_
      refine runs_call ([D.sl (rows l) none]) (by kernel_rfl) (by kernel_rfl) (by kernel_rfl) (by kernel_rfl) (htd) (by kernel_rfl) ?_
      refine runs_assign0 (D.bool true) (by kernel_rfl) (by kernel_rfl) (by kernel_rfl) ?_
      refine k_done ?_
      refine k_skip_seq ?_
      refine k_seq ?_
      refine k_seq ?_
      refine runs_v (D.bool true) (by kernel_rfl) (by kernel_rfl) ?_
      refine runs_v (D.bool false) (by kernel_rfl) (by kernel_rfl) ?_
      refine runs_v (D.bool false) (by kernel_rfl) (by kernel_rfl) ?_
      refine runs_v (D.sl (trips st) none) (by kernel_rfl) (by kernel_rfl) ?_
      refine runs_ve (D.int IntKind.i64 (↑(List.length (trips st)) : Int)) (.int IntKind.i64 ((↑(List.length st) : Int))) (by simp only [ints, eInt, rows, eInts, bools, eBool, trips, eTrip, List.length_map]) (by kernel_rfl) (by kernel_rfl) ?_
      refine runs_v (D.bool (decide ((↑(List.length st) : Int) > (30 : Int)))) (by kernel_rfl) (by kernel_rfl) ?_
      refine runs_v (D.bool (decide ((↑(List.length st) : Int) > (30 : Int)))) (by kernel_rfl) (by kernel_rfl) ?_
      refine k_done ?_
      refine k_skip_seq ?_
      refine runs_know 25 (d := .bool (decide ((↑(List.length st) : Int) > (30 : Int)))) (d' := .bool false) (by kernel_rfl) (congrArg D.bool (show (decide ((↑(List.length st) : Int) > (30 : Int))) = false from (decide_eq_false (by omega)))) ?_
      refine k_cond_f (by kernel_rfl) ?_
      refine k_skip_seq ?_
      refine k_seq ?_
      refine runs_v (D.sl (rows l) none) (by kernel_rfl) (by kernel_rfl) ?_
      refine runs_v (D.sl (bools t) none) (by kernel_rfl) (by kernel_rfl) ?_
      refine runs_call ([D.sl (rows l) none, D.sl (bools t) none]) (by kernel_rfl) (by kernel_rfl) (by kernel_rfl) (by kernel_rfl) (hmt) (by kernel_rfl) ?_
      refine runs_assign0 (D.bool ml) (by kernel_rfl) (by kernel_rfl) (by kernel_rfl) ?_
      refine k_done ?_
      refine k_skip_seq ?_
      refine k_seq ?_
      refine runs_v (D.sl (rows l) none) (by kernel_rfl) (by kernel_rfl) ?_
      refine runs_v (D.sl (trips st) none) (by kernel_rfl) (by kernel_rfl) ?_
      refine runs_call ([D.sl (rows l) none, D.sl (trips st) none]) (by kernel_rfl) (by kernel_rfl) (by kernel_rfl) (by kernel_rfl) (hpa) (by kernel_rfl) ?_
      refine runs_v (D.tup [D.sl (rows a) none, D.int IntKind.i64 (0 : Int)]) (by kernel_rfl) (by kernel_rfl) ?_
      refine runs_v (D.sl (rows a) none) (by kernel_rfl) (by kernel_rfl) ?_
      refine runs_v (D.int IntKind.i64 (0 : Int)) (by kernel_rfl) (by kernel_rfl) ?_
      refine runs_assign0 (D.sl (rows a) none) (by kernel_rfl) (by kernel_rfl) (by kernel_rfl) ?_
      refine runs_assign0 (D.int IntKind.i64 (0 : Int)) (by kernel_rfl) (by kernel_rfl) (by kernel_rfl) ?_
      refine k_done ?_
      refine k_skip_seq ?_
      refine k_seq ?_
      refine k_seq ?_
      refine runs_v (D.int IntKind.i64 (0 : Int)) (by kernel_rfl) (by kernel_rfl) ?_
      refine runs_v (D.bool false) (by kernel_rfl) (by kernel_rfl) ?_
      refine k_done ?_
      refine k_skip_seq ?_
      refine k_cond_f (by kernel_rfl) ?_
      refine k_skip_seq ?_
      refine k_seq ?_
      refine k_seq ?_
      refine runs_v (D.int IntKind.i64 (0 : Int)) (by kernel_rfl) (by kernel_rfl) ?_
      refine k_done ?_
      refine k_skip_seq ?_
      refine k_block ?_
      refine k_loop (S := Nat × D) (fun s => f4 l st t a ml (.int .i64 s.1) s.2) (fun _ => []) (fun s => s.1 ≤ a.length ∧ (s.2 = .junk ∨ ∃ k, s.2 = .int .i64 k) ∧ ∀ c ∈ a.take s.1, inR c) (fun s => a.length - s.1) (0, .junk) (by kernel_rfl) rfl ⟨Nat.zero_le _, .inl rfl, by simp⟩ (by intro s hs; omega) ?_
      rintro ⟨i, kd⟩ ⟨hi, hkd, hin⟩
      simp only [] at hi hkd hin
      by_cases hlt : i < a.length
      · have h720 := hc720 a[i] (List.getElem_mem hlt)
        refine k_seq ?_
        refine k_seq ?_
        refine runs_v (D.int IntKind.i64 (↑i : Int)) (by kernel_rfl) (by kernel_rfl) ?_
        refine runs_v (D.sl (rows a) none) (by kernel_rfl) (by kernel_rfl) ?_
        refine runs_ve (D.int IntKind.i64 (↑(List.length (rows a)) : Int)) (.int IntKind.i64 ((↑(List.length a) : Int))) (by simp only [ints, eInt, rows, eInts, bools, eBool, trips, eTrip, List.length_map]) (by kernel_rfl) (by kernel_rfl) ?_
        refine runs_v (D.bool (decide ((↑i : Int) < (↑(List.length a) : Int)))) (by kernel_rfl) (by kernel_rfl) ?_
        refine k_done ?_
        refine k_skip_seq ?_
        refine runs_know 45 (d := .bool (decide ((↑i : Int) < (↑(List.length a) : Int)))) (d' := .bool true) (by kernel_rfl) (congrArg D.bool (show (decide ((↑i : Int) < (↑(List.length a) : Int))) = true from (decide_eq_true (by omega)))) ?_
        refine k_cond_t (by kernel_rfl) ?_
        refine k_skip_seq ?_
        refine k_seq ?_
        refine k_block ?_
        refine k_seq ?_
        refine runs_v (D.int IntKind.i64 (0 : Int)) (by kernel_rfl) (by kernel_rfl) ?_
        refine k_done ?_
        refine k_skip_seq ?_
        refine k_block ?_
        refine k_loop (fun k : Nat => f4 l st t a ml (.int .i64 i) (.int .i64 k)) (fun _ => []) (fun k => k ≤ a[i].length ∧ inR (a[i].take k)) (fun k => a[i].length - k) 0 (by kernel_rfl) rfl ⟨Nat.zero_le _, fun v hv => by simp at hv⟩ (by intro s hs; omega) ?_
        rintro k ⟨hk, hir⟩
        by_cases hlk : k < a[i].length
        · by_cases b1 : a[i][k] < -1099511627776
          · refine k_seq ?_
            refine k_seq ?_
            refine runs_v (D.int IntKind.i64 (↑k : Int)) (by kernel_rfl) (by kernel_rfl) ?_
            refine runs_v (D.sl (rows a) none) (by kernel_rfl) (by kernel_rfl) ?_
            refine runs_v (D.int IntKind.i64 (↑i : Int)) (by kernel_rfl) (by kernel_rfl) ?_
            refine runs_index (a) (eInts) (o := none) (kd := IntKind.i64) (i) (by kernel_rfl) (by kernel_rfl) (by kernel_rfl) (by assumption) (by kernel_rfl) ?_
            refine runs_v (D.sl (ints a[i]) none) (by kernel_rfl) (by kernel_rfl) ?_
            refine runs_ve (D.int IntKind.i64 (↑(List.length (ints a[i])) : Int)) (.int IntKind.i64 ((↑(List.length a[i]) : Int))) (by simp only [ints, eInt, rows, eInts, bools, eBool, trips, eTrip, List.length_map]) (by kernel_rfl) (by kernel_rfl) ?_
            refine runs_v (D.bool (decide ((↑k : Int) < (↑(List.length a[i]) : Int)))) (by kernel_rfl) (by kernel_rfl) ?_
            refine k_done ?_
            refine k_skip_seq ?_
            refine runs_know 54 (d := .bool (decide ((↑k : Int) < (↑(List.length a[i]) : Int)))) (d' := .bool true) (by kernel_rfl) (congrArg D.bool (show (decide ((↑k : Int) < (↑(List.length a[i]) : Int))) = true from (decide_eq_true (by omega)))) ?_
            refine k_cond_t (by kernel_rfl) ?_
            refine k_skip_seq ?_
            refine k_seq ?_
            refine k_block ?_
            refine k_seq ?_
            refine runs_v (D.sl (rows a) none) (by kernel_rfl) (by kernel_rfl) ?_
            refine runs_v (D.int IntKind.i64 (↑i : Int)) (by kernel_rfl) (by kernel_rfl) ?_
            refine runs_index (a) (eInts) (o := none) (kd := IntKind.i64) (i) (by kernel_rfl) (by kernel_rfl) (by kernel_rfl) (by assumption) (by kernel_rfl) ?_
            refine runs_v (D.sl (ints a[i]) none) (by kernel_rfl) (by kernel_rfl) ?_
            refine runs_v (D.int IntKind.i64 (↑k : Int)) (by kernel_rfl) (by kernel_rfl) ?_
            refine runs_index (a[i]) (eInt) (o := none) (kd := IntKind.i64) (k) (by kernel_rfl) (by kernel_rfl) (by kernel_rfl) (by assumption) (by kernel_rfl) ?_
            refine runs_v (D.int IntKind.i64 a[i][k]) (by kernel_rfl) (by kernel_rfl) ?_
            refine runs_v (D.bool (decide (a[i][k] < (-1099511627776 : Int)))) (by kernel_rfl) (by kernel_rfl) ?_
            refine runs_v (D.bool (decide (a[i][k] < (-1099511627776 : Int)))) (by kernel_rfl) (by kernel_rfl) ?_
            refine runs_know 65 (d := .bool (decide (a[i][k] < (-1099511627776 : Int)))) (d' := .bool true) (by kernel_rfl) (congrArg D.bool (show (decide (a[i][k] < (-1099511627776 : Int))) = true from (decide_eq_true (by assumption)))) ?_
            refine runs_no (by kernel_rfl) ?_
            refine runs_no (by kernel_rfl) ?_
            refine runs_no (by kernel_rfl) ?_
            refine runs_no (by kernel_rfl) ?_
            refine runs_no (by kernel_rfl) ?_
            refine runs_no (by kernel_rfl) ?_
            refine runs_no (by kernel_rfl) ?_
            refine runs_no (by kernel_rfl) ?_
            refine runs_v (D.bool true) (by kernel_rfl) (by kernel_rfl) ?_
            refine k_done ?_
            refine k_skip_seq ?_
            refine k_cond_t (by kernel_rfl) ?_
            refine k_seq ?_
            refine runs_v (D.bool true) (by kernel_rfl) (by kernel_rfl) ?_
            refine k_done ?_
            refine k_skip_seq ?_
            refine k_ret ?_
            exact ⟨.inr rfl, by kernel_rfl, by kernel_rfl⟩
          · by_cases b2 : a[i][k] > 1099511627776
            · refine k_seq ?_
              refine k_seq ?_
              refine runs_v (D.int IntKind.i64 (↑k : Int)) (by kernel_rfl) (by kernel_rfl) ?_
              refine runs_v (D.sl (rows a) none) (by kernel_rfl) (by kernel_rfl) ?_
              refine runs_v (D.int IntKind.i64 (↑i : Int)) (by kernel_rfl) (by kernel_rfl) ?_
              refine runs_index (a) (eInts) (o := none) (kd := IntKind.i64) (i) (by kernel_rfl) (by kernel_rfl) (by kernel_rfl) (by assumption) (by kernel_rfl) ?_
              refine runs_v (D.sl (ints a[i]) none) (by kernel_rfl) (by kernel_rfl) ?_
              refine runs_ve (D.int IntKind.i64 (↑(List.length (ints a[i])) : Int)) (.int IntKind.i64 ((↑(List.length a[i]) : Int))) (by simp only [ints, eInt, rows, eInts, bools, eBool, trips, eTrip, List.length_map]) (by kernel_rfl) (by kernel_rfl) ?_
              refine runs_v (D.bool (decide ((↑k : Int) < (↑(List.length a[i]) : Int)))) (by kernel_rfl) (by kernel_rfl) ?_
              refine k_done ?_
              refine k_skip_seq ?_
              refine runs_know 54 (d := .bool (decide ((↑k : Int) < (↑(List.length a[i]) : Int)))) (d' := .bool true) (by kernel_rfl) (congrArg D.bool (show (decide ((↑k : Int) < (↑(List.length a[i]) : Int))) = true from (decide_eq_true (by omega)))) ?_
              refine k_cond_t (by kernel_rfl) ?_
              refine k_skip_seq ?_
              refine k_seq ?_
              refine k_block ?_
              refine k_seq ?_
              refine runs_v (D.sl (rows a) none) (by kernel_rfl) (by kernel_rfl) ?_
              refine runs_v (D.int IntKind.i64 (↑i : Int)) (by kernel_rfl) (by kernel_rfl) ?_
              refine runs_index (a) (eInts) (o := none) (kd := IntKind.i64) (i) (by kernel_rfl) (by kernel_rfl) (by kernel_rfl) (by assumption) (by kernel_rfl) ?_
              refine runs_v (D.sl (ints a[i]) none) (by kernel_rfl) (by kernel_rfl) ?_
              refine runs_v (D.int IntKind.i64 (↑k : Int)) (by kernel_rfl) (by kernel_rfl) ?_
              refine runs_index (a[i]) (eInt) (o := none) (kd := IntKind.i64) (k) (by kernel_rfl) (by kernel_rfl) (by kernel_rfl) (by assumption) (by kernel_rfl) ?_
              refine runs_v (D.int IntKind.i64 a[i][k]) (by kernel_rfl) (by kernel_rfl) ?_
              refine runs_v (D.bool (decide (a[i][k] < (-1099511627776 : Int)))) (by kernel_rfl) (by kernel_rfl) ?_
              refine runs_v (D.bool (decide (a[i][k] < (-1099511627776 : Int)))) (by kernel_rfl) (by kernel_rfl) ?_
              refine runs_know 65 (d := .bool (decide (a[i][k] < (-1099511627776 : Int)))) (d' := .bool false) (by kernel_rfl) (congrArg D.bool (show (decide (a[i][k] < (-1099511627776 : Int))) = false from (decide_eq_false (by assumption)))) ?_
              refine runs_v (D.sl (rows a) none) (by kernel_rfl) (by kernel_rfl) ?_
              refine runs_v (D.int IntKind.i64 (↑i : Int)) (by kernel_rfl) (by kernel_rfl) ?_
              refine runs_index (a) (eInts) (o := none) (kd := IntKind.i64) (i) (by kernel_rfl) (by kernel_rfl) (by kernel_rfl) (by assumption) (by kernel_rfl) ?_
              refine runs_v (D.sl (ints a[i]) none) (by kernel_rfl) (by kernel_rfl) ?_
              refine runs_v (D.int IntKind.i64 (↑k : Int)) (by kernel_rfl) (by kernel_rfl) ?_
              refine runs_index (a[i]) (eInt) (o := none) (kd := IntKind.i64) (k) (by kernel_rfl) (by kernel_rfl) (by kernel_rfl) (by assumption) (by kernel_rfl) ?_
              refine runs_v (D.int IntKind.i64 a[i][k]) (by kernel_rfl) (by kernel_rfl) ?_
              refine runs_v (D.bool (decide (a[i][k] > (1099511627776 : Int)))) (by kernel_rfl) (by kernel_rfl) ?_
              refine runs_v (D.bool (decide (a[i][k] > (1099511627776 : Int)))) (by kernel_rfl) (by kernel_rfl) ?_
              refine k_done ?_
              refine k_skip_seq ?_
              refine runs_know 74 (d := .bool (decide (a[i][k] > (1099511627776 : Int)))) (d' := .bool true) (by kernel_rfl) (congrArg D.bool (show (decide (a[i][k] > (1099511627776 : Int))) = true from (decide_eq_true (by assumption)))) ?_
              refine k_cond_t (by kernel_rfl) ?_
              refine k_seq ?_
              refine runs_v (D.bool true) (by kernel_rfl) (by kernel_rfl) ?_
              refine k_done ?_
              refine k_skip_seq ?_
              refine k_ret ?_
              exact ⟨.inr rfl, by kernel_rfl, by kernel_rfl⟩
            · refine k_seq ?_
              refine k_seq ?_
              refine runs_v (D.int IntKind.i64 (↑k : Int)) (by kernel_rfl) (by kernel_rfl) ?_
              refine runs_v (D.sl (rows a) none) (by kernel_rfl) (by kernel_rfl) ?_
              refine runs_v (D.int IntKind.i64 (↑i : Int)) (by kernel_rfl) (by kernel_rfl) ?_
              refine runs_index (a) (eInts) (o := none) (kd := IntKind.i64) (i) (by kernel_rfl) (by kernel_rfl) (by kernel_rfl) (by assumption) (by kernel_rfl) ?_
              refine runs_v (D.sl (ints a[i]) none) (by kernel_rfl) (by kernel_rfl) ?_
              refine runs_ve (D.int IntKind.i64 (↑(List.length (ints a[i])) : Int)) (.int IntKind.i64 ((↑(List.length a[i]) : Int))) (by simp only [ints, eInt, rows, eInts, bools, eBool, trips, eTrip, List.length_map]) (by kernel_rfl) (by kernel_rfl) ?_
              refine runs_v (D.bool (decide ((↑k : Int) < (↑(List.length a[i]) : Int)))) (by kernel_rfl) (by kernel_rfl) ?_
              refine k_done ?_
              refine k_skip_seq ?_
              refine runs_know 54 (d := .bool (decide ((↑k : Int) < (↑(List.length a[i]) : Int)))) (d' := .bool true) (by kernel_rfl) (congrArg D.bool (show (decide ((↑k : Int) < (↑(List.length a[i]) : Int))) = true from (decide_eq_true (by omega)))) ?_
              refine k_cond_t (by kernel_rfl) ?_
              refine k_skip_seq ?_
              refine k_seq ?_
              refine k_block ?_
              refine k_seq ?_
              refine runs_v (D.sl (rows a) none) (by kernel_rfl) (by kernel_rfl) ?_
              refine runs_v (D.int IntKind.i64 (↑i : Int)) (by kernel_rfl) (by kernel_rfl) ?_
              refine runs_index (a) (eInts) (o := none) (kd := IntKind.i64) (i) (by kernel_rfl) (by kernel_rfl) (by kernel_rfl) (by assumption) (by kernel_rfl) ?_
              refine runs_v (D.sl (ints a[i]) none) (by kernel_rfl) (by kernel_rfl) ?_
              refine runs_v (D.int IntKind.i64 (↑k : Int)) (by kernel_rfl) (by kernel_rfl) ?_
              refine runs_index (a[i]) (eInt) (o := none) (kd := IntKind.i64) (k) (by kernel_rfl) (by kernel_rfl) (by kernel_rfl) (by assumption) (by kernel_rfl) ?_
              refine runs_v (D.int IntKind.i64 a[i][k]) (by kernel_rfl) (by kernel_rfl) ?_
              refine runs_v (D.bool (decide (a[i][k] < (-1099511627776 : Int)))) (by kernel_rfl) (by kernel_rfl) ?_
              refine runs_v (D.bool (decide (a[i][k] < (-1099511627776 : Int)))) (by kernel_rfl) (by kernel_rfl) ?_
              refine runs_know 65 (d := .bool (decide (a[i][k] < (-1099511627776 : Int)))) (d' := .bool false) (by kernel_rfl) (congrArg D.bool (show (decide (a[i][k] < (-1099511627776 : Int))) = false from (decide_eq_false (by assumption)))) ?_
              refine runs_v (D.sl (rows a) none) (by kernel_rfl) (by kernel_rfl) ?_
              refine runs_v (D.int IntKind.i64 (↑i : Int)) (by kernel_rfl) (by kernel_rfl) ?_
              refine runs_index (a) (eInts) (o := none) (kd := IntKind.i64) (i) (by kernel_rfl) (by kernel_rfl) (by kernel_rfl) (by assumption) (by kernel_rfl) ?_
              refine runs_v (D.sl (ints a[i]) none) (by kernel_rfl) (by kernel_rfl) ?_
              refine runs_v (D.int IntKind.i64 (↑k : Int)) (by kernel_rfl) (by kernel_rfl) ?_
              refine runs_index (a[i]) (eInt) (o := none) (kd := IntKind.i64) (k) (by kernel_rfl) (by kernel_rfl) (by kernel_rfl) (by assumption) (by kernel_rfl) ?_
              refine runs_v (D.int IntKind.i64 a[i][k]) (by kernel_rfl) (by kernel_rfl) ?_
              refine runs_v (D.bool (decide (a[i][k] > (1099511627776 : Int)))) (by kernel_rfl) (by kernel_rfl) ?_
              refine runs_v (D.bool (decide (a[i][k] > (1099511627776 : Int)))) (by kernel_rfl) (by kernel_rfl) ?_
              refine k_done ?_
              refine k_skip_seq ?_
              refine runs_know 74 (d := .bool (decide (a[i][k] > (1099511627776 : Int)))) (d' := .bool false) (by kernel_rfl) (congrArg D.bool (show (decide (a[i][k] > (1099511627776 : Int))) = false from (decide_eq_false (by assumption)))) ?_
              refine k_cond_f (by kernel_rfl) ?_
              refine k_skip_block ?_
              refine k_skip_seq ?_
              refine runs_v (D.int IntKind.i64 (↑k : Int)) (by kernel_rfl) (by kernel_rfl) ?_
              refine runs_ve (D.int IntKind.i64 (IntKind.wrap IntKind.i64 ((↑k : Int) + (1 : Int)))) (.int IntKind.i64 ((k + 1 : Nat) : Int)) (congrArg (D.int IntKind.i64) (show IntKind.wrap IntKind.i64 ((↑k : Int) + (1 : Int)) = ((k + 1 : Nat) : Int) from wrap_eq (by omega) (by omega) (by omega))) (by kernel_rfl) (by kernel_rfl) ?_
              refine runs_assign0 (D.int IntKind.i64 (↑(k + (1 : Nat)) : Int)) (by kernel_rfl) (by kernel_rfl) (by kernel_rfl) ?_
              refine k_done ?_
              refine k_skip_back ?_
              refine ⟨k + 1, ⟨hlk, ?_⟩, by omega, by kernel_rfl, rfl⟩
              rw [List.take_succ_eq_append_getElem hlk]
              intro v hv
              rcases List.mem_append.1 hv with hv | hv
              · exact hir v hv
              · simp only [List.mem_singleton] at hv
                subst hv
                exact ⟨by omega, by omega⟩
        · refine k_seq ?_
          refine k_seq ?_
          refine runs_v (D.int IntKind.i64 (↑k : Int)) (by kernel_rfl) (by kernel_rfl) ?_
          refine runs_v (D.sl (rows a) none) (by kernel_rfl) (by kernel_rfl) ?_
          refine runs_v (D.int IntKind.i64 (↑i : Int)) (by kernel_rfl) (by kernel_rfl) ?_
          refine runs_index (a) (eInts) (o := none) (kd := IntKind.i64) (i) (by kernel_rfl) (by kernel_rfl) (by kernel_rfl) (by assumption) (by kernel_rfl) ?_
          refine runs_v (D.sl (ints a[i]) none) (by kernel_rfl) (by kernel_rfl) ?_
          refine runs_ve (D.int IntKind.i64 (↑(List.length (ints a[i])) : Int)) (.int IntKind.i64 ((↑(List.length a[i]) : Int))) (by simp only [ints, eInt, rows, eInts, bools, eBool, trips, eTrip, List.length_map]) (by kernel_rfl) (by kernel_rfl) ?_
          refine runs_v (D.bool (decide ((↑k : Int) < (↑(List.length a[i]) : Int)))) (by kernel_rfl) (by kernel_rfl) ?_
          refine k_done ?_
          refine k_skip_seq ?_
          refine runs_know 54 (d := .bool (decide ((↑k : Int) < (↑(List.length a[i]) : Int)))) (d' := .bool false) (by kernel_rfl) (congrArg D.bool (show (decide ((↑k : Int) < (↑(List.length a[i]) : Int))) = false from (decide_eq_false (by omega)))) ?_
          refine k_cond_f (by kernel_rfl) ?_
          refine k_exit_seq ?_
          refine k_exit_back ?_
          refine k_exit_hit rfl ?_
          refine k_skip_block ?_
          refine k_skip_seq ?_
          refine runs_v (D.int IntKind.i64 (↑i : Int)) (by kernel_rfl) (by kernel_rfl) ?_
          refine runs_ve (D.int IntKind.i64 (IntKind.wrap IntKind.i64 ((↑i : Int) + (1 : Int)))) (.int IntKind.i64 ((i + 1 : Nat) : Int)) (congrArg (D.int IntKind.i64) (show IntKind.wrap IntKind.i64 ((↑i : Int) + (1 : Int)) = ((i + 1 : Nat) : Int) from wrap_eq (by omega) (by omega) (by omega))) (by kernel_rfl) (by kernel_rfl) ?_
          refine runs_assign0 (D.int IntKind.i64 (↑(i + (1 : Nat)) : Int)) (by kernel_rfl) (by kernel_rfl) (by kernel_rfl) ?_
          refine k_done ?_
          refine k_skip_back ?_
          refine ⟨(i + 1, .int .i64 k), ⟨hlt, .inr ⟨k, rfl⟩, ?_⟩, by simp only []; omega, by kernel_rfl, rfl⟩
          rw [List.take_of_length_le (by omega)] at hir
          rw [List.take_succ_eq_append_getElem hlt]
          intro c hc
          rcases List.mem_append.1 hc with hc | hc
          · exact hin c hc
          · simp only [List.mem_singleton] at hc
            subst hc
            exact hir
      · rw [List.take_of_length_le (by omega)] at hin
        by_cases hml : ml = true
        · have hm := hmet hin hml
          rw [hm] at hma
          have h5 := h50 hm
          subst hml h5
          refine k_seq ?_
          refine k_seq ?_
          refine runs_v (D.int IntKind.i64 (↑i : Int)) (by kernel_rfl) (by kernel_rfl) ?_
          refine runs_v (D.sl (rows a) none) (by kernel_rfl) (by kernel_rfl) ?_
          refine runs_ve (D.int IntKind.i64 (↑(List.length (rows a)) : Int)) (.int IntKind.i64 ((↑(List.length a) : Int))) (by simp only [ints, eInt, rows, eInts, bools, eBool, trips, eTrip, List.length_map]) (by kernel_rfl) (by kernel_rfl) ?_
          refine runs_v (D.bool (decide ((↑i : Int) < (↑(List.length a) : Int)))) (by kernel_rfl) (by kernel_rfl) ?_
          refine k_done ?_
          refine k_skip_seq ?_
          refine runs_know 45 (d := .bool (decide ((↑i : Int) < (↑(List.length a) : Int)))) (d' := .bool false) (by kernel_rfl) (congrArg D.bool (show (decide ((↑i : Int) < (↑(List.length a) : Int))) = false from (decide_eq_false (by omega)))) ?_
          refine k_cond_f (by kernel_rfl) ?_
          refine k_exit_seq ?_
          refine k_exit_back ?_
          refine k_exit_hit rfl ?_
          refine k_skip_seq ?_
          refine k_seq ?_
          refine runs_v (D.bool true) (by kernel_rfl) (by kernel_rfl) ?_
          refine runs_v (D.bool false) (by kernel_rfl) (by kernel_rfl) ?_
          refine runs_v (D.bool false) (by kernel_rfl) (by kernel_rfl) ?_
          refine runs_v (D.sl (rows a) none) (by kernel_rfl) (by kernel_rfl) ?_
          refine runs_v (D.sl (bools t) none) (by kernel_rfl) (by kernel_rfl) ?_
          refine runs_call ([D.sl (rows a) none, D.sl (bools t) none]) (by kernel_rfl) (by kernel_rfl) (by kernel_rfl) (by kernel_rfl) (hma) (by kernel_rfl) ?_
          refine runs_v (D.bool true) (by kernel_rfl) (by kernel_rfl) ?_
          refine runs_v (D.sl (rows l) none) (by kernel_rfl) (by kernel_rfl) ?_
          refine runs_v (D.sl (trips st) none) (by kernel_rfl) (by kernel_rfl) ?_
          refine runs_call ([D.sl (rows l) none, D.sl (trips st) none]) (by kernel_rfl) (by kernel_rfl) (by kernel_rfl) (by kernel_rfl) (hpc) (by kernel_rfl) ?_
          refine runs_v (D.bool true) (by kernel_rfl) (by kernel_rfl) ?_
          refine runs_v (D.bool true) (by kernel_rfl) (by kernel_rfl) ?_
          refine runs_v (D.bool true) (by kernel_rfl) (by kernel_rfl) ?_
          refine runs_assign0 (D.bool true) (by kernel_rfl) (by kernel_rfl) (by kernel_rfl) ?_
          refine k_done ?_
          refine k_skip_seq ?_
          refine k_ret ?_
          exact ⟨.inr rfl, by kernel_rfl, by kernel_rfl⟩
        · have hml' : ml = false := by simpa using hml
          subst hml'
          refine k_seq ?_
          refine k_seq ?_
          refine runs_v (D.int IntKind.i64 (↑i : Int)) (by kernel_rfl) (by kernel_rfl) ?_
          refine runs_v (D.sl (rows a) none) (by kernel_rfl) (by kernel_rfl) ?_
          refine runs_ve (D.int IntKind.i64 (↑(List.length (rows a)) : Int)) (.int IntKind.i64 ((↑(List.length a) : Int))) (by simp only [ints, eInt, rows, eInts, bools, eBool, trips, eTrip, List.length_map]) (by kernel_rfl) (by kernel_rfl) ?_
          refine runs_v (D.bool (decide ((↑i : Int) < (↑(List.length a) : Int)))) (by kernel_rfl) (by kernel_rfl) ?_
          refine k_done ?_
          refine k_skip_seq ?_
          refine runs_know 45 (d := .bool (decide ((↑i : Int) < (↑(List.length a) : Int)))) (d' := .bool false) (by kernel_rfl) (congrArg D.bool (show (decide ((↑i : Int) < (↑(List.length a) : Int))) = false from (decide_eq_false (by omega)))) ?_
          refine k_cond_f (by kernel_rfl) ?_
          refine k_exit_seq ?_
          refine k_exit_back ?_
          refine k_exit_hit rfl ?_
          refine k_skip_seq ?_
          refine k_seq ?_
          refine runs_v (D.bool false) (by kernel_rfl) (by kernel_rfl) ?_
          refine runs_v (D.bool true) (by kernel_rfl) (by kernel_rfl) ?_
          refine runs_v (D.bool true) (by kernel_rfl) (by kernel_rfl) ?_
          refine runs_no (by kernel_rfl) ?_
          refine runs_no (by kernel_rfl) ?_
          refine runs_no (by kernel_rfl) ?_
          refine runs_no (by kernel_rfl) ?_
          refine runs_no (by kernel_rfl) ?_
          refine runs_no (by kernel_rfl) ?_
          refine runs_no (by kernel_rfl) ?_
          refine runs_no (by kernel_rfl) ?_
          refine runs_no (by kernel_rfl) ?_
          refine runs_v (D.bool true) (by kernel_rfl) (by kernel_rfl) ?_
          refine runs_assign0 (D.bool true) (by kernel_rfl) (by kernel_rfl) (by kernel_rfl) ?_
          refine k_done ?_
          refine k_skip_seq ?_
          refine k_ret ?_
          exact ⟨.inr rfl, by kernel_rfl, by kernel_rfl⟩
    · have hch : checkR l st = (allR l st).2 := if_neg he
      rw [hch] at hpc
      generalize (allR l st).1 = a at *
      generalize (allR l st).2 = e at *
      refine k_seq ?_
      refine runs_v (D.bool false) (by kernel_rfl) (by kernel_rfl) ?_
      refine k_done ?_
      refine k_skip_seq ?_
      refine k_seq ?_
      refine runs_call ([]) (by kernel_rfl) (by kernel_rfl) (by kernel_rfl) (by kernel_rfl) (awakeC_ok) (by kernel_rfl) ?_
      refine runs_assign0 (D.bool true) (by kernel_rfl) (by kernel_rfl) (by kernel_rfl) ?_
      refine k_done ?_
      refine k_skip_seq ?_
      refine k_seq ?_
      refine k_seq ?_
      refine runs_v (D.bool true) (by kernel_rfl) (by kernel_rfl) ?_
      refine runs_v (D.bool false) (by kernel_rfl) (by kernel_rfl) ?_
      refine k_done ?_
      refine k_skip_seq ?_
      refine k_cond_f (by kernel_rfl) ?_
      refine k_skip_seq ?_
      refine k_seq ?_
      refine runs_v (D.sl (rows l) none) (by kernel_rfl) (by kernel_rfl) ?_
      refine runs_call ([D.sl (rows l) none]) (by kernel_rfl) (by kernel_rfl) (by kernel_rfl) (by kernel_rfl) (htd) (by kernel_rfl) ?_
      refine runs_assign0 (D.bool true) (by kernel_rfl) (by kernel_rfl) (by kernel_rfl) ?_
      refine k_done ?_
      refine k_skip_seq ?_
      refine k_seq ?_
      refine k_seq ?_
      refine runs_v (D.bool true) (by kernel_rfl) (by kernel_rfl) ?_
      refine runs_v (D.bool false) (by kernel_rfl) (by kernel_rfl) ?_
      refine runs_v (D.bool false) (by kernel_rfl) (by kernel_rfl) ?_
      refine runs_v (D.sl (trips st) none) (by kernel_rfl) (by kernel_rfl) ?_
      refine runs_ve (D.int IntKind.i64 (↑(List.length (trips st)) : Int)) (.int IntKind.i64 ((↑(List.length st) : Int))) (by simp only [ints, eInt, rows, eInts, bools, eBool, trips, eTrip, List.length_map]) (by kernel_rfl) (by kernel_rfl) ?_
      refine runs_v (D.bool (decide ((↑(List.length st) : Int) > (30 : Int)))) (by kernel_rfl) (by kernel_rfl) ?_
      refine runs_v (D.bool (decide ((↑(List.length st) : Int) > (30 : Int)))) (by kernel_rfl) (by kernel_rfl) ?_
      refine k_done ?_
      refine k_skip_seq ?_
      refine runs_know 25 (d := .bool (decide ((↑(List.length st) : Int) > (30 : Int)))) (d' := .bool false) (by kernel_rfl) (congrArg D.bool (show (decide ((↑(List.length st) : Int) > (30 : Int))) = false from (decide_eq_false (by omega)))) ?_
      refine k_cond_f (by kernel_rfl) ?_
      refine k_skip_seq ?_
      refine k_seq ?_
      refine runs_v (D.sl (rows l) none) (by kernel_rfl) (by kernel_rfl) ?_
      refine runs_v (D.sl (bools t) none) (by kernel_rfl) (by kernel_rfl) ?_
      refine runs_call ([D.sl (rows l) none, D.sl (bools t) none]) (by kernel_rfl) (by kernel_rfl) (by kernel_rfl) (by kernel_rfl) (hmt) (by kernel_rfl) ?_
      refine runs_assign0 (D.bool (metB l t)) (by kernel_rfl) (by kernel_rfl) (by kernel_rfl) ?_
      refine k_done ?_
      refine k_skip_seq ?_
      refine k_seq ?_
      refine runs_v (D.sl (rows l) none) (by kernel_rfl) (by kernel_rfl) ?_
      refine runs_v (D.sl (trips st) none) (by kernel_rfl) (by kernel_rfl) ?_
      refine runs_call ([D.sl (rows l) none, D.sl (trips st) none]) (by kernel_rfl) (by kernel_rfl) (by kernel_rfl) (by kernel_rfl) (hpa) (by kernel_rfl) ?_
      refine runs_v (D.tup [D.sl (rows a) none, D.int IntKind.i64 e]) (by kernel_rfl) (by kernel_rfl) ?_
      refine runs_v (D.sl (rows a) none) (by kernel_rfl) (by kernel_rfl) ?_
      refine runs_v (D.int IntKind.i64 e) (by kernel_rfl) (by kernel_rfl) ?_
      refine runs_assign0 (D.sl (rows a) none) (by kernel_rfl) (by kernel_rfl) (by kernel_rfl) ?_
      refine runs_assign0 (D.int IntKind.i64 e) (by kernel_rfl) (by kernel_rfl) (by kernel_rfl) ?_
      refine k_done ?_
      refine k_skip_seq ?_
      refine k_seq ?_
      refine k_seq ?_
      refine runs_v (D.int IntKind.i64 e) (by kernel_rfl) (by kernel_rfl) ?_
      refine runs_v (D.bool (e != (0 : Int))) (by kernel_rfl) (by kernel_rfl) ?_
      refine k_done ?_
      refine k_skip_seq ?_
      refine runs_know 36 (d := .bool (e != (0 : Int))) (d' := .bool true) (by kernel_rfl) (congrArg D.bool (show (e != (0 : Int)) = true from (bne_iff_ne.2 (by assumption)))) ?_
      refine k_cond_t (by kernel_rfl) ?_
      refine k_seq ?_
      refine runs_v (D.sl (rows l) none) (by kernel_rfl) (by kernel_rfl) ?_
      refine runs_v (D.sl (trips st) none) (by kernel_rfl) (by kernel_rfl) ?_
      refine runs_call ([D.sl (rows l) none, D.sl (trips st) none]) (by kernel_rfl) (by kernel_rfl) (by kernel_rfl) (by kernel_rfl) (hpc) (by kernel_rfl) ?_
      refine runs_v (D.int IntKind.i64 e) (by kernel_rfl) (by kernel_rfl) ?_
      refine runs_v (D.bool (e == e)) (by kernel_rfl) (by kernel_rfl) ?_
      refine runs_assign0 (D.bool (e == e)) (by kernel_rfl) (by kernel_rfl) (by kernel_rfl) ?_
      refine k_done ?_
      refine k_skip_seq ?_
      refine k_ret ?_
      refine ⟨.inr rfl, by kernel_rfl, ?_⟩
      have : (e == e) = true := by simp
      rw [← this]
      show _ = _
      kernel_rfl
  · have h1' : tidyB l = false := by simpa using h1
    rw [h1'] at htd
    refine k_seq ?_
    refine runs_v (D.bool false) (by kernel_rfl) (by kernel_rfl) ?_
    refine k_done ?_
    refine k_skip_seq ?_
    refine k_seq ?_
    refine runs_call ([]) (by kernel_rfl) (by kernel_rfl) (by kernel_rfl) (by kernel_rfl) (awakeC_ok) (by kernel_rfl) ?_
    refine runs_assign0 (D.bool true) (by kernel_rfl) (by kernel_rfl) (by kernel_rfl) ?_
    refine k_done ?_
    refine k_skip_seq ?_
    refine k_seq ?_
    refine k_seq ?_
    refine runs_v (D.bool true) (by kernel_rfl) (by kernel_rfl) ?_
    refine runs_v (D.bool false) (by kernel_rfl) (by kernel_rfl) ?_
    refine k_done ?_
    refine k_skip_seq ?_
    refine k_cond_f (by kernel_rfl) ?_
    refine k_skip_seq ?_
    refine k_seq ?_
    refine runs_v (D.sl (rows l) none) (by kernel_rfl) (by kernel_rfl) ?_
    refine runs_call ([D.sl (rows l) none]) (by kernel_rfl) (by kernel_rfl) (by kernel_rfl) (by kernel_rfl) (htd) (by kernel_rfl) ?_
    refine runs_assign0 (D.bool false) (by kernel_rfl) (by kernel_rfl) (by kernel_rfl) ?_
    refine k_done ?_
    refine k_skip_seq ?_
    refine k_seq ?_
    refine k_seq ?_
    refine runs_v (D.bool false) (by kernel_rfl) (by kernel_rfl) ?_
    refine runs_v (D.bool true) (by kernel_rfl) (by kernel_rfl) ?_
    refine runs_v (D.bool true) (by kernel_rfl) (by kernel_rfl) ?_
    refine runs_no (by kernel_rfl) ?_
    refine runs_no (by kernel_rfl) ?_
    refine runs_no (by kernel_rfl) ?_
    refine runs_v (D.bool true) (by kernel_rfl) (by kernel_rfl) ?_
    refine k_done ?_
    refine k_skip_seq ?_
    refine k_cond_t (by kernel_rfl) ?_
    refine k_seq ?_
    refine runs_v (D.bool true) (by kernel_rfl) (by kernel_rfl) ?_
    refine k_done ?_
    refine k_skip_seq ?_
    refine k_ret ?_
    exact ⟨.inr rfl, by kernel_rfl, by kernel_rfl⟩
end Go.Abs.B
