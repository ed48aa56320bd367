/-
  The statement ProofChecks as the machine code sees it.
-/
import Derived.Test.YtmmjjkahaemlkaaKont
import Derived.Test.YtmmjjkahaemlkaaQ7
set_option linter.unusedVariables false
set_option linter.unusedSimpArgs false
namespace Go.Abs.B
open Go Go.Abs
set_option maxRecDepth 8000
attribute [local irreducible] callN runC evalOp

theorem allF_small (L : List Int) (hL : L.length ≤ 720) : ∀ (st : List Step3) (l out : List (List Int)), small L l → allF l st = some out → small L out
  | [], l, out, hs, h => by
    simp only [allF, Option.some.injEq] at h
    subst h
    exact hs
  | s :: st, l, out, hs, h => by
    simp only [allF] at h
    split at h
    · rename_i hc
      exact allF_small L hL st _ _ (small_step hL hs (getC_mem hc.1.1 hc.1.2.1) (getC_mem hc.1.2.2.1 hc.1.2.2.2)) h
    · cases h
theorem allR_small {l : List (List Int)} {st : List Step3} (h1 : l.length ≤ 60) (h2 : ∀ c ∈ l, c.length ≤ 12) : ∀ c ∈ (allR l st).1, c.length ≤ 720 := by
  obtain ⟨hs0, hL⟩ := small_start l h1 h2
  unfold allR
  split
  · rename_i out h
    exact fun c hc => (allF_small _ hL _ _ _ hs0 h c hc).1
  · intro c hc
    cases hc

theorem awakeC_ok : callN T 3000 12 [] [] = some (.bool true, []) := by kernel_rfl
def f3 (l : List (List Int)) (st : List Step3) (a : List (List Int)) (i k : D) : Fr := Fr.mk ([.sl (rows l) none, .sl (trips st) none, .junk, .junk, .bool false, .junk, .junk, .sl (rows a) none, .junk, .sl (rows a) none, .junk, i, k] ++ List.replicate 86 .junk) (List.replicate 99 none) []
theorem lawChecks_ok (l : List (List Int)) (st : List Step3) (o1 o2 : Option Nat) :
    ∃ σ, callN T 3001 3 [.sl (rows l) o1, .sl (trips st) o2] [] = some (.bool true, σ) := by
  refine ⟨[], ?_⟩
  refine call_of (m := m3) rfl rfl (by decide) (k_start ?_)
  unfold m3
  have htd := tidy_ok 2999 l none [] (by omega)
  by_cases h1 : tidyB l = true
  · rw [h1] at htd
    by_cases h2 : st.length > 30
    · refine k_seq ?_
      refine runs_v (D.bool false) (by kernel_rfl) (by kernel_rfl) ?_
      refine k_done ?_
      refine k_skip_seq ?_
      refine k_seq ?_
      refine runs_call ([]) (by kernel_rfl) (by kernel_rfl) (by kernel_rfl) (by kernel_rfl) (awakeC_ok) (by kernel_rfl) ?_
      refine runs_assign0 (D.bool true) (by kernel_rfl) (by kernel_rfl) (by kernel_rfl) ?_
      refine k_done ?_
      refine k_skip_seq ?_
      refine k_seq ?_
      refine k_seq ?_
      refine runs_v (D.bool true) (by kernel_rfl) (by kernel_rfl) ?_
      refine runs_v (D.bool false) (by kernel_rfl) (by kernel_rfl) ?_
      refine k_done ?_
      refine k_skip_seq ?_
      refine k_cond_f (by kernel_rfl) ?_
      refine k_skip_seq ?_
      refine k_seq ?_
      refine runs_v (D.sl (rows l) none) (by kernel_rfl) (by kernel_rfl) ?_
      refine runs_call ([D.sl (rows l) none]) (by kernel_rfl) (by kernel_rfl) (by kernel_rfl) (by kernel_rfl) (htd) (by kernel_rfl) ?_
      refine runs_assign0 (D.bool true) (by kernel_rfl) (by kernel_rfl) (by kernel_rfl) ?_
      refine k_done ?_
      refine k_skip_seq ?_
      refine k_seq ?_
      refine k_seq ?_
      refine runs_v (D.bool true) (by kernel_rfl) (by kernel_rfl) ?_
      refine runs_v (D.bool false) (by kernel_rfl) (by kernel_rfl) ?_
      refine runs_v (D.bool false) (by kernel_rfl) (by kernel_rfl) ?_
      refine runs_v (D.sl (trips st) none) (by kernel_rfl) (by kernel_rfl) ?_
      refine runs_ve (D.int IntKind.i64 (↑(List.length (trips st)) : Int)) (.int IntKind.i64 ((↑(List.length st) : Int))) (by simp only [ints, eInt, rows, eInts, bools, eBool, trips, eTrip, List.length_map]) (by kernel_rfl) (by kernel_rfl) ?_
      refine runs_v (D.bool (decide ((↑(List.length st) : Int) > (30 : Int)))) (by kernel_rfl) (by kernel_rfl) ?_
      refine runs_v (D.bool (decide ((↑(List.length st) : Int) > (30 : Int)))) (by kernel_rfl) (by kernel_rfl) ?_
      refine k_done ?_
      refine k_skip_seq ?_
      refine runs_know 24 (d := .bool (decide ((↑(List.length st) : Int) > (30 : Int)))) (d' := .bool true) (by kernel_rfl) (congrArg D.bool (show (decide ((↑(List.length st) : Int) > (30 : Int))) = true from (decide_eq_true (by omega)))) ?_
      refine k_cond_t (by kernel_rfl) ?_
      refine k_seq ?_
      refine runs_v (D.bool true) (by kernel_rfl) (by kernel_rfl) ?_
      refine k_done ?_
      refine k_skip_seq ?_
      refine k_ret ?_
      exact ⟨.inr rfl, by kernel_rfl, by kernel_rfl⟩
    obtain ⟨g1, g2⟩ := tidy_iff h1
    have hpa := progAll_ok 2996 l st none none [] (by omega) g1 g2 (by omega)
    have hra := refAll_ok 2997 l st none none [] (by omega) g1 g2 (by omega)
    have hpc := progCheck_ok 2995 l st none none [] (by omega) g1 g2 (by omega)
    have hrc := refCheck_ok 2996 l st none none [] (by omega) g1 g2 (by omega)
    have hmo := model_ok 2999 st none [] (by omega) (by omega)
    have hlen := allR_len (l := l) (st := st)
    have hc720 : ∀ c ∈ (allR l st).1, c.length ≤ 720 := allR_small g1 g2
    generalize (allR l st).1 = a at *
    generalize (allR l st).2 = e at *
    generalize checkR l st = ch at *
    refine k_seq ?_
    refine runs_v (D.bool false) (by kernel_rfl) (by kernel_rfl) ?_
    refine k_done ?_
    refine k_skip_seq ?_
    refine k_seq ?_
    refine runs_call ([]) (by kernel_rfl) (by kernel_rfl) (by kernel_rfl) (by kernel_rfl) (awakeC_ok) (by kernel_rfl) ?_
    refine runs_assign0 (D.bool true) (by kernel_rfl) (by kernel_rfl) (by kernel_rfl) ?_
    refine k_done ?_
    refine k_skip_seq ?_
    refine k_seq ?_
    refine k_seq ?_
    refine runs_v (D.bool true) (by kernel_rfl) (by kernel_rfl) ?_
    refine runs_v (D.bool false) (by kernel_rfl) (by kernel_rfl) ?_
    refine k_done ?_
    refine k_skip_seq ?_
    refine k_cond_f (by kernel_rfl) ?_
    refine k_skip_seq ?_
    refine k_seq ?_
    refine runs_v (D.sl (rows l) none) (by kernel_rfl) (by kernel_rfl) ?_
    refine runs_call ([D.sl (rows l) none]) (by kernel_rfl) (by kernel_rfl) (by kernel_rfl) (by kernel_rfl) (htd) (by kernel_rfl) ?_
    refine runs_assign0 (D.bool true) (by kernel_rfl) (by kernel_rfl) (by kernel_rfl) ?_
    refine k_done ?_
    refine k_skip_seq ?_
    refine k_seq ?_
    refine k_seq ?_
    refine runs_v (D.bool true) (by kernel_rfl) (by kernel_rfl) ?_
    refine runs_v (D.bool false) (by kernel_rfl) (by kernel_rfl) ?_
    refine runs_v (D.bool false) (by kernel_rfl) (by kernel_rfl) ?_
    refine runs_v (D.sl (trips st) none) (by kernel_rfl) (by kernel_rfl) ?_
    refine runs_ve (D.int IntKind.i64 (↑(List.length (trips st)) : Int)) (.int IntKind.i64 ((↑(List.length st) : Int))) (by simp only [ints, eInt, rows, eInts, bools, eBool, trips, eTrip, List.length_map]) (by kernel_rfl) (by kernel_rfl) ?_
    refine runs_v (D.bool (decide ((↑(List.length st) : Int) > (30 : Int)))) (by kernel_rfl) (by kernel_rfl) ?_
    refine runs_v (D.bool (decide ((↑(List.length st) : Int) > (30 : Int)))) (by kernel_rfl) (by kernel_rfl) ?_
    refine k_done ?_
    refine k_skip_seq ?_
    refine runs_know 24 (d := .bool (decide ((↑(List.length st) : Int) > (30 : Int)))) (d' := .bool false) (by kernel_rfl) (congrArg D.bool (show (decide ((↑(List.length st) : Int) > (30 : Int))) = false from (decide_eq_false (by omega)))) ?_
    refine k_cond_f (by kernel_rfl) ?_
    refine k_skip_seq ?_
    refine k_seq ?_
    refine runs_v (D.sl (rows l) none) (by kernel_rfl) (by kernel_rfl) ?_
    refine runs_v (D.sl (trips st) none) (by kernel_rfl) (by kernel_rfl) ?_
    refine runs_call ([D.sl (rows l) none, D.sl (trips st) none]) (by kernel_rfl) (by kernel_rfl) (by kernel_rfl) (by kernel_rfl) (hpa) (by kernel_rfl) ?_
    refine runs_v (D.tup [D.sl (rows a) none, D.int IntKind.i64 e]) (by kernel_rfl) (by kernel_rfl) ?_
    refine runs_v (D.sl (rows a) none) (by kernel_rfl) (by kernel_rfl) ?_
    refine runs_v (D.int IntKind.i64 e) (by kernel_rfl) (by kernel_rfl) ?_
    refine runs_assign0 (D.sl (rows a) none) (by kernel_rfl) (by kernel_rfl) (by kernel_rfl) ?_
    refine runs_assign0 (D.int IntKind.i64 e) (by kernel_rfl) (by kernel_rfl) (by kernel_rfl) ?_
    refine k_done ?_
    refine k_skip_seq ?_
    refine k_seq ?_
    refine runs_v (D.sl (rows l) none) (by kernel_rfl) (by kernel_rfl) ?_
    refine runs_v (D.sl (trips st) none) (by kernel_rfl) (by kernel_rfl) ?_
    refine runs_call ([D.sl (trips st) none]) (by kernel_rfl) (by kernel_rfl) (by kernel_rfl) (by kernel_rfl) (hmo) (by kernel_rfl) ?_
    refine runs_call ([D.sl (rows l) none, D.sl (trips st) none]) (by kernel_rfl) (by kernel_rfl) (by kernel_rfl) (by kernel_rfl) (hra) (by kernel_rfl) ?_
    refine runs_v (D.tup [D.sl (rows a) none, D.int IntKind.i64 e]) (by kernel_rfl) (by kernel_rfl) ?_
    refine runs_v (D.sl (rows a) none) (by kernel_rfl) (by kernel_rfl) ?_
    refine runs_v (D.int IntKind.i64 e) (by kernel_rfl) (by kernel_rfl) ?_
    refine runs_assign0 (D.sl (rows a) none) (by kernel_rfl) (by kernel_rfl) (by kernel_rfl) ?_
    refine runs_assign0 (D.int IntKind.i64 e) (by kernel_rfl) (by kernel_rfl) (by kernel_rfl) ?_
    refine k_done ?_
    refine k_skip_seq ?_
    refine k_seq ?_
    refine k_seq ?_
    refine runs_v (D.int IntKind.i64 e) (by kernel_rfl) (by kernel_rfl) ?_
    refine runs_v (D.int IntKind.i64 e) (by kernel_rfl) (by kernel_rfl) ?_
    refine runs_v (D.bool (e != e)) (by kernel_rfl) (by kernel_rfl) ?_
    refine runs_v (D.bool (e != e)) (by kernel_rfl) (by kernel_rfl) ?_
    refine runs_know 41 (d := .bool (e != e)) (d' := .bool false) (by kernel_rfl) (congrArg D.bool (show (e != e) = false from (bne_eq_false_iff_eq.2 (by omega)))) ?_
    refine runs_v (D.sl (rows a) none) (by kernel_rfl) (by kernel_rfl) ?_
    refine runs_ve (D.int IntKind.i64 (↑(List.length (rows a)) : Int)) (.int IntKind.i64 ((↑(List.length a) : Int))) (by simp only [ints, eInt, rows, eInts, bools, eBool, trips, eTrip, List.length_map]) (by kernel_rfl) (by kernel_rfl) ?_
    refine runs_v (D.sl (rows a) none) (by kernel_rfl) (by kernel_rfl) ?_
    refine runs_ve (D.int IntKind.i64 (↑(List.length (rows a)) : Int)) (.int IntKind.i64 ((↑(List.length a) : Int))) (by simp only [ints, eInt, rows, eInts, bools, eBool, trips, eTrip, List.length_map]) (by kernel_rfl) (by kernel_rfl) ?_
    refine runs_v (D.bool ((↑(List.length a) : Int) != (↑(List.length a) : Int))) (by kernel_rfl) (by kernel_rfl) ?_
    refine runs_v (D.bool ((↑(List.length a) : Int) != (↑(List.length a) : Int))) (by kernel_rfl) (by kernel_rfl) ?_
    refine runs_v (D.bool ((↑(List.length a) : Int) != (↑(List.length a) : Int))) (by kernel_rfl) (by kernel_rfl) ?_
    refine runs_know 48 (d := .bool ((↑(List.length a) : Int) != (↑(List.length a) : Int))) (d' := .bool false) (by kernel_rfl) (congrArg D.bool (show ((↑(List.length a) : Int) != (↑(List.length a) : Int)) = false from (bne_eq_false_iff_eq.2 (by omega)))) ?_
    refine runs_v (D.sl (rows l) none) (by kernel_rfl) (by kernel_rfl) ?_
    refine runs_v (D.sl (trips st) none) (by kernel_rfl) (by kernel_rfl) ?_
    refine runs_call ([D.sl (rows l) none, D.sl (trips st) none]) (by kernel_rfl) (by kernel_rfl) (by kernel_rfl) (by kernel_rfl) (hpc) (by kernel_rfl) ?_
    refine runs_v (D.sl (rows l) none) (by kernel_rfl) (by kernel_rfl) ?_
    refine runs_v (D.sl (trips st) none) (by kernel_rfl) (by kernel_rfl) ?_
    refine runs_call ([D.sl (trips st) none]) (by kernel_rfl) (by kernel_rfl) (by kernel_rfl) (by kernel_rfl) (hmo) (by kernel_rfl) ?_
    refine runs_call ([D.sl (rows l) none, D.sl (trips st) none]) (by kernel_rfl) (by kernel_rfl) (by kernel_rfl) (by kernel_rfl) (hrc) (by kernel_rfl) ?_
    refine runs_v (D.bool (ch != ch)) (by kernel_rfl) (by kernel_rfl) ?_
    refine runs_v (D.bool (ch != ch)) (by kernel_rfl) (by kernel_rfl) ?_
    refine k_done ?_
    refine k_skip_seq ?_
    refine runs_know 57 (d := .bool (ch != ch)) (d' := .bool false) (by kernel_rfl) (congrArg D.bool (show (ch != ch) = false from (bne_eq_false_iff_eq.2 (by omega)))) ?_
    refine k_cond_f (by kernel_rfl) ?_
    refine k_skip_seq ?_
    refine k_seq ?_
    refine k_seq ?_
    refine runs_v (D.int IntKind.i64 (0 : Int)) (by kernel_rfl) (by kernel_rfl) ?_
    refine k_done ?_
    refine k_skip_seq ?_
    refine k_block ?_
    refine k_loop (S := Nat × D) (fun s => f3 l st a (.int .i64 s.1) s.2) (fun _ => []) (fun s => s.1 ≤ a.length ∧ (s.2 = .junk ∨ ∃ k, s.2 = .int .i64 k)) (fun s => a.length - s.1) (0, .junk) (by kernel_rfl) rfl ⟨Nat.zero_le _, .inl rfl⟩ (by intro s hs; omega) ?_
    rintro ⟨i, kd⟩ ⟨hi, hkd⟩
    simp only [] at hi hkd
    by_cases hlt : i < a.length
    · have h720 := hc720 a[i] (List.getElem_mem hlt)
      refine k_seq ?_
      refine k_seq ?_
      refine runs_v (D.int IntKind.i64 (↑i : Int)) (by kernel_rfl) (by kernel_rfl) ?_
      refine runs_v (D.sl (rows a) none) (by kernel_rfl) (by kernel_rfl) ?_
      refine runs_ve (D.int IntKind.i64 (↑(List.length (rows a)) : Int)) (.int IntKind.i64 ((↑(List.length a) : Int))) (by simp only [ints, eInt, rows, eInts, bools, eBool, trips, eTrip, List.length_map]) (by kernel_rfl) (by kernel_rfl) ?_
      refine runs_v (D.bool (decide ((↑i : Int) < (↑(List.length a) : Int)))) (by kernel_rfl) (by kernel_rfl) ?_
      refine k_done ?_
      refine k_skip_seq ?_
      refine runs_know 61 (d := .bool (decide ((↑i : Int) < (↑(List.length a) : Int)))) (d' := .bool true) (by kernel_rfl) (congrArg D.bool (show (decide ((↑i : Int) < (↑(List.length a) : Int))) = true from (decide_eq_true (by omega)))) ?_
      refine k_cond_t (by kernel_rfl) ?_
      refine k_skip_seq ?_
      refine k_seq ?_
      refine k_block ?_
      refine k_seq ?_
      refine k_seq ?_
      refine runs_v (D.sl (rows a) none) (by kernel_rfl) (by kernel_rfl) ?_
      refine runs_v (D.int IntKind.i64 (↑i : Int)) (by kernel_rfl) (by kernel_rfl) ?_
      refine runs_index (a) (eInts) (o := none) (kd := IntKind.i64) (i) (by kernel_rfl) (by kernel_rfl) (by kernel_rfl) (by assumption) (by kernel_rfl) ?_
      refine runs_v (D.sl (ints a[i]) none) (by kernel_rfl) (by kernel_rfl) ?_
      refine runs_ve (D.int IntKind.i64 (↑(List.length (ints a[i])) : Int)) (.int IntKind.i64 ((↑(List.length a[i]) : Int))) (by simp only [ints, eInt, rows, eInts, bools, eBool, trips, eTrip, List.length_map]) (by kernel_rfl) (by kernel_rfl) ?_
      refine runs_v (D.sl (rows a) none) (by kernel_rfl) (by kernel_rfl) ?_
      refine runs_v (D.int IntKind.i64 (↑i : Int)) (by kernel_rfl) (by kernel_rfl) ?_
      refine runs_index (a) (eInts) (o := none) (kd := IntKind.i64) (i) (by kernel_rfl) (by kernel_rfl) (by kernel_rfl) (by assumption) (by kernel_rfl) ?_
      refine runs_v (D.sl (ints a[i]) none) (by kernel_rfl) (by kernel_rfl) ?_
      refine runs_ve (D.int IntKind.i64 (↑(List.length (ints a[i])) : Int)) (.int IntKind.i64 ((↑(List.length a[i]) : Int))) (by simp only [ints, eInt, rows, eInts, bools, eBool, trips, eTrip, List.length_map]) (by kernel_rfl) (by kernel_rfl) ?_
      refine runs_v (D.bool ((↑(List.length a[i]) : Int) != (↑(List.length a[i]) : Int))) (by kernel_rfl) (by kernel_rfl) ?_
      refine k_done ?_
      refine k_skip_seq ?_
      refine runs_know 74 (d := .bool ((↑(List.length a[i]) : Int) != (↑(List.length a[i]) : Int))) (d' := .bool false) (by kernel_rfl) (congrArg D.bool (show ((↑(List.length a[i]) : Int) != (↑(List.length a[i]) : Int)) = false from (bne_eq_false_iff_eq.2 (by omega)))) ?_
      refine k_cond_f (by kernel_rfl) ?_
      refine k_skip_seq ?_
      refine k_seq ?_
      refine runs_v (D.int IntKind.i64 (0 : Int)) (by kernel_rfl) (by kernel_rfl) ?_
      refine k_done ?_
      refine k_skip_seq ?_
      refine k_block ?_
      refine k_loop (fun k : Nat => f3 l st a (.int .i64 i) (.int .i64 k)) (fun _ => []) (fun k => k ≤ a[i].length) (fun k => a[i].length - k) 0 (by kernel_rfl) rfl (Nat.zero_le _) (by intro s hs; omega) ?_
      intro k hk
      by_cases hlk : k < a[i].length
      · refine k_seq ?_
        refine k_seq ?_
        refine runs_v (D.int IntKind.i64 (↑k : Int)) (by kernel_rfl) (by kernel_rfl) ?_
        refine runs_v (D.sl (rows a) none) (by kernel_rfl) (by kernel_rfl) ?_
        refine runs_v (D.int IntKind.i64 (↑i : Int)) (by kernel_rfl) (by kernel_rfl) ?_
        refine runs_index (a) (eInts) (o := none) (kd := IntKind.i64) (i) (by kernel_rfl) (by kernel_rfl) (by kernel_rfl) (by assumption) (by kernel_rfl) ?_
        refine runs_v (D.sl (ints a[i]) none) (by kernel_rfl) (by kernel_rfl) ?_
        refine runs_ve (D.int IntKind.i64 (↑(List.length (ints a[i])) : Int)) (.int IntKind.i64 ((↑(List.length a[i]) : Int))) (by simp only [ints, eInt, rows, eInts, bools, eBool, trips, eTrip, List.length_map]) (by kernel_rfl) (by kernel_rfl) ?_
        refine runs_v (D.bool (decide ((↑k : Int) < (↑(List.length a[i]) : Int)))) (by kernel_rfl) (by kernel_rfl) ?_
        refine k_done ?_
        refine k_skip_seq ?_
        refine runs_know 81 (d := .bool (decide ((↑k : Int) < (↑(List.length a[i]) : Int)))) (d' := .bool true) (by kernel_rfl) (congrArg D.bool (show (decide ((↑k : Int) < (↑(List.length a[i]) : Int))) = true from (decide_eq_true (by omega)))) ?_
        refine k_cond_t (by kernel_rfl) ?_
        refine k_skip_seq ?_
        refine k_seq ?_
        refine k_block ?_
        refine k_seq ?_
        refine runs_v (D.sl (rows a) none) (by kernel_rfl) (by kernel_rfl) ?_
        refine runs_v (D.int IntKind.i64 (↑i : Int)) (by kernel_rfl) (by kernel_rfl) ?_
        refine runs_index (a) (eInts) (o := none) (kd := IntKind.i64) (i) (by kernel_rfl) (by kernel_rfl) (by kernel_rfl) (by assumption) (by kernel_rfl) ?_
        refine runs_v (D.sl (ints a[i]) none) (by kernel_rfl) (by kernel_rfl) ?_
        refine runs_v (D.int IntKind.i64 (↑k : Int)) (by kernel_rfl) (by kernel_rfl) ?_
        refine runs_index (a[i]) (eInt) (o := none) (kd := IntKind.i64) (k) (by kernel_rfl) (by kernel_rfl) (by kernel_rfl) (by assumption) (by kernel_rfl) ?_
        refine runs_v (D.int IntKind.i64 a[i][k]) (by kernel_rfl) (by kernel_rfl) ?_
        refine runs_v (D.sl (rows a) none) (by kernel_rfl) (by kernel_rfl) ?_
        refine runs_v (D.int IntKind.i64 (↑i : Int)) (by kernel_rfl) (by kernel_rfl) ?_
        refine runs_index (a) (eInts) (o := none) (kd := IntKind.i64) (i) (by kernel_rfl) (by kernel_rfl) (by kernel_rfl) (by assumption) (by kernel_rfl) ?_
        refine runs_v (D.sl (ints a[i]) none) (by kernel_rfl) (by kernel_rfl) ?_
        refine runs_v (D.int IntKind.i64 (↑k : Int)) (by kernel_rfl) (by kernel_rfl) ?_
        refine runs_index (a[i]) (eInt) (o := none) (kd := IntKind.i64) (k) (by kernel_rfl) (by kernel_rfl) (by kernel_rfl) (by assumption) (by kernel_rfl) ?_
        refine runs_v (D.int IntKind.i64 a[i][k]) (by kernel_rfl) (by kernel_rfl) ?_
        refine runs_v (D.bool (a[i][k] != a[i][k])) (by kernel_rfl) (by kernel_rfl) ?_
        refine k_done ?_
        refine k_skip_seq ?_
        refine runs_know 98 (d := .bool (a[i][k] != a[i][k])) (d' := .bool false) (by kernel_rfl) (congrArg D.bool (show (a[i][k] != a[i][k]) = false from (bne_eq_false_iff_eq.2 (by omega)))) ?_
        refine k_cond_f (by kernel_rfl) ?_
        refine k_skip_block ?_
        refine k_skip_seq ?_
        refine runs_v (D.int IntKind.i64 (↑k : Int)) (by kernel_rfl) (by kernel_rfl) ?_
        refine runs_ve (D.int IntKind.i64 (IntKind.wrap IntKind.i64 ((↑k : Int) + (1 : Int)))) (.int IntKind.i64 ((k + 1 : Nat) : Int)) (congrArg (D.int IntKind.i64) (show IntKind.wrap IntKind.i64 ((↑k : Int) + (1 : Int)) = ((k + 1 : Nat) : Int) by rw [IntKind.wrap_i64] <;> omega)) (by kernel_rfl) (by kernel_rfl) ?_
        refine runs_assign0 (D.int IntKind.i64 (↑(k + (1 : Nat)) : Int)) (by kernel_rfl) (by kernel_rfl) (by kernel_rfl) ?_
        refine k_done ?_
        refine k_skip_back ?_
        exact ⟨k + 1, hlk, by omega, by kernel_rfl, rfl⟩
      · refine k_seq ?_
        refine k_seq ?_
        refine runs_v (D.int IntKind.i64 (↑k : Int)) (by kernel_rfl) (by kernel_rfl) ?_
        refine runs_v (D.sl (rows a) none) (by kernel_rfl) (by kernel_rfl) ?_
        refine runs_v (D.int IntKind.i64 (↑i : Int)) (by kernel_rfl) (by kernel_rfl) ?_
        refine runs_index (a) (eInts) (o := none) (kd := IntKind.i64) (i) (by kernel_rfl) (by kernel_rfl) (by kernel_rfl) (by assumption) (by kernel_rfl) ?_
        refine runs_v (D.sl (ints a[i]) none) (by kernel_rfl) (by kernel_rfl) ?_
        refine runs_ve (D.int IntKind.i64 (↑(List.length (ints a[i])) : Int)) (.int IntKind.i64 ((↑(List.length a[i]) : Int))) (by simp only [ints, eInt, rows, eInts, bools, eBool, trips, eTrip, List.length_map]) (by kernel_rfl) (by kernel_rfl) ?_
        refine runs_v (D.bool (decide ((↑k : Int) < (↑(List.length a[i]) : Int)))) (by kernel_rfl) (by kernel_rfl) ?_
        refine k_done ?_
        refine k_skip_seq ?_
        refine runs_know 81 (d := .bool (decide ((↑k : Int) < (↑(List.length a[i]) : Int)))) (d' := .bool false) (by kernel_rfl) (congrArg D.bool (show (decide ((↑k : Int) < (↑(List.length a[i]) : Int))) = false from (decide_eq_false (by omega)))) ?_
        refine k_cond_f (by kernel_rfl) ?_
        refine k_exit_seq ?_
        refine k_exit_back ?_
        refine k_exit_hit rfl ?_
        refine k_skip_block ?_
        refine k_skip_seq ?_
        refine runs_v (D.int IntKind.i64 (↑i : Int)) (by kernel_rfl) (by kernel_rfl) ?_
        refine runs_ve (D.int IntKind.i64 (IntKind.wrap IntKind.i64 ((↑i : Int) + (1 : Int)))) (.int IntKind.i64 ((i + 1 : Nat) : Int)) (congrArg (D.int IntKind.i64) (show IntKind.wrap IntKind.i64 ((↑i : Int) + (1 : Int)) = ((i + 1 : Nat) : Int) by rw [IntKind.wrap_i64] <;> omega)) (by kernel_rfl) (by kernel_rfl) ?_
        refine runs_assign0 (D.int IntKind.i64 (↑(i + (1 : Nat)) : Int)) (by kernel_rfl) (by kernel_rfl) (by kernel_rfl) ?_
        refine k_done ?_
        refine k_skip_back ?_
        exact ⟨(i + 1, .int .i64 k), ⟨hlt, .inr ⟨k, rfl⟩⟩, by simp only []; omega, by kernel_rfl, rfl⟩
    · refine k_seq ?_
      refine k_seq ?_
      refine runs_v (D.int IntKind.i64 (↑i : Int)) (by kernel_rfl) (by kernel_rfl) ?_
      refine runs_v (D.sl (rows a) none) (by kernel_rfl) (by kernel_rfl) ?_
      refine runs_ve (D.int IntKind.i64 (↑(List.length (rows a)) : Int)) (.int IntKind.i64 ((↑(List.length a) : Int))) (by simp only [ints, eInt, rows, eInts, bools, eBool, trips, eTrip, List.length_map]) (by kernel_rfl) (by kernel_rfl) ?_
      refine runs_v (D.bool (decide ((↑i : Int) < (↑(List.length a) : Int)))) (by kernel_rfl) (by kernel_rfl) ?_
      refine k_done ?_
      refine k_skip_seq ?_
      refine runs_know 61 (d := .bool (decide ((↑i : Int) < (↑(List.length a) : Int)))) (d' := .bool false) (by kernel_rfl) (congrArg D.bool (show (decide ((↑i : Int) < (↑(List.length a) : Int))) = false from (decide_eq_false (by omega)))) ?_
      refine k_cond_f (by kernel_rfl) ?_
      refine k_exit_seq ?_
      refine k_exit_back ?_
      refine k_exit_hit rfl ?_
      refine k_skip_seq ?_
      refine k_seq ?_
      refine runs_v (D.bool true) (by kernel_rfl) (by kernel_rfl) ?_
      refine k_done ?_
      refine k_skip_seq ?_
      refine k_ret ?_
      exact ⟨.inr rfl, by kernel_rfl, by kernel_rfl⟩
  · have h1' : tidyB l = false := by simpa using h1
    rw [h1'] at htd
    refine k_seq ?_
    refine runs_v (D.bool false) (by kernel_rfl) (by kernel_rfl) ?_
    refine k_done ?_
    refine k_skip_seq ?_
    refine k_seq ?_
    refine runs_call ([]) (by kernel_rfl) (by kernel_rfl) (by kernel_rfl) (by kernel_rfl) (awakeC_ok) (by kernel_rfl) ?_
    refine runs_assign0 (D.bool true) (by kernel_rfl) (by kernel_rfl) (by kernel_rfl) ?_
    refine k_done ?_
    refine k_skip_seq ?_
    refine k_seq ?_
    refine k_seq ?_
    refine runs_v (D.bool true) (by kernel_rfl) (by kernel_rfl) ?_
    refine runs_v (D.bool false) (by kernel_rfl) (by kernel_rfl) ?_
    refine k_done ?_
    refine k_skip_seq ?_
    refine k_cond_f (by kernel_rfl) ?_
    refine k_skip_seq ?_
    refine k_seq ?_
    refine runs_v (D.sl (rows l) none) (by kernel_rfl) (by kernel_rfl) ?_
    refine runs_call ([D.sl (rows l) none]) (by kernel_rfl) (by kernel_rfl) (by kernel_rfl) (by kernel_rfl) (htd) (by kernel_rfl) ?_
    refine runs_assign0 (D.bool false) (by kernel_rfl) (by kernel_rfl) (by kernel_rfl) ?_
    refine k_done ?_
    refine k_skip_seq ?_
    refine k_seq ?_
    refine k_seq ?_
    refine runs_v (D.bool false) (by kernel_rfl) (by kernel_rfl) ?_
    refine runs_v (D.bool true) (by kernel_rfl) (by kernel_rfl) ?_
    refine runs_v (D.bool true) (by kernel_rfl) (by kernel_rfl) ?_
    refine runs_no (by kernel_rfl) ?_
    refine runs_no (by kernel_rfl) ?_
    refine runs_no (by kernel_rfl) ?_
    refine runs_v (D.bool true) (by kernel_rfl) (by kernel_rfl) ?_
    refine k_done ?_
    refine k_skip_seq ?_
    refine k_cond_t (by kernel_rfl) ?_
    refine k_seq ?_
    refine runs_v (D.bool true) (by kernel_rfl) (by kernel_rfl) ?_
    refine k_done ?_
    refine k_skip_seq ?_
    refine k_ret ?_
    exact ⟨.inr rfl, by kernel_rfl, by kernel_rfl⟩
end Go.Abs.B
