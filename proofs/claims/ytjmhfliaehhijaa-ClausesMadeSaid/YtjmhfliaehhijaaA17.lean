import Derived.Test.YtjmhfliaehhijaaKont
import Derived.Test.YtjmhfliaehhijaaA2
set_option linter.unusedVariables false
set_option linter.unusedSimpArgs false
/-
  The statements' bounded, weight, modelF once more, for the clauses.
-/
namespace Go.Abs.A
open Go Go.Abs
set_option maxRecDepth 8000
attribute [local irreducible] callN runC evalOp

theorem bounded19_ok : ∀ (d : Nat) (f : Fm) (deep : Int) (N : Nat) (σ : St), deep = 41 - (d : Int) → d ≤ 41 → d + 20 ≤ N → callN T N 27 [.agg (eF f), .int .i64 deep] σ = some (.bool (boundedR d f), σ) := by
  intro d
  induction d with
  | zero =>
    intro f deep N σ hd hd2 hN
    obtain ⟨n, rfl⟩ : ∃ n, N = n + 1 := ⟨N - 1, by omega⟩
    refine call_of (m := m27) rfl rfl (by decide) (k_start ?_)
    unfold m27
    by_cases h : f.kids.length ≤ 12
    · refine k_seq ?_
      refine rgf (D.lptr (2 : Nat) (0 : Nat)) (σ) ?_
      refine rv (D.bool false) ?_
      refine k_done (k_skip_seq (k_seq (k_seq ?_)))
      refine rv (D.lptr (2 : Nat) (2 : Nat)) ?_
      refine rv (D.sl (eFs (Fm.kids f)) none) ?_
      refine rve (D.int IntKind.i64 (↑(List.length (eFs (Fm.kids f))) : Int)) (.int IntKind.i64 ((↑(List.length (Fm.kids f)) : Int))) (by simp only [eFs_length]) ?_
      refine rv (D.bool (decide ((↑(List.length (Fm.kids f)) : Int) > (12 : Int)))) ?_
      refine rv (D.bool (decide ((↑(List.length (Fm.kids f)) : Int) > (12 : Int)))) ?_
      refine rkn 11 (decide ((↑(List.length (Fm.kids f)) : Int) > (12 : Int))) false (decide_eq_false (by omega)) ?_
      refine rv (D.int IntKind.i64 deep) ?_
      refine rv (D.bool (decide (deep > (40 : Int)))) ?_
      refine rv (D.bool (decide (deep > (40 : Int)))) ?_
      refine k_done (k_skip_seq ?_)
      refine rkn 14 (decide (deep > (40 : Int))) true (decide_eq_true (by omega)) ?_
      refine kct (k_seq ?_)
      refine rv (D.bool false) ?_
      refine k_done (k_skip_seq (k_ret ?_))
      exact ⟨.inr rfl, by kernel_rfl, by kernel_rfl⟩
    · refine k_seq ?_
      refine rgf (D.lptr (2 : Nat) (0 : Nat)) (σ) ?_
      refine rv (D.bool false) ?_
      refine k_done (k_skip_seq (k_seq (k_seq ?_)))
      refine rv (D.lptr (2 : Nat) (2 : Nat)) ?_
      refine rv (D.sl (eFs (Fm.kids f)) none) ?_
      refine rve (D.int IntKind.i64 (↑(List.length (eFs (Fm.kids f))) : Int)) (.int IntKind.i64 ((↑(List.length (Fm.kids f)) : Int))) (by simp only [eFs_length]) ?_
      refine rv (D.bool (decide ((↑(List.length (Fm.kids f)) : Int) > (12 : Int)))) ?_
      refine rv (D.bool (decide ((↑(List.length (Fm.kids f)) : Int) > (12 : Int)))) ?_
      refine rkn 11 (decide ((↑(List.length (Fm.kids f)) : Int) > (12 : Int))) true (decide_eq_true (by omega)) ?_
      refine rno (rno ?_)
      refine rv (D.bool true) ?_
      refine k_done (k_skip_seq (kct (k_seq ?_)))
      refine rv (D.bool false) ?_
      refine k_done (k_skip_seq (k_ret ?_))
      exact ⟨.inr rfl, by kernel_rfl, by kernel_rfl⟩
  | succ d ih =>
    intro f deep N σ hd hd2 hN
    obtain ⟨n, rfl⟩ : ∃ n, N = n + 1 := ⟨N - 1, by omega⟩
    refine call_of (m := m27) rfl rfl (by decide) (k_start ?_)
    unfold m27
    by_cases h : f.kids.length ≤ 12
    · have hb : boundedR (d + 1) f = f.kids.all (boundedR d) := by
        show (decide (f.kids.length ≤ 12) && _) = _
        rw [decide_eq_true h]
        rfl
      rw [hb]
      refine k_seq ?_
      refine rgf (D.lptr (2 : Nat) (0 : Nat)) (σ) ?_
      refine rv (D.bool false) ?_
      refine k_done (k_skip_seq (k_seq (k_seq ?_)))
      refine rv (D.lptr (2 : Nat) (2 : Nat)) ?_
      refine rv (D.sl (eFs (Fm.kids f)) none) ?_
      refine rve (D.int IntKind.i64 (↑(List.length (eFs (Fm.kids f))) : Int)) (.int IntKind.i64 ((↑(List.length (Fm.kids f)) : Int))) (by simp only [eFs_length]) ?_
      refine rv (D.bool (decide ((↑(List.length (Fm.kids f)) : Int) > (12 : Int)))) ?_
      refine rv (D.bool (decide ((↑(List.length (Fm.kids f)) : Int) > (12 : Int)))) ?_
      refine rkn 11 (decide ((↑(List.length (Fm.kids f)) : Int) > (12 : Int))) false (decide_eq_false (by omega)) ?_
      refine rv (D.int IntKind.i64 deep) ?_
      refine rv (D.bool (decide (deep > (40 : Int)))) ?_
      refine rv (D.bool (decide (deep > (40 : Int)))) ?_
      refine k_done (k_skip_seq ?_)
      refine rkn 14 (decide (deep > (40 : Int))) false (decide_eq_false (by omega)) ?_
      refine kcf (k_skip_seq (k_seq (k_seq ?_)))
      refine rv (D.int IntKind.i64 (0 : Int)) ?_
      refine k_done (k_skip_seq (k_block ?_))
      refine k_loop (S := Nat × D) (fun s => f13 f deep s.1 s.2) (fun _ => σ) (fun s => s.1 ≤ f.kids.length ∧ (f.kids.take s.1).all (boundedR d) = true) (fun s => f.kids.length - s.1) (0, .junk) (by kernel_rfl) rfl (by simp) (by intro s hs; omega) ?_
      rintro ⟨i, x⟩ ⟨hi, hall⟩
      simp only [] at hi hall
      by_cases hlt : i < f.kids.length
      · have hg := kid_at hlt
        have hcall := ih f.kids[i] (deep + 1) n [] (by omega) (by omega) (by omega)
        have hta := all_take (p := boundedR d) hlt
        by_cases hb1 : boundedR d f.kids[i] = true
        · rw [hb1] at hcall
          refine k_seq (k_seq ?_)
          refine rv (D.int IntKind.i64 (↑i : Int)) ?_
          refine rv (D.lptr (2 : Nat) (2 : Nat)) ?_
          refine rv (D.sl (eFs (Fm.kids f)) none) ?_
          refine rve (D.int IntKind.i64 (↑(List.length (eFs (Fm.kids f))) : Int)) (.int IntKind.i64 ((↑(List.length (Fm.kids f)) : Int))) (by simp only [eFs_length]) ?_
          refine rv (D.bool (decide ((↑i : Int) < (↑(List.length (Fm.kids f)) : Int)))) ?_
          refine k_done (k_skip_seq ?_)
          refine rkn 19 (decide ((↑i : Int) < (↑(List.length (Fm.kids f)) : Int))) true (decide_eq_true (by omega)) ?_
          refine kct (k_skip_seq (k_seq (k_block (k_seq ?_))))
          refine rv (D.lptr (2 : Nat) (2 : Nat)) ?_
          refine rv (D.sl (eFs (Fm.kids f)) none) ?_
          refine rv (D.int IntKind.i64 (↑i : Int)) ?_
          refine runs_indexL (eFs (Fm.kids f)) (o := none) (kd := IntKind.i64) (i) _ (by kernel_rfl) (by kernel_rfl) (by kernel_rfl) (by assumption) (by kernel_rfl) ?_
          refine rv (D.agg [D.int IntKind.i64 (Fm.op (Fm.kids f)[i]), D.int IntKind.i64 (Fm.n (Fm.kids f)[i]), D.sl (eFs (Fm.kids (Fm.kids f)[i])) none]) ?_
          refine rv (D.int IntKind.i64 deep) ?_
          refine rve (D.int IntKind.i64 (IntKind.wrap IntKind.i64 (deep + (1 : Int)))) (.int IntKind.i64 (deep + (1 : Int))) (congrArg (D.int IntKind.i64) (show IntKind.wrap IntKind.i64 (deep + (1 : Int)) = (deep + (1 : Int)) from wrap_eq (by omega) (by omega) (by omega))) ?_
          refine runs_call ([D.agg [D.int IntKind.i64 (Fm.op (Fm.kids f)[i]), D.int IntKind.i64 (Fm.n (Fm.kids f)[i]), D.sl (eFs (Fm.kids (Fm.kids f)[i])) none], D.int IntKind.i64 (deep + (1 : Int))]) (by kernel_rfl) (by kernel_rfl) (by kernel_rfl) (by kernel_rfl) (hcall) (by kernel_rfl) ?_
          refine ra0 (D.bool true) ?_
          refine k_done (k_skip_seq (k_seq ?_))
          refine rv (D.bool true) ?_
          refine rv (D.bool false) ?_
          refine k_done (k_skip_seq (kcf (k_skip_block (k_skip_seq ?_))))
          refine rv (D.int IntKind.i64 (↑i : Int)) ?_
          refine rve (D.int IntKind.i64 (IntKind.wrap IntKind.i64 ((↑i : Int) + (1 : Int)))) (.int IntKind.i64 ((i + 1 : Nat) : Int)) (congrArg (D.int IntKind.i64) (show IntKind.wrap IntKind.i64 ((↑i : Int) + (1 : Int)) = ((i + 1 : Nat) : Int) from wrap_eq (by omega) (by omega) (by omega))) ?_
          refine ra0 (D.int IntKind.i64 (↑(i + (1 : Nat)) : Int)) ?_
          refine k_done (k_skip_back ?_)
          exact ⟨(i + 1, .junk), ⟨hlt, by rw [hta, hall, hb1]; rfl⟩, by simp only []; omega, by kernel_rfl, rfl⟩
        · have hb2 : boundedR d f.kids[i] = false := by simpa using hb1
          rw [hb2] at hcall
          rw [all_false hlt hb2]
          refine k_seq (k_seq ?_)
          refine rv (D.int IntKind.i64 (↑i : Int)) ?_
          refine rv (D.lptr (2 : Nat) (2 : Nat)) ?_
          refine rv (D.sl (eFs (Fm.kids f)) none) ?_
          refine rve (D.int IntKind.i64 (↑(List.length (eFs (Fm.kids f))) : Int)) (.int IntKind.i64 ((↑(List.length (Fm.kids f)) : Int))) (by simp only [eFs_length]) ?_
          refine rv (D.bool (decide ((↑i : Int) < (↑(List.length (Fm.kids f)) : Int)))) ?_
          refine k_done (k_skip_seq ?_)
          refine rkn 19 (decide ((↑i : Int) < (↑(List.length (Fm.kids f)) : Int))) true (decide_eq_true (by omega)) ?_
          refine kct (k_skip_seq (k_seq (k_block (k_seq ?_))))
          refine rv (D.lptr (2 : Nat) (2 : Nat)) ?_
          refine rv (D.sl (eFs (Fm.kids f)) none) ?_
          refine rv (D.int IntKind.i64 (↑i : Int)) ?_
          refine runs_indexL (eFs (Fm.kids f)) (o := none) (kd := IntKind.i64) (i) _ (by kernel_rfl) (by kernel_rfl) (by kernel_rfl) (by assumption) (by kernel_rfl) ?_
          refine rv (D.agg [D.int IntKind.i64 (Fm.op (Fm.kids f)[i]), D.int IntKind.i64 (Fm.n (Fm.kids f)[i]), D.sl (eFs (Fm.kids (Fm.kids f)[i])) none]) ?_
          refine rv (D.int IntKind.i64 deep) ?_
          refine rve (D.int IntKind.i64 (IntKind.wrap IntKind.i64 (deep + (1 : Int)))) (.int IntKind.i64 (deep + (1 : Int))) (congrArg (D.int IntKind.i64) (show IntKind.wrap IntKind.i64 (deep + (1 : Int)) = (deep + (1 : Int)) from wrap_eq (by omega) (by omega) (by omega))) ?_
          refine runs_call ([D.agg [D.int IntKind.i64 (Fm.op (Fm.kids f)[i]), D.int IntKind.i64 (Fm.n (Fm.kids f)[i]), D.sl (eFs (Fm.kids (Fm.kids f)[i])) none], D.int IntKind.i64 (deep + (1 : Int))]) (by kernel_rfl) (by kernel_rfl) (by kernel_rfl) (by kernel_rfl) (hcall) (by kernel_rfl) ?_
          refine ra0 (D.bool false) ?_
          refine k_done (k_skip_seq (k_seq ?_))
          refine rv (D.bool false) ?_
          refine rv (D.bool true) ?_
          refine k_done (k_skip_seq (kct (k_seq ?_)))
          refine rv (D.bool false) ?_
          refine k_done (k_skip_seq (k_ret ?_))
          exact ⟨.inr rfl, by kernel_rfl, by kernel_rfl⟩
      · rw [List.take_of_length_le (by omega)] at hall
        rw [hall]
        refine k_seq (k_seq ?_)
        refine rv (D.int IntKind.i64 (↑i : Int)) ?_
        refine rv (D.lptr (2 : Nat) (2 : Nat)) ?_
        refine rv (D.sl (eFs (Fm.kids f)) none) ?_
        refine rve (D.int IntKind.i64 (↑(List.length (eFs (Fm.kids f))) : Int)) (.int IntKind.i64 ((↑(List.length (Fm.kids f)) : Int))) (by simp only [eFs_length]) ?_
        refine rv (D.bool (decide ((↑i : Int) < (↑(List.length (Fm.kids f)) : Int)))) ?_
        refine k_done (k_skip_seq ?_)
        refine rkn 19 (decide ((↑i : Int) < (↑(List.length (Fm.kids f)) : Int))) false (decide_eq_false (by omega)) ?_
        refine kcf (k_exit_seq (k_exit_back (k_exit_hit rfl (k_skip_seq (k_seq ?_)))))
        refine rv (D.bool true) ?_
        refine k_done (k_skip_seq (k_ret ?_))
        exact ⟨.inr rfl, by kernel_rfl, by kernel_rfl⟩
    · have hb : boundedR (d + 1) f = false := by
        show (decide (f.kids.length ≤ 12) && _) = _
        rw [decide_eq_false h]
        rfl
      rw [hb]
      refine k_seq ?_
      refine rgf (D.lptr (2 : Nat) (0 : Nat)) (σ) ?_
      refine rv (D.bool false) ?_
      refine k_done (k_skip_seq (k_seq (k_seq ?_)))
      refine rv (D.lptr (2 : Nat) (2 : Nat)) ?_
      refine rv (D.sl (eFs (Fm.kids f)) none) ?_
      refine rve (D.int IntKind.i64 (↑(List.length (eFs (Fm.kids f))) : Int)) (.int IntKind.i64 ((↑(List.length (Fm.kids f)) : Int))) (by simp only [eFs_length]) ?_
      refine rv (D.bool (decide ((↑(List.length (Fm.kids f)) : Int) > (12 : Int)))) ?_
      refine rv (D.bool (decide ((↑(List.length (Fm.kids f)) : Int) > (12 : Int)))) ?_
      refine rkn 11 (decide ((↑(List.length (Fm.kids f)) : Int) > (12 : Int))) true (decide_eq_true (by omega)) ?_
      refine rno (rno ?_)
      refine rv (D.bool true) ?_
      refine k_done (k_skip_seq (kct (k_seq ?_)))
      refine rv (D.bool false) ?_
      refine k_done (k_skip_seq (k_ret ?_))
      exact ⟨.inr rfl, by kernel_rfl, by kernel_rfl⟩
theorem weight19_ok : ∀ (d : Nat) (f : Fm) (N : Nat) (σ : St), fits d f → d ≤ 2000 → d + 70 ≤ N → callN T N 28 [.agg (eF f)] σ = some (.int .i64 (weightR d f), σ) := by
  intro d
  induction d with
  | zero => intro f N σ h; exact h.elim
  | succ d ih =>
    intro f N σ hfit hd hN
    obtain ⟨n, rfl⟩ : ∃ n, N = n + 1 := ⟨N - 1, by omega⟩
    obtain ⟨h12, hkids⟩ := hfit
    refine call_of (m := m28) rfl rfl (by decide) (k_start ?_)
    unfold m28
    refine k_seq ?_
    refine rgf (D.lptr (1 : Nat) (0 : Nat)) (σ) ?_
    refine rv (D.int IntKind.i64 (0 : Int)) ?_
    refine k_done (k_skip_seq (k_seq ?_))
    refine rv (D.int IntKind.i64 (1 : Int)) ?_
    refine k_done (k_skip_seq (k_seq (k_seq ?_)))
    refine rv (D.int IntKind.i64 (0 : Int)) ?_
    refine k_done (k_skip_seq (k_block ?_))
    refine k_loop (fun i : Nat => f14 f ((f.kids.take i).foldl (fun n k => if n < 1000 then n + weightR d k else n) 1) i) (fun _ => σ) (fun i => i ≤ f.kids.length) (fun i => f.kids.length - i) 0 (by kernel_rfl) rfl (by simp) (by intro s hs; omega) ?_
    intro i hi
    have hw : weightR (d + 1) f = (f.kids.drop i).foldl (fun n k => if n < 1000 then n + weightR d k else n) ((f.kids.take i).foldl (fun n k => if n < 1000 then n + weightR d k else n) 1) := by
      rw [← List.foldl_append, List.take_append_drop]
      rfl
    have hm0 := (weight_fold d (weightR_bound d) (f.kids.take i)).1
    have hft := fun h => foldl_take (g := fun (n : Int) k => if n < 1000 then n + weightR d k else n) (b := 1) (c := f.kids) (i := i) h
    generalize (f.kids.take i).foldl (fun n k => if n < 1000 then n + weightR d k else n) 1 = m at *
    by_cases hlt : i < f.kids.length
    · by_cases hm : m < 1000
      · have hg := kid_at hlt
        have hcall := ih f.kids[i] n [] (hkids _ (List.getElem_mem hlt)) (by omega) (by omega)
        have hb := weightR_bound d f.kids[i]
        refine k_seq (k_seq ?_)
        refine rv (D.int IntKind.i64 (↑i : Int)) ?_
        refine rv (D.lptr (1 : Nat) (2 : Nat)) ?_
        refine rv (D.sl (eFs (Fm.kids f)) none) ?_
        refine rve (D.int IntKind.i64 (↑(List.length (eFs (Fm.kids f))) : Int)) (.int IntKind.i64 ((↑(List.length (Fm.kids f)) : Int))) (by simp only [eFs_length]) ?_
        refine rv (D.bool (decide ((↑i : Int) < (↑(List.length (Fm.kids f)) : Int)))) ?_
        refine rv (D.bool (decide ((↑i : Int) < (↑(List.length (Fm.kids f)) : Int)))) ?_
        refine rkn 10 (decide ((↑i : Int) < (↑(List.length (Fm.kids f)) : Int))) true (decide_eq_true (by omega)) ?_
        refine rv (D.int IntKind.i64 m) ?_
        refine rv (D.bool (decide (m < (1000 : Int)))) ?_
        refine rv (D.bool (decide (m < (1000 : Int)))) ?_
        refine k_done (k_skip_seq ?_)
        refine rkn 13 (decide (m < (1000 : Int))) true (decide_eq_true (by assumption)) ?_
        refine kct (k_skip_seq (k_seq (k_block ?_)))
        refine rv (D.int IntKind.i64 m) ?_
        refine rv (D.lptr (1 : Nat) (2 : Nat)) ?_
        refine rv (D.sl (eFs (Fm.kids f)) none) ?_
        refine rv (D.int IntKind.i64 (↑i : Int)) ?_
        refine runs_indexL (eFs (Fm.kids f)) (o := none) (kd := IntKind.i64) (i) _ (by kernel_rfl) (by kernel_rfl) (by kernel_rfl) (by assumption) (by kernel_rfl) ?_
        refine rv (D.agg [D.int IntKind.i64 (Fm.op (Fm.kids f)[i]), D.int IntKind.i64 (Fm.n (Fm.kids f)[i]), D.sl (eFs (Fm.kids (Fm.kids f)[i])) none]) ?_
        refine runs_call ([D.agg [D.int IntKind.i64 (Fm.op (Fm.kids f)[i]), D.int IntKind.i64 (Fm.n (Fm.kids f)[i]), D.sl (eFs (Fm.kids (Fm.kids f)[i])) none]]) (by kernel_rfl) (by kernel_rfl) (by kernel_rfl) (by kernel_rfl) (hcall) (by kernel_rfl) ?_
        refine rve (D.int IntKind.i64 (IntKind.wrap IntKind.i64 (m + weightR d (Fm.kids f)[i]))) (.int IntKind.i64 (m + weightR d (Fm.kids f)[i])) (congrArg (D.int IntKind.i64) (show IntKind.wrap IntKind.i64 (m + weightR d (Fm.kids f)[i]) = (m + weightR d (Fm.kids f)[i]) from wrap_eq (by omega) (by omega) (by omega))) ?_
        refine ra0 (D.int IntKind.i64 (m + weightR d (Fm.kids f)[i])) ?_
        refine k_done (k_skip_block (k_skip_seq ?_))
        refine rv (D.int IntKind.i64 (↑i : Int)) ?_
        refine rve (D.int IntKind.i64 (IntKind.wrap IntKind.i64 ((↑i : Int) + (1 : Int)))) (.int IntKind.i64 ((i + 1 : Nat) : Int)) (congrArg (D.int IntKind.i64) (show IntKind.wrap IntKind.i64 ((↑i : Int) + (1 : Int)) = ((i + 1 : Nat) : Int) from wrap_eq (by omega) (by omega) (by omega))) ?_
        refine ra0 (D.int IntKind.i64 (↑(i + (1 : Nat)) : Int)) ?_
        refine k_done (k_skip_back ?_)
        refine ⟨i + 1, hlt, by omega, ?_, rfl⟩
        rw [hft hlt]
        simp only [hm, if_true]
        kernel_rfl
      · refine k_seq (k_seq ?_)
        refine rv (D.int IntKind.i64 (↑i : Int)) ?_
        refine rv (D.lptr (1 : Nat) (2 : Nat)) ?_
        refine rv (D.sl (eFs (Fm.kids f)) none) ?_
        refine rve (D.int IntKind.i64 (↑(List.length (eFs (Fm.kids f))) : Int)) (.int IntKind.i64 ((↑(List.length (Fm.kids f)) : Int))) (by simp only [eFs_length]) ?_
        refine rv (D.bool (decide ((↑i : Int) < (↑(List.length (Fm.kids f)) : Int)))) ?_
        refine rv (D.bool (decide ((↑i : Int) < (↑(List.length (Fm.kids f)) : Int)))) ?_
        refine rkn 10 (decide ((↑i : Int) < (↑(List.length (Fm.kids f)) : Int))) true (decide_eq_true (by omega)) ?_
        refine rv (D.int IntKind.i64 m) ?_
        refine rv (D.bool (decide (m < (1000 : Int)))) ?_
        refine rv (D.bool (decide (m < (1000 : Int)))) ?_
        refine k_done (k_skip_seq ?_)
        refine rkn 13 (decide (m < (1000 : Int))) false (decide_eq_false (by assumption)) ?_
        refine kcf (k_exit_seq (k_exit_back (k_exit_hit rfl (k_skip_seq (k_seq ?_)))))
        refine rv (D.int IntKind.i64 m) ?_
        refine ra0 (D.int IntKind.i64 m) ?_
        refine k_done (k_skip_seq (k_ret ?_))
        rw [hw, foldl_stop _ _ hm]
        exact ⟨.inr rfl, by kernel_rfl, by kernel_rfl⟩
    · rw [hw, List.drop_of_length_le (by omega)]
      refine k_seq (k_seq ?_)
      refine rv (D.int IntKind.i64 (↑i : Int)) ?_
      refine rv (D.lptr (1 : Nat) (2 : Nat)) ?_
      refine rv (D.sl (eFs (Fm.kids f)) none) ?_
      refine rve (D.int IntKind.i64 (↑(List.length (eFs (Fm.kids f))) : Int)) (.int IntKind.i64 ((↑(List.length (Fm.kids f)) : Int))) (by simp only [eFs_length]) ?_
      refine rv (D.bool (decide ((↑i : Int) < (↑(List.length (Fm.kids f)) : Int)))) ?_
      refine rv (D.bool (decide ((↑i : Int) < (↑(List.length (Fm.kids f)) : Int)))) ?_
      refine rkn 10 (decide ((↑i : Int) < (↑(List.length (Fm.kids f)) : Int))) false (decide_eq_false (by omega)) ?_
      refine rno (rno ?_)
      refine rv (D.bool false) ?_
      refine k_done (k_skip_seq (kcf (k_exit_seq (k_exit_back (k_exit_hit rfl (k_skip_seq (k_seq ?_)))))))
      refine rv (D.int IntKind.i64 m) ?_
      refine ra0 (D.int IntKind.i64 m) ?_
      refine k_done (k_skip_seq (k_ret ?_))
      exact ⟨.inr rfl, by kernel_rfl, by kernel_rfl⟩

theorem model19_ok : ∀ (d : Nat) (f : Fm) (N : Nat) (σ : St), fits d f → d + 70 ≤ N → callN T N 29 [.agg (eF f)] σ = some (.agg (eF f), σ) := by
  intro d
  induction d with
  | zero => intro f N σ h; exact h.elim
  | succ d ih =>
    intro f N σ hfit hN
    obtain ⟨n, rfl⟩ : ∃ n, N = n + 1 := ⟨N - 1, by omega⟩
    obtain ⟨h12, hkids⟩ := hfit
    refine call_of (m := m29) rfl rfl (by decide) (k_start ?_)
    unfold m29
    refine k_seq ?_
    refine rgf (D.lptr (1 : Nat) (0 : Nat)) (σ) ?_
    refine rgf (D.lptr (2 : Nat) (0 : Nat)) (σ) ?_
    refine k_done (k_skip_seq (k_seq ?_))
    refine rv (D.lptr (1 : Nat) (0 : Nat)) ?_
    refine rv (D.int IntKind.i64 (Fm.op f)) ?_
    refine rv (D.lptr (1 : Nat) (1 : Nat)) ?_
    refine rv (D.int IntKind.i64 (Fm.n f)) ?_
    refine rv (D.agg [D.int IntKind.i64 (Fm.op f), D.int IntKind.i64 (Fm.n f), D.nils (33 : Nat)]) ?_
    refine rgf (D.lptr (3 : Nat) (0 : Nat)) (σ) ?_
    refine rgf (D.junk) (σ) ?_
    refine k_done (k_skip_seq (k_seq (k_seq ?_)))
    refine rv (D.int IntKind.i64 (0 : Int)) ?_
    refine k_done (k_skip_seq (k_block ?_))
    refine k_loop (fun i : Nat => f17 f i (eFs (f.kids.take i))) (fun _ => σ) (fun i => i ≤ f.kids.length) (fun i => f.kids.length - i) 0 (by kernel_rfl) rfl (by simp) (by intro s hs; omega) ?_
    intro i hi
    have hlen : (f.kids.take i).length = i := by simp; omega
    by_cases hlt : i < f.kids.length
    · have ht := List.take_succ_eq_append_getElem hlt
      have hg := kid_at hlt
      have hcall := ih f.kids[i] n [] (hkids _ (List.getElem_mem hlt)) (by omega)
      generalize f.kids.take i = out at *
      have hsn := eFs_snoc out f.kids[i]
      refine k_seq (k_seq ?_)
      refine rv (D.int IntKind.i64 (↑i : Int)) ?_
      refine rv (D.lptr (1 : Nat) (2 : Nat)) ?_
      refine rv (D.sl (eFs (Fm.kids f)) none) ?_
      refine rve (D.int IntKind.i64 (↑(List.length (eFs (Fm.kids f))) : Int)) (.int IntKind.i64 ((↑(List.length (Fm.kids f)) : Int))) (by simp only [ints, eInt, rows, eInts, bools, eBool, trips, eTrip, List.length_map, eFs_length]) ?_
      refine rv (D.bool (decide ((↑i : Int) < (↑(List.length (Fm.kids f)) : Int)))) ?_
      refine k_done (k_skip_seq ?_)
      refine rkn 14 (decide ((↑i : Int) < (↑(List.length (Fm.kids f)) : Int))) true (decide_eq_true (by omega)) ?_
      refine kct (k_skip_seq (k_seq (k_block ?_)))
      refine rv (D.lptr (3 : Nat) (2 : Nat)) ?_
      refine rgf (D.sl (eFs out) (some (33 : Nat))) (σ) ?_
      refine rv (D.lptr (1 : Nat) (2 : Nat)) ?_
      refine rv (D.sl (eFs (Fm.kids f)) none) ?_
      refine rv (D.int IntKind.i64 (↑i : Int)) ?_
      refine runs_indexL (eFs (Fm.kids f)) (o := none) (kd := IntKind.i64) (i) _ (by kernel_rfl) (by kernel_rfl) (by kernel_rfl) (by assumption) (by kernel_rfl) ?_
      refine rv (D.agg [D.int IntKind.i64 (Fm.op (Fm.kids f)[i]), D.int IntKind.i64 (Fm.n (Fm.kids f)[i]), D.sl (eFs (Fm.kids (Fm.kids f)[i])) none]) ?_
      refine runs_callQ ([D.agg [D.int IntKind.i64 (Fm.op (Fm.kids f)[i]), D.int IntKind.i64 (Fm.n (Fm.kids f)[i]), D.sl (eFs (Fm.kids (Fm.kids f)[i])) none]]) (by kernel_rfl) (by kernel_rfl) (by kernel_rfl) (by kernel_rfl) (hcall) (by kernel_rfl) ?_
      refine rv (D.sl [[D.int IntKind.i64 (Fm.op (Fm.kids f)[i]), D.int IntKind.i64 (Fm.n (Fm.kids f)[i]), D.sl (eFs (Fm.kids (Fm.kids f)[i])) none]] (some (33 : Nat))) ?_
      refine runs_append (eFs out) ([[D.int IntKind.i64 (Fm.op (Fm.kids f)[i]), D.int IntKind.i64 (Fm.n (Fm.kids f)[i]), D.sl (eFs (Fm.kids (Fm.kids f)[i])) none]]) (eFs out ++ [[D.int IntKind.i64 (Fm.op (Fm.kids f)[i]), D.int IntKind.i64 (Fm.n (Fm.kids f)[i]), D.sl (eFs (Fm.kids (Fm.kids f)[i])) none]]) (by kernel_rfl) (by kernel_rfl) (by kernel_rfl) (by kernel_rfl) (by simp [eFs_length, ints, eInt, rows, eInts, bools, eBool, trips, eTrip, room]; omega) rfl ?_
      refine rv (D.lptr (3 : Nat) (2 : Nat)) ?_
      refine rgf (D.junk) (σ) ?_
      refine k_done (k_skip_block (k_skip_seq ?_))
      refine rv (D.int IntKind.i64 (↑i : Int)) ?_
      refine rve (D.int IntKind.i64 (IntKind.wrap IntKind.i64 ((↑i : Int) + (1 : Int)))) (.int IntKind.i64 ((i + 1 : Nat) : Int)) (congrArg (D.int IntKind.i64) (show IntKind.wrap IntKind.i64 ((↑i : Int) + (1 : Int)) = ((i + 1 : Nat) : Int) from wrap_eq (by omega) (by omega) (by omega))) ?_
      refine ra0 (D.int IntKind.i64 (↑(i + (1 : Nat)) : Int)) ?_
      refine k_done (k_skip_back ?_)
      exact ⟨i + 1, hlt, by omega, by rw [ht, ← hsn]; kernel_rfl, rfl⟩
    · rw [List.take_of_length_le (by omega)]
      refine k_seq (k_seq ?_)
      refine rv (D.int IntKind.i64 (↑i : Int)) ?_
      refine rv (D.lptr (1 : Nat) (2 : Nat)) ?_
      refine rv (D.sl (eFs (Fm.kids f)) none) ?_
      refine rve (D.int IntKind.i64 (↑(List.length (eFs (Fm.kids f))) : Int)) (.int IntKind.i64 ((↑(List.length (Fm.kids f)) : Int))) (by simp only [eFs_length]) ?_
      refine rv (D.bool (decide ((↑i : Int) < (↑(List.length (Fm.kids f)) : Int)))) ?_
      refine k_done (k_skip_seq ?_)
      refine rkn 14 (decide ((↑i : Int) < (↑(List.length (Fm.kids f)) : Int))) false (decide_eq_false (by omega)) ?_
      refine kcf (k_exit_seq (k_exit_back (k_exit_hit rfl (k_skip_seq (k_seq ?_)))))
      refine rv (D.agg [D.int IntKind.i64 (Fm.op f), D.int IntKind.i64 (Fm.n f), D.sl (eFs (Fm.kids f)) none]) ?_
      refine rgf (D.junk) (σ) ?_
      refine k_done (k_skip_seq (k_ret ?_))
      exact ⟨.inr rfl, by kernel_rfl, by kernel_rfl⟩
end Go.Abs.A
