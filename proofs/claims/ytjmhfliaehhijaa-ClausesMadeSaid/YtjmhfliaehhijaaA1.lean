import Derived.Test.YtjmhfliaehhijaaKont
import Derived.Test.YtjmhfliaehhijaaFm
import Derived.Test.YtjmhfliaehhijaaCodeA
set_option linter.unusedVariables false
set_option linter.unusedSimpArgs false
/-
  Formulas that are small; a formula as the model has it.
-/
namespace Go.Abs.A
open Go Go.Abs
set_option maxRecDepth 8000
attribute [local irreducible] callN runC evalOp

/-- bounded, of what may still be nested. -/
def boundedR : Nat → Fm → Bool
  | 0, _ => false
  | d + 1, f => decide (f.kids.length ≤ 12) && f.kids.all (boundedR d)
theorem boundedR_fits : ∀ {d : Nat} {f : Fm}, boundedR d f = true → fits d f
  | 0, _, h => by cases h
  | d + 1, f, h => by
    simp only [boundedR, Bool.and_eq_true, decide_eq_true_eq, List.all_eq_true] at h
    exact ⟨by omega, fun k hk => boundedR_fits (h.2 k hk)⟩
theorem all_take {α : Type} {p : α → Bool} {c : List α} {i : Nat} (h : i < c.length) : (c.take (i + 1)).all p = ((c.take i).all p && p c[i]) := by
  rw [List.take_succ_eq_append_getElem h, List.all_append]
  simp only [List.all_cons, List.all_nil, Bool.and_true]
theorem any_take {α : Type} {p : α → Bool} {c : List α} {i : Nat} (h : i < c.length) : (c.take (i + 1)).any p = ((c.take i).any p || p c[i]) := by
  rw [List.take_succ_eq_append_getElem h, List.any_append]
  simp only [List.any_cons, List.any_nil, Bool.or_false]
theorem all_false {α : Type} {p : α → Bool} {c : List α} {i : Nat} (h : i < c.length) (hp : p c[i] = false) : c.all p = false := by
  rw [Bool.eq_false_iff]
  intro ha
  have := List.all_eq_true.1 ha c[i] (List.getElem_mem h)
  rw [hp] at this
  cases this
theorem any_true {α : Type} {p : α → Bool} {c : List α} {i : Nat} (h : i < c.length) (hp : p c[i] = true) : c.any p = true :=
  List.any_eq_true.2 ⟨c[i], List.getElem_mem h, hp⟩
theorem kid_at {ks : List Fm} {i : Nat} (h : i < ks.length) : (eFs ks)[i]? = some (eF ks[i]) := eFs_get (List.getElem?_eq_getElem h)

def O0 (a : List Bool) : Obj := .cells [.sl (bools a) none]
def bx (n t : Nat) (c : List D) : List (Option (List D)) := (List.replicate n none).set t (some c)
def f13 (f : Fm) (deep i : Int) (b : D) : Fr := Fr.mk ([.agg (eF f), .int .i64 deep, .lptr 2 0, .junk, .bool false, .int .i64 i, .junk] ++ List.replicate 25 .junk) (bx 32 2 (eF f)) []
theorem bounded_ok : ∀ (d : Nat) (f : Fm) (deep : Int) (N : Nat) (σ : St), deep = 41 - (d : Int) → d ≤ 41 → d + 20 ≤ N → callN T N 13 [.agg (eF f), .int .i64 deep] σ = some (.bool (boundedR d f), σ) := by
  intro d
  induction d with
  | zero =>
    intro f deep N σ hd hd2 hN
    obtain ⟨n, rfl⟩ : ∃ n, N = n + 1 := ⟨N - 1, by omega⟩
    refine call_of (m := m13) rfl rfl (by decide) (k_start ?_)
    unfold m13
    by_cases h : f.kids.length ≤ 12
    · refine k_seq ?_
      refine rgf (D.lptr (2 : Nat) (0 : Nat)) (σ) ?_
      refine rv (D.bool false) ?_
      refine k_done (k_skip_seq (k_seq (k_seq ?_)))
      refine rv (D.lptr (2 : Nat) (2 : Nat)) ?_
      refine rv (D.sl (eFs (Fm.kids f)) none) ?_
      refine rve (D.int IntKind.i64 (↑(List.length (eFs (Fm.kids f))) : Int)) (.int IntKind.i64 ((↑(List.length (Fm.kids f)) : Int))) (by simp only [eFs_length]) ?_
      refine rv (D.bool (decide ((↑(List.length (Fm.kids f)) : Int) > (12 : Int)))) ?_
      refine rv (D.bool (decide ((↑(List.length (Fm.kids f)) : Int) > (12 : Int)))) ?_
      refine rkn 11 (decide ((↑(List.length (Fm.kids f)) : Int) > (12 : Int))) false (decide_eq_false (by omega)) ?_
      refine rv (D.int IntKind.i64 deep) ?_
      refine rv (D.bool (decide (deep > (40 : Int)))) ?_
      refine rv (D.bool (decide (deep > (40 : Int)))) ?_
      refine k_done (k_skip_seq ?_)
      refine rkn 14 (decide (deep > (40 : Int))) true (decide_eq_true (by omega)) ?_
      refine kct (k_seq ?_)
      refine rv (D.bool false) ?_
      refine k_done (k_skip_seq (k_ret ?_))
      exact ⟨.inr rfl, by kernel_rfl, by kernel_rfl⟩
    · refine k_seq ?_
      refine rgf (D.lptr (2 : Nat) (0 : Nat)) (σ) ?_
      refine rv (D.bool false) ?_
      refine k_done (k_skip_seq (k_seq (k_seq ?_)))
      refine rv (D.lptr (2 : Nat) (2 : Nat)) ?_
      refine rv (D.sl (eFs (Fm.kids f)) none) ?_
      refine rve (D.int IntKind.i64 (↑(List.length (eFs (Fm.kids f))) : Int)) (.int IntKind.i64 ((↑(List.length (Fm.kids f)) : Int))) (by simp only [eFs_length]) ?_
      refine rv (D.bool (decide ((↑(List.length (Fm.kids f)) : Int) > (12 : Int)))) ?_
      refine rv (D.bool (decide ((↑(List.length (Fm.kids f)) : Int) > (12 : Int)))) ?_
      refine rkn 11 (decide ((↑(List.length (Fm.kids f)) : Int) > (12 : Int))) true (decide_eq_true (by omega)) ?_
      refine rno (rno ?_)
      refine rv (D.bool true) ?_
      refine k_done (k_skip_seq (kct (k_seq ?_)))
      refine rv (D.bool false) ?_
      refine k_done (k_skip_seq (k_ret ?_))
      exact ⟨.inr rfl, by kernel_rfl, by kernel_rfl⟩
  | succ d ih =>
    intro f deep N σ hd hd2 hN
    obtain ⟨n, rfl⟩ : ∃ n, N = n + 1 := ⟨N - 1, by omega⟩
    refine call_of (m := m13) rfl rfl (by decide) (k_start ?_)
    unfold m13
    by_cases h : f.kids.length ≤ 12
    · have hb : boundedR (d + 1) f = f.kids.all (boundedR d) := by
        show (decide (f.kids.length ≤ 12) && _) = _
        rw [decide_eq_true h]
        rfl
      rw [hb]
      refine k_seq ?_
      refine rgf (D.lptr (2 : Nat) (0 : Nat)) (σ) ?_
      refine rv (D.bool false) ?_
      refine k_done (k_skip_seq (k_seq (k_seq ?_)))
      refine rv (D.lptr (2 : Nat) (2 : Nat)) ?_
      refine rv (D.sl (eFs (Fm.kids f)) none) ?_
      refine rve (D.int IntKind.i64 (↑(List.length (eFs (Fm.kids f))) : Int)) (.int IntKind.i64 ((↑(List.length (Fm.kids f)) : Int))) (by simp only [eFs_length]) ?_
      refine rv (D.bool (decide ((↑(List.length (Fm.kids f)) : Int) > (12 : Int)))) ?_
      refine rv (D.bool (decide ((↑(List.length (Fm.kids f)) : Int) > (12 : Int)))) ?_
      refine rkn 11 (decide ((↑(List.length (Fm.kids f)) : Int) > (12 : Int))) false (decide_eq_false (by omega)) ?_
      refine rv (D.int IntKind.i64 deep) ?_
      refine rv (D.bool (decide (deep > (40 : Int)))) ?_
      refine rv (D.bool (decide (deep > (40 : Int)))) ?_
      refine k_done (k_skip_seq ?_)
      refine rkn 14 (decide (deep > (40 : Int))) false (decide_eq_false (by omega)) ?_
      refine kcf (k_skip_seq (k_seq (k_seq ?_)))
      refine rv (D.int IntKind.i64 (0 : Int)) ?_
      refine k_done (k_skip_seq (k_block ?_))
      refine k_loop (S := Nat × D) (fun s => f13 f deep s.1 s.2) (fun _ => σ) (fun s => s.1 ≤ f.kids.length ∧ (f.kids.take s.1).all (boundedR d) = true) (fun s => f.kids.length - s.1) (0, .junk) (by kernel_rfl) rfl (by simp) (by intro s hs; omega) ?_
      rintro ⟨i, x⟩ ⟨hi, hall⟩
      simp only [] at hi hall
      by_cases hlt : i < f.kids.length
      · have hg := kid_at hlt
        have hcall := ih f.kids[i] (deep + 1) n [] (by omega) (by omega) (by omega)
        have hta := all_take (p := boundedR d) hlt
        by_cases hb1 : boundedR d f.kids[i] = true
        · rw [hb1] at hcall
          refine k_seq (k_seq ?_)
          refine rv (D.int IntKind.i64 (↑i : Int)) ?_
          refine rv (D.lptr (2 : Nat) (2 : Nat)) ?_
          refine rv (D.sl (eFs (Fm.kids f)) none) ?_
          refine rve (D.int IntKind.i64 (↑(List.length (eFs (Fm.kids f))) : Int)) (.int IntKind.i64 ((↑(List.length (Fm.kids f)) : Int))) (by simp only [eFs_length]) ?_
          refine rv (D.bool (decide ((↑i : Int) < (↑(List.length (Fm.kids f)) : Int)))) ?_
          refine k_done (k_skip_seq ?_)
          refine rkn 19 (decide ((↑i : Int) < (↑(List.length (Fm.kids f)) : Int))) true (decide_eq_true (by omega)) ?_
          refine kct (k_skip_seq (k_seq (k_block (k_seq ?_))))
          refine rv (D.lptr (2 : Nat) (2 : Nat)) ?_
          refine rv (D.sl (eFs (Fm.kids f)) none) ?_
          refine rv (D.int IntKind.i64 (↑i : Int)) ?_
          refine runs_indexL (eFs (Fm.kids f)) (o := none) (kd := IntKind.i64) (i) _ (by kernel_rfl) (by kernel_rfl) (by kernel_rfl) (by assumption) (by kernel_rfl) ?_
          refine rv (D.agg [D.int IntKind.i64 (Fm.op (Fm.kids f)[i]), D.int IntKind.i64 (Fm.n (Fm.kids f)[i]), D.sl (eFs (Fm.kids (Fm.kids f)[i])) none]) ?_
          refine rv (D.int IntKind.i64 deep) ?_
          refine rve (D.int IntKind.i64 (IntKind.wrap IntKind.i64 (deep + (1 : Int)))) (.int IntKind.i64 (deep + (1 : Int))) (congrArg (D.int IntKind.i64) (show IntKind.wrap IntKind.i64 (deep + (1 : Int)) = (deep + (1 : Int)) from wrap_eq (by omega) (by omega) (by omega))) ?_
          refine runs_call ([D.agg [D.int IntKind.i64 (Fm.op (Fm.kids f)[i]), D.int IntKind.i64 (Fm.n (Fm.kids f)[i]), D.sl (eFs (Fm.kids (Fm.kids f)[i])) none], D.int IntKind.i64 (deep + (1 : Int))]) (by kernel_rfl) (by kernel_rfl) (by kernel_rfl) (by kernel_rfl) (hcall) (by kernel_rfl) ?_
          refine ra0 (D.bool true) ?_
          refine k_done (k_skip_seq (k_seq ?_))
          refine rv (D.bool true) ?_
          refine rv (D.bool false) ?_
          refine k_done (k_skip_seq (kcf (k_skip_block (k_skip_seq ?_))))
          refine rv (D.int IntKind.i64 (↑i : Int)) ?_
          refine rve (D.int IntKind.i64 (IntKind.wrap IntKind.i64 ((↑i : Int) + (1 : Int)))) (.int IntKind.i64 ((i + 1 : Nat) : Int)) (congrArg (D.int IntKind.i64) (show IntKind.wrap IntKind.i64 ((↑i : Int) + (1 : Int)) = ((i + 1 : Nat) : Int) from wrap_eq (by omega) (by omega) (by omega))) ?_
          refine ra0 (D.int IntKind.i64 (↑(i + (1 : Nat)) : Int)) ?_
          refine k_done (k_skip_back ?_)
          exact ⟨(i + 1, .junk), ⟨hlt, by rw [hta, hall, hb1]; rfl⟩, by simp only []; omega, by kernel_rfl, rfl⟩
        · have hb2 : boundedR d f.kids[i] = false := by simpa using hb1
          rw [hb2] at hcall
          rw [all_false hlt hb2]
          refine k_seq (k_seq ?_)
          refine rv (D.int IntKind.i64 (↑i : Int)) ?_
          refine rv (D.lptr (2 : Nat) (2 : Nat)) ?_
          refine rv (D.sl (eFs (Fm.kids f)) none) ?_
          refine rve (D.int IntKind.i64 (↑(List.length (eFs (Fm.kids f))) : Int)) (.int IntKind.i64 ((↑(List.length (Fm.kids f)) : Int))) (by simp only [eFs_length]) ?_
          refine rv (D.bool (decide ((↑i : Int) < (↑(List.length (Fm.kids f)) : Int)))) ?_
          refine k_done (k_skip_seq ?_)
          refine rkn 19 (decide ((↑i : Int) < (↑(List.length (Fm.kids f)) : Int))) true (decide_eq_true (by omega)) ?_
          refine kct (k_skip_seq (k_seq (k_block (k_seq ?_))))
          refine rv (D.lptr (2 : Nat) (2 : Nat)) ?_
          refine rv (D.sl (eFs (Fm.kids f)) none) ?_
          refine rv (D.int IntKind.i64 (↑i : Int)) ?_
          refine runs_indexL (eFs (Fm.kids f)) (o := none) (kd := IntKind.i64) (i) _ (by kernel_rfl) (by kernel_rfl) (by kernel_rfl) (by assumption) (by kernel_rfl) ?_
          refine rv (D.agg [D.int IntKind.i64 (Fm.op (Fm.kids f)[i]), D.int IntKind.i64 (Fm.n (Fm.kids f)[i]), D.sl (eFs (Fm.kids (Fm.kids f)[i])) none]) ?_
          refine rv (D.int IntKind.i64 deep) ?_
          refine rve (D.int IntKind.i64 (IntKind.wrap IntKind.i64 (deep + (1 : Int)))) (.int IntKind.i64 (deep + (1 : Int))) (congrArg (D.int IntKind.i64) (show IntKind.wrap IntKind.i64 (deep + (1 : Int)) = (deep + (1 : Int)) from wrap_eq (by omega) (by omega) (by omega))) ?_
          refine runs_call ([D.agg [D.int IntKind.i64 (Fm.op (Fm.kids f)[i]), D.int IntKind.i64 (Fm.n (Fm.kids f)[i]), D.sl (eFs (Fm.kids (Fm.kids f)[i])) none], D.int IntKind.i64 (deep + (1 : Int))]) (by kernel_rfl) (by kernel_rfl) (by kernel_rfl) (by kernel_rfl) (hcall) (by kernel_rfl) ?_
          refine ra0 (D.bool false) ?_
          refine k_done (k_skip_seq (k_seq ?_))
          refine rv (D.bool false) ?_
          refine rv (D.bool true) ?_
          refine k_done (k_skip_seq (kct (k_seq ?_)))
          refine rv (D.bool false) ?_
          refine k_done (k_skip_seq (k_ret ?_))
          exact ⟨.inr rfl, by kernel_rfl, by kernel_rfl⟩
      · rw [List.take_of_length_le (by omega)] at hall
        rw [hall]
        refine k_seq (k_seq ?_)
        refine rv (D.int IntKind.i64 (↑i : Int)) ?_
        refine rv (D.lptr (2 : Nat) (2 : Nat)) ?_
        refine rv (D.sl (eFs (Fm.kids f)) none) ?_
        refine rve (D.int IntKind.i64 (↑(List.length (eFs (Fm.kids f))) : Int)) (.int IntKind.i64 ((↑(List.length (Fm.kids f)) : Int))) (by simp only [eFs_length]) ?_
        refine rv (D.bool (decide ((↑i : Int) < (↑(List.length (Fm.kids f)) : Int)))) ?_
        refine k_done (k_skip_seq ?_)
        refine rkn 19 (decide ((↑i : Int) < (↑(List.length (Fm.kids f)) : Int))) false (decide_eq_false (by omega)) ?_
        refine kcf (k_exit_seq (k_exit_back (k_exit_hit rfl (k_skip_seq (k_seq ?_)))))
        refine rv (D.bool true) ?_
        refine k_done (k_skip_seq (k_ret ?_))
        exact ⟨.inr rfl, by kernel_rfl, by kernel_rfl⟩
    · have hb : boundedR (d + 1) f = false := by
        show (decide (f.kids.length ≤ 12) && _) = _
        rw [decide_eq_false h]
        rfl
      rw [hb]
      refine k_seq ?_
      refine rgf (D.lptr (2 : Nat) (0 : Nat)) (σ) ?_
      refine rv (D.bool false) ?_
      refine k_done (k_skip_seq (k_seq (k_seq ?_)))
      refine rv (D.lptr (2 : Nat) (2 : Nat)) ?_
      refine rv (D.sl (eFs (Fm.kids f)) none) ?_
      refine rve (D.int IntKind.i64 (↑(List.length (eFs (Fm.kids f))) : Int)) (.int IntKind.i64 ((↑(List.length (Fm.kids f)) : Int))) (by simp only [eFs_length]) ?_
      refine rv (D.bool (decide ((↑(List.length (Fm.kids f)) : Int) > (12 : Int)))) ?_
      refine rv (D.bool (decide ((↑(List.length (Fm.kids f)) : Int) > (12 : Int)))) ?_
      refine rkn 11 (decide ((↑(List.length (Fm.kids f)) : Int) > (12 : Int))) true (decide_eq_true (by omega)) ?_
      refine rno (rno ?_)
      refine rv (D.bool true) ?_
      refine k_done (k_skip_seq (kct (k_seq ?_)))
      refine rv (D.bool false) ?_
      refine k_done (k_skip_seq (k_ret ?_))
      exact ⟨.inr rfl, by kernel_rfl, by kernel_rfl⟩
end Go.Abs.A
