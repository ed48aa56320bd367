import Derived.Test.YtjmhfliaehhijaaKont
import Derived.Test.YtjmhfliaehhijaaA6
set_option linter.unusedVariables false
set_option linter.unusedSimpArgs false
/-
  The document's Eval, and Atoms of both; the statement LogicEvals as the machine code sees it.
-/
namespace Go.Abs.A
open Go Go.Abs
set_option maxRecDepth 8000
attribute [local irreducible] callN runC evalOp

theorem mayR_parts {d : Nat} {f : Fm} (h : mayR (d + 1) f = true) : headOK f ∧ ∀ k ∈ f.kids, mayR d k = true := by
  simp only [mayR, Bool.and_eq_true, decide_eq_true_eq, List.all_eq_true] at h
  exact h
def cnt (p : Fm → Bool) (c : List Fm) : Nat := (c.filter p).length
theorem cnt_take {p : Fm → Bool} {c : List Fm} {i : Nat} (h : i < c.length) : cnt p (c.take (i + 1)) = if p c[i] = true then cnt p (c.take i) + 1 else cnt p (c.take i) := by
  unfold cnt
  rw [List.take_succ_eq_append_getElem h, List.filter_append, List.length_append]
  by_cases hp : p c[i] = true
  · simp [List.filter_cons, hp]
  · simp [List.filter_cons, hp]
theorem cnt_le (p : Fm → Bool) (c : List Fm) : cnt p c ≤ c.length := List.length_filter_le _ _
theorem cnt_all (p : Fm → Bool) : ∀ c : List Fm, c.all p = decide (cnt p c = c.length)
  | [] => rfl
  | x :: xs => by
    have h1 := cnt_all p xs
    have h2 := cnt_le p xs
    unfold cnt at h1 h2 ⊢
    simp only [List.all_cons, List.filter_cons]
    by_cases hp : p x = true
    · simp only [hp, if_true, Bool.true_and, h1, List.length_cons, Nat.add_right_cancel_iff]
    · simp only [hp, if_false, Bool.not_eq_true] at *
      simp only [hp, Bool.false_and, List.length_cons, Bool.false_eq_true, if_false]
      exact (decide_eq_false (by omega)).symm
theorem cnt_any (p : Fm → Bool) : ∀ c : List Fm, c.any p = decide (cnt p c > 0)
  | [] => rfl
  | x :: xs => by
    have h1 := cnt_any p xs
    unfold cnt at h1 ⊢
    simp only [List.any_cons, List.filter_cons]
    by_cases hp : p x = true
    · simp [hp]
    · have hp' : p x = false := by simpa using hp
      simp only [hp', Bool.false_or, Bool.false_eq_true, if_false, h1]

def f19 (f : Fm) (a : List Bool) (n i : Int) : Fr := Fr.mk ([.agg (eF f), .sl (bools a) none, .lptr 2 0, .junk, .bool false, .int .i64 n, .int .i64 i] ++ List.replicate 65 .junk) (bx 72 2 (eF f)) []
theorem refEval_ok : ∀ (d : Nat) (f : Fm) (a : List Bool) (o : Option Nat) (N : Nat) (σ : St), fits d f → mayR d f = true → a.length ≤ 9223372036854775807 → d + 70 ≤ N → callN T N 19 [.agg (eF f), .sl (bools a) o] σ = some (.bool (evalR d f a), σ) := by
  intro d
  induction d with
  | zero => intro f a o N σ h; exact h.elim
  | succ d ih =>
    intro f a o N σ hfit hmay ha hN
    obtain ⟨n, rfl⟩ : ∃ n, N = n + 1 := ⟨N - 1, by omega⟩
    obtain ⟨h12, hkids⟩ := hfit
    have hm := mayR_parts hmay
    obtain ⟨g1, g2, g3, g4, g5⟩ := hm.1
    refine call_of (m := m19) rfl rfl (by decide) (k_start ?_)
    unfold m19
    by_cases c1 : f.op = 1
    · have hr : evalR (d + 1) f a = true := by simp only [evalR, c1, if_true]
      rw [hr]
      refine k_seq ?_
      refine rgf (D.lptr (2 : Nat) (0 : Nat)) (σ) ?_
      refine rv (D.bool false) ?_
      refine k_done (k_skip_seq (k_seq (k_seq ?_)))
      refine rv (D.lptr (2 : Nat) (0 : Nat)) ?_
      refine rv (D.int IntKind.i64 (Fm.op f)) ?_
      refine k_done (k_skip_seq (k_block (k_seq ?_)))
      refine rv (D.bool (Fm.op f == (1 : Int))) ?_
      refine ra0 (D.bool (Fm.op f == (1 : Int))) ?_
      refine k_done (k_skip_seq ?_)
      refine rkn 9 (Fm.op f == (1 : Int)) true (decide_eq_true (by assumption)) ?_
      refine kct (k_seq ?_)
      refine rv (D.bool true) ?_
      refine k_done (k_skip_seq (k_ret ?_))
      exact ⟨.inr rfl, by kernel_rfl, by kernel_rfl⟩
    by_cases c2 : f.op = 2
    · have hr : evalR (d + 1) f a = false := by simp [evalR, c2]
      rw [hr]
      refine k_seq ?_
      refine rgf (D.lptr (2 : Nat) (0 : Nat)) (σ) ?_
      refine rv (D.bool false) ?_
      refine k_done (k_skip_seq (k_seq (k_seq ?_)))
      refine rv (D.lptr (2 : Nat) (0 : Nat)) ?_
      refine rv (D.int IntKind.i64 (Fm.op f)) ?_
      refine k_done (k_skip_seq (k_block (k_seq ?_)))
      refine rv (D.bool (Fm.op f == (1 : Int))) ?_
      refine ra0 (D.bool (Fm.op f == (1 : Int))) ?_
      refine k_done (k_skip_seq ?_)
      refine rkn 9 (Fm.op f == (1 : Int)) false (decide_eq_false (by assumption)) ?_
      refine kcf (k_seq ?_)
      refine rv (D.bool (Fm.op f == (2 : Int))) ?_
      refine ra0 (D.bool (Fm.op f == (2 : Int))) ?_
      refine k_done (k_skip_seq ?_)
      refine rkn 11 (Fm.op f == (2 : Int)) true (decide_eq_true (by assumption)) ?_
      refine kct (k_seq ?_)
      refine rv (D.bool false) ?_
      refine k_done (k_skip_seq (k_ret ?_))
      exact ⟨.inr rfl, by kernel_rfl, by kernel_rfl⟩
    by_cases c3 : f.op = 3
    · have hr : evalR (d + 1) f a = atomB f.n a := by simp only [evalR, if_neg c1, if_pos c3]
      rw [hr]
      have q1 : f.n ≥ 1 := by omega
      by_cases q2 : f.n ≤ a.length
      · have q3 : (f.n - 1).toNat < a.length := by omega
        rw [atomB_in q1 q3]
        refine k_seq ?_
        refine rgf (D.lptr (2 : Nat) (0 : Nat)) (σ) ?_
        refine rv (D.bool false) ?_
        refine k_done (k_skip_seq (k_seq (k_seq ?_)))
        refine rv (D.lptr (2 : Nat) (0 : Nat)) ?_
        refine rv (D.int IntKind.i64 (Fm.op f)) ?_
        refine k_done (k_skip_seq (k_block (k_seq ?_)))
        refine rv (D.bool (Fm.op f == (1 : Int))) ?_
        refine ra0 (D.bool (Fm.op f == (1 : Int))) ?_
        refine k_done (k_skip_seq ?_)
        refine rkn 9 (Fm.op f == (1 : Int)) false (decide_eq_false (by assumption)) ?_
        refine kcf (k_seq ?_)
        refine rv (D.bool (Fm.op f == (2 : Int))) ?_
        refine ra0 (D.bool (Fm.op f == (2 : Int))) ?_
        refine k_done (k_skip_seq ?_)
        refine rkn 11 (Fm.op f == (2 : Int)) false (decide_eq_false (by assumption)) ?_
        refine kcf (k_seq ?_)
        refine rv (D.bool (Fm.op f == (3 : Int))) ?_
        refine ra0 (D.bool (Fm.op f == (3 : Int))) ?_
        refine k_done (k_skip_seq ?_)
        refine rkn 13 (Fm.op f == (3 : Int)) true (decide_eq_true (by assumption)) ?_
        refine kct (k_seq ?_)
        refine rv (D.lptr (2 : Nat) (1 : Nat)) ?_
        refine rv (D.int IntKind.i64 (Fm.n f)) ?_
        refine rv (D.sl (bools a) none) ?_
        refine rve (D.int IntKind.i64 (↑(List.length (bools a)) : Int)) (.int IntKind.i64 ((↑(List.length a) : Int))) (by simp only [ints, eInt, rows, eInts, bools, eBool, trips, eTrip, List.length_map]) ?_
        refine rv (D.bool (decide (Fm.n f ≤ (↑(List.length a) : Int)))) ?_
        refine rv (D.bool (decide (Fm.n f ≤ (↑(List.length a) : Int)))) ?_
        refine rkn 20 (decide (Fm.n f ≤ (↑(List.length a) : Int))) true (decide_eq_true (by assumption)) ?_
        refine rv (D.sl (bools a) none) ?_
        refine rv (D.lptr (2 : Nat) (1 : Nat)) ?_
        refine rv (D.int IntKind.i64 (Fm.n f)) ?_
        refine rve (D.int IntKind.i64 (IntKind.wrap IntKind.i64 (Fm.n f - (1 : Int)))) (.int IntKind.i64 (Fm.n f - (1 : Int))) (congrArg (D.int IntKind.i64) (show IntKind.wrap IntKind.i64 (Fm.n f - (1 : Int)) = (Fm.n f - (1 : Int)) from wrap_eq (by omega) (by omega) (by omega))) ?_
        refine runs_indexI (a) (eBool) (o := none) (kd := IntKind.i64) (Fm.n f - (1 : Int)) (by kernel_rfl) (by kernel_rfl) (by kernel_rfl) (by omega) (by omega) (by kernel_rfl) ?_
        refine rv (D.bool a[Int.toNat (Fm.n f - (1 : Int))]) ?_
        refine rv (D.bool a[Int.toNat (Fm.n f - (1 : Int))]) ?_
        refine ra0 (D.bool a[Int.toNat (Fm.n f - (1 : Int))]) ?_
        refine k_done (k_skip_seq (k_ret ?_))
        exact ⟨.inr rfl, by kernel_rfl, by kernel_rfl⟩
      · have : atomB f.n a = false := by unfold atomB; rw [decide_eq_false q2]; simp
        rw [this]
        refine k_seq ?_
        refine rgf (D.lptr (2 : Nat) (0 : Nat)) (σ) ?_
        refine rv (D.bool false) ?_
        refine k_done (k_skip_seq (k_seq (k_seq ?_)))
        refine rv (D.lptr (2 : Nat) (0 : Nat)) ?_
        refine rv (D.int IntKind.i64 (Fm.op f)) ?_
        refine k_done (k_skip_seq (k_block (k_seq ?_)))
        refine rv (D.bool (Fm.op f == (1 : Int))) ?_
        refine ra0 (D.bool (Fm.op f == (1 : Int))) ?_
        refine k_done (k_skip_seq ?_)
        refine rkn 9 (Fm.op f == (1 : Int)) false (decide_eq_false (by assumption)) ?_
        refine kcf (k_seq ?_)
        refine rv (D.bool (Fm.op f == (2 : Int))) ?_
        refine ra0 (D.bool (Fm.op f == (2 : Int))) ?_
        refine k_done (k_skip_seq ?_)
        refine rkn 11 (Fm.op f == (2 : Int)) false (decide_eq_false (by assumption)) ?_
        refine kcf (k_seq ?_)
        refine rv (D.bool (Fm.op f == (3 : Int))) ?_
        refine ra0 (D.bool (Fm.op f == (3 : Int))) ?_
        refine k_done (k_skip_seq ?_)
        refine rkn 13 (Fm.op f == (3 : Int)) true (decide_eq_true (by assumption)) ?_
        refine kct (k_seq ?_)
        refine rv (D.lptr (2 : Nat) (1 : Nat)) ?_
        refine rv (D.int IntKind.i64 (Fm.n f)) ?_
        refine rv (D.sl (bools a) none) ?_
        refine rve (D.int IntKind.i64 (↑(List.length (bools a)) : Int)) (.int IntKind.i64 ((↑(List.length a) : Int))) (by simp only [ints, eInt, rows, eInts, bools, eBool, trips, eTrip, List.length_map]) ?_
        refine rv (D.bool (decide (Fm.n f ≤ (↑(List.length a) : Int)))) ?_
        refine rv (D.bool (decide (Fm.n f ≤ (↑(List.length a) : Int)))) ?_
        refine rkn 20 (decide (Fm.n f ≤ (↑(List.length a) : Int))) false (decide_eq_false (by assumption)) ?_
        refine rno (rno (rno (rno (rno (rno ?_)))))
        refine rv (D.bool false) ?_
        refine ra0 (D.bool false) ?_
        refine k_done (k_skip_seq (k_ret ?_))
        exact ⟨.inr rfl, by kernel_rfl, by kernel_rfl⟩
    by_cases c4 : f.op = 4
    · obtain ⟨k, hk⟩ := kid0_of (show f.kids.length = 1 by omega)
      have hg := kid0_get hk
      have hr : evalR (d + 1) f a = !evalR d k a := by simp only [evalR, if_neg c1, if_neg c3, if_pos c4, hk]
      rw [hr]
      have hcall := ih k a none n [] (hkids k (by rw [hk]; simp)) (hm.2 k (by rw [hk]; simp)) ha (by omega)
      refine k_seq ?_
      refine rgf (D.lptr (2 : Nat) (0 : Nat)) (σ) ?_
      refine rv (D.bool false) ?_
      refine k_done (k_skip_seq (k_seq (k_seq ?_)))
      refine rv (D.lptr (2 : Nat) (0 : Nat)) ?_
      refine rv (D.int IntKind.i64 (Fm.op f)) ?_
      refine k_done (k_skip_seq (k_block (k_seq ?_)))
      refine rv (D.bool (Fm.op f == (1 : Int))) ?_
      refine ra0 (D.bool (Fm.op f == (1 : Int))) ?_
      refine k_done (k_skip_seq ?_)
      refine rkn 9 (Fm.op f == (1 : Int)) false (decide_eq_false (by assumption)) ?_
      refine kcf (k_seq ?_)
      refine rv (D.bool (Fm.op f == (2 : Int))) ?_
      refine ra0 (D.bool (Fm.op f == (2 : Int))) ?_
      refine k_done (k_skip_seq ?_)
      refine rkn 11 (Fm.op f == (2 : Int)) false (decide_eq_false (by assumption)) ?_
      refine kcf (k_seq ?_)
      refine rv (D.bool (Fm.op f == (3 : Int))) ?_
      refine ra0 (D.bool (Fm.op f == (3 : Int))) ?_
      refine k_done (k_skip_seq ?_)
      refine rkn 13 (Fm.op f == (3 : Int)) false (decide_eq_false (by assumption)) ?_
      refine kcf (k_seq ?_)
      refine rv (D.bool (Fm.op f == (4 : Int))) ?_
      refine ra0 (D.bool (Fm.op f == (4 : Int))) ?_
      refine k_done (k_skip_seq ?_)
      refine rkn 28 (Fm.op f == (4 : Int)) true (decide_eq_true (by assumption)) ?_
      refine kct (k_seq ?_)
      refine rv (D.lptr (2 : Nat) (2 : Nat)) ?_
      refine rv (D.sl (eFs (Fm.kids f)) none) ?_
      refine runs_indexL (eFs (Fm.kids f)) (o := none) (kd := IntKind.i64) (0) _ (by kernel_rfl) (by kernel_rfl) (by kernel_rfl) (by assumption) (by kernel_rfl) ?_
      refine rv (D.agg [D.int IntKind.i64 (Fm.op k), D.int IntKind.i64 (Fm.n k), D.sl (eFs (Fm.kids k)) none]) ?_
      refine rv (D.sl (bools a) none) ?_
      refine runs_call ([D.agg [D.int IntKind.i64 (Fm.op k), D.int IntKind.i64 (Fm.n k), D.sl (eFs (Fm.kids k)) none], D.sl (bools a) none]) (by kernel_rfl) (by kernel_rfl) (by kernel_rfl) (by kernel_rfl) (hcall) (by kernel_rfl) ?_
      refine rv (D.bool !evalR d k a) ?_
      refine ra0 (D.bool !evalR d k a) ?_
      refine k_done (k_skip_seq (k_ret ?_))
      exact ⟨.inr rfl, by kernel_rfl, by kernel_rfl⟩
    by_cases c5 : f.op = 5
    · have hr : evalR (d + 1) f a = decide (cnt (evalR d · a) f.kids = f.kids.length) := by
        rw [← cnt_all]
        simp only [evalR, if_neg c1, if_neg c3, if_neg c4, if_pos c5]
      rw [hr]
      refine k_seq ?_
      refine rgf (D.lptr (2 : Nat) (0 : Nat)) (σ) ?_
      refine rv (D.bool false) ?_
      refine k_done (k_skip_seq (k_seq (k_seq ?_)))
      refine rv (D.lptr (2 : Nat) (0 : Nat)) ?_
      refine rv (D.int IntKind.i64 (Fm.op f)) ?_
      refine k_done (k_skip_seq (k_block (k_seq ?_)))
      refine rv (D.bool (Fm.op f == (1 : Int))) ?_
      refine ra0 (D.bool (Fm.op f == (1 : Int))) ?_
      refine k_done (k_skip_seq ?_)
      refine rkn 9 (Fm.op f == (1 : Int)) false (decide_eq_false (by assumption)) ?_
      refine kcf (k_seq ?_)
      refine rv (D.bool (Fm.op f == (2 : Int))) ?_
      refine ra0 (D.bool (Fm.op f == (2 : Int))) ?_
      refine k_done (k_skip_seq ?_)
      refine rkn 11 (Fm.op f == (2 : Int)) false (decide_eq_false (by assumption)) ?_
      refine kcf (k_seq ?_)
      refine rv (D.bool (Fm.op f == (3 : Int))) ?_
      refine ra0 (D.bool (Fm.op f == (3 : Int))) ?_
      refine k_done (k_skip_seq ?_)
      refine rkn 13 (Fm.op f == (3 : Int)) false (decide_eq_false (by assumption)) ?_
      refine kcf (k_seq ?_)
      refine rv (D.bool (Fm.op f == (4 : Int))) ?_
      refine ra0 (D.bool (Fm.op f == (4 : Int))) ?_
      refine k_done (k_skip_seq ?_)
      refine rkn 28 (Fm.op f == (4 : Int)) false (decide_eq_false (by assumption)) ?_
      refine kcf (k_skip_block (k_skip_seq (k_seq ?_)))
      refine rv (D.int IntKind.i64 (0 : Int)) ?_
      refine k_done (k_skip_seq (k_seq (k_seq ?_)))
      refine rv (D.int IntKind.i64 (0 : Int)) ?_
      refine k_done (k_skip_seq (k_block ?_))
      refine k_loop (fun i : Nat => f19 f a (cnt (evalR d · a) (f.kids.take i)) i) (fun _ => σ) (fun i => i ≤ f.kids.length) (fun i => f.kids.length - i) 0 (by kernel_rfl) rfl (by simp) (by intro s hs; omega) ?_
      intro i hi
      have hcl := cnt_le (evalR d · a) (f.kids.take i)
      have hct := fun h => cnt_take (p := (evalR d · a)) (c := f.kids) (i := i) h
      have htl : (f.kids.take i).length ≤ 60 := by simp; omega
      by_cases hlt : i < f.kids.length
      · have hg := kid_at hlt
        have hcall := ih f.kids[i] a none n [] (hkids _ (List.getElem_mem hlt)) (hm.2 _ (List.getElem_mem hlt)) ha (by omega)
        generalize cnt (evalR d · a) (f.kids.take i) = m at *
        have h1 := hct hlt
        by_cases hb1 : evalR d f.kids[i] a = true
        · rw [hb1] at hcall
          rw [if_pos hb1] at h1
          refine k_seq (k_seq ?_)
          refine rv (D.int IntKind.i64 (↑i : Int)) ?_
          refine rv (D.lptr (2 : Nat) (2 : Nat)) ?_
          refine rv (D.sl (eFs (Fm.kids f)) none) ?_
          refine rve (D.int IntKind.i64 (↑(List.length (eFs (Fm.kids f))) : Int)) (.int IntKind.i64 ((↑(List.length (Fm.kids f)) : Int))) (by simp only [eFs_length]) ?_
          refine rv (D.bool (decide ((↑i : Int) < (↑(List.length (Fm.kids f)) : Int)))) ?_
          refine k_done (k_skip_seq ?_)
          refine rkn 41 (decide ((↑i : Int) < (↑(List.length (Fm.kids f)) : Int))) true (decide_eq_true (by omega)) ?_
          refine kct (k_skip_seq (k_seq (k_block (k_seq ?_))))
          refine rv (D.lptr (2 : Nat) (2 : Nat)) ?_
          refine rv (D.sl (eFs (Fm.kids f)) none) ?_
          refine rv (D.int IntKind.i64 (↑i : Int)) ?_
          refine runs_indexL (eFs (Fm.kids f)) (o := none) (kd := IntKind.i64) (i) _ (by kernel_rfl) (by kernel_rfl) (by kernel_rfl) (by assumption) (by kernel_rfl) ?_
          refine rv (D.agg [D.int IntKind.i64 (Fm.op (Fm.kids f)[i]), D.int IntKind.i64 (Fm.n (Fm.kids f)[i]), D.sl (eFs (Fm.kids (Fm.kids f)[i])) none]) ?_
          refine rv (D.sl (bools a) none) ?_
          refine runs_call ([D.agg [D.int IntKind.i64 (Fm.op (Fm.kids f)[i]), D.int IntKind.i64 (Fm.n (Fm.kids f)[i]), D.sl (eFs (Fm.kids (Fm.kids f)[i])) none], D.sl (bools a) none]) (by kernel_rfl) (by kernel_rfl) (by kernel_rfl) (by kernel_rfl) (hcall) (by kernel_rfl) ?_
          refine k_done (k_skip_seq (kct ?_))
          refine rv (D.int IntKind.i64 (↑m : Int)) ?_
          refine rve (D.int IntKind.i64 (IntKind.wrap IntKind.i64 ((↑m : Int) + (1 : Int)))) (.int IntKind.i64 ((m + 1 : Nat) : Int)) (congrArg (D.int IntKind.i64) (show IntKind.wrap IntKind.i64 ((↑m : Int) + (1 : Int)) = ((m + 1 : Nat) : Int) from wrap_eq (by omega) (by omega) (by omega))) ?_
          refine ra0 (D.int IntKind.i64 (↑(m + (1 : Nat)) : Int)) ?_
          refine k_done (k_skip_block (k_skip_seq ?_))
          refine rv (D.int IntKind.i64 (↑i : Int)) ?_
          refine rve (D.int IntKind.i64 (IntKind.wrap IntKind.i64 ((↑i : Int) + (1 : Int)))) (.int IntKind.i64 ((i + 1 : Nat) : Int)) (congrArg (D.int IntKind.i64) (show IntKind.wrap IntKind.i64 ((↑i : Int) + (1 : Int)) = ((i + 1 : Nat) : Int) from wrap_eq (by omega) (by omega) (by omega))) ?_
          refine ra0 (D.int IntKind.i64 (↑(i + (1 : Nat)) : Int)) ?_
          refine k_done (k_skip_back ?_)
          exact ⟨i + 1, hlt, by omega, by rw [h1]; kernel_rfl, rfl⟩
        · have hb2 : evalR d f.kids[i] a = false := by simpa using hb1
          rw [hb2] at hcall
          rw [if_neg hb1] at h1
          refine k_seq (k_seq ?_)
          refine rv (D.int IntKind.i64 (↑i : Int)) ?_
          refine rv (D.lptr (2 : Nat) (2 : Nat)) ?_
          refine rv (D.sl (eFs (Fm.kids f)) none) ?_
          refine rve (D.int IntKind.i64 (↑(List.length (eFs (Fm.kids f))) : Int)) (.int IntKind.i64 ((↑(List.length (Fm.kids f)) : Int))) (by simp only [eFs_length]) ?_
          refine rv (D.bool (decide ((↑i : Int) < (↑(List.length (Fm.kids f)) : Int)))) ?_
          refine k_done (k_skip_seq ?_)
          refine rkn 41 (decide ((↑i : Int) < (↑(List.length (Fm.kids f)) : Int))) true (decide_eq_true (by omega)) ?_
          refine kct (k_skip_seq (k_seq (k_block (k_seq ?_))))
          refine rv (D.lptr (2 : Nat) (2 : Nat)) ?_
          refine rv (D.sl (eFs (Fm.kids f)) none) ?_
          refine rv (D.int IntKind.i64 (↑i : Int)) ?_
          refine runs_indexL (eFs (Fm.kids f)) (o := none) (kd := IntKind.i64) (i) _ (by kernel_rfl) (by kernel_rfl) (by kernel_rfl) (by assumption) (by kernel_rfl) ?_
          refine rv (D.agg [D.int IntKind.i64 (Fm.op (Fm.kids f)[i]), D.int IntKind.i64 (Fm.n (Fm.kids f)[i]), D.sl (eFs (Fm.kids (Fm.kids f)[i])) none]) ?_
          refine rv (D.sl (bools a) none) ?_
          refine runs_call ([D.agg [D.int IntKind.i64 (Fm.op (Fm.kids f)[i]), D.int IntKind.i64 (Fm.n (Fm.kids f)[i]), D.sl (eFs (Fm.kids (Fm.kids f)[i])) none], D.sl (bools a) none]) (by kernel_rfl) (by kernel_rfl) (by kernel_rfl) (by kernel_rfl) (hcall) (by kernel_rfl) ?_
          refine k_done (k_skip_seq (kcf (k_skip_block (k_skip_seq ?_))))
          refine rv (D.int IntKind.i64 (↑i : Int)) ?_
          refine rve (D.int IntKind.i64 (IntKind.wrap IntKind.i64 ((↑i : Int) + (1 : Int)))) (.int IntKind.i64 ((i + 1 : Nat) : Int)) (congrArg (D.int IntKind.i64) (show IntKind.wrap IntKind.i64 ((↑i : Int) + (1 : Int)) = ((i + 1 : Nat) : Int) from wrap_eq (by omega) (by omega) (by omega))) ?_
          refine ra0 (D.int IntKind.i64 (↑(i + (1 : Nat)) : Int)) ?_
          refine k_done (k_skip_back ?_)
          exact ⟨i + 1, hlt, by omega, by rw [h1]; kernel_rfl, rfl⟩
      · rw [List.take_of_length_le (by omega)]
        generalize cnt (evalR d · a) f.kids = m at *
        by_cases q : m = f.kids.length
        · rw [decide_eq_true q]
          refine k_seq (k_seq ?_)
          refine rv (D.int IntKind.i64 (↑i : Int)) ?_
          refine rv (D.lptr (2 : Nat) (2 : Nat)) ?_
          refine rv (D.sl (eFs (Fm.kids f)) none) ?_
          refine rve (D.int IntKind.i64 (↑(List.length (eFs (Fm.kids f))) : Int)) (.int IntKind.i64 ((↑(List.length (Fm.kids f)) : Int))) (by simp only [eFs_length]) ?_
          refine rv (D.bool (decide ((↑i : Int) < (↑(List.length (Fm.kids f)) : Int)))) ?_
          refine k_done (k_skip_seq ?_)
          refine rkn 41 (decide ((↑i : Int) < (↑(List.length (Fm.kids f)) : Int))) false (decide_eq_false (by omega)) ?_
          refine kcf (k_exit_seq (k_exit_back (k_exit_hit rfl (k_skip_seq (k_seq ?_)))))
          refine rv (D.lptr (2 : Nat) (0 : Nat)) ?_
          refine rv (D.int IntKind.i64 (Fm.op f)) ?_
          refine rv (D.bool (Fm.op f == (5 : Int))) ?_
          refine rv (D.bool (Fm.op f == (5 : Int))) ?_
          refine rkn 56 (Fm.op f == (5 : Int)) true (decide_eq_true (by assumption)) ?_
          refine rv (D.int IntKind.i64 (↑m : Int)) ?_
          refine rv (D.lptr (2 : Nat) (2 : Nat)) ?_
          refine rv (D.sl (eFs (Fm.kids f)) none) ?_
          refine rve (D.int IntKind.i64 (↑(List.length (eFs (Fm.kids f))) : Int)) (.int IntKind.i64 ((↑(List.length (Fm.kids f)) : Int))) (by simp only [eFs_length]) ?_
          refine rv (D.bool ((↑m : Int) == (↑(List.length (Fm.kids f)) : Int))) ?_
          refine rv (D.bool ((↑m : Int) == (↑(List.length (Fm.kids f)) : Int))) ?_
          refine rv (D.bool ((↑m : Int) == (↑(List.length (Fm.kids f)) : Int))) ?_
          refine rkn 63 ((↑m : Int) == (↑(List.length (Fm.kids f)) : Int)) true (decide_eq_true (by omega)) ?_
          refine rno (rno (rno (rno (rno (rno (rno ?_))))))
          refine rv (D.bool true) ?_
          refine ra0 (D.bool true) ?_
          refine k_done (k_skip_seq (k_ret ?_))
          exact ⟨.inr rfl, by kernel_rfl, by kernel_rfl⟩
        · rw [decide_eq_false q]
          refine k_seq (k_seq ?_)
          refine rv (D.int IntKind.i64 (↑i : Int)) ?_
          refine rv (D.lptr (2 : Nat) (2 : Nat)) ?_
          refine rv (D.sl (eFs (Fm.kids f)) none) ?_
          refine rve (D.int IntKind.i64 (↑(List.length (eFs (Fm.kids f))) : Int)) (.int IntKind.i64 ((↑(List.length (Fm.kids f)) : Int))) (by simp only [eFs_length]) ?_
          refine rv (D.bool (decide ((↑i : Int) < (↑(List.length (Fm.kids f)) : Int)))) ?_
          refine k_done (k_skip_seq ?_)
          refine rkn 41 (decide ((↑i : Int) < (↑(List.length (Fm.kids f)) : Int))) false (decide_eq_false (by omega)) ?_
          refine kcf (k_exit_seq (k_exit_back (k_exit_hit rfl (k_skip_seq (k_seq ?_)))))
          refine rv (D.lptr (2 : Nat) (0 : Nat)) ?_
          refine rv (D.int IntKind.i64 (Fm.op f)) ?_
          refine rv (D.bool (Fm.op f == (5 : Int))) ?_
          refine rv (D.bool (Fm.op f == (5 : Int))) ?_
          refine rkn 56 (Fm.op f == (5 : Int)) true (decide_eq_true (by assumption)) ?_
          refine rv (D.int IntKind.i64 (↑m : Int)) ?_
          refine rv (D.lptr (2 : Nat) (2 : Nat)) ?_
          refine rv (D.sl (eFs (Fm.kids f)) none) ?_
          refine rve (D.int IntKind.i64 (↑(List.length (eFs (Fm.kids f))) : Int)) (.int IntKind.i64 ((↑(List.length (Fm.kids f)) : Int))) (by simp only [eFs_length]) ?_
          refine rv (D.bool ((↑m : Int) == (↑(List.length (Fm.kids f)) : Int))) ?_
          refine rv (D.bool ((↑m : Int) == (↑(List.length (Fm.kids f)) : Int))) ?_
          refine rv (D.bool ((↑m : Int) == (↑(List.length (Fm.kids f)) : Int))) ?_
          refine rkn 63 ((↑m : Int) == (↑(List.length (Fm.kids f)) : Int)) false (decide_eq_false (by omega)) ?_
          refine rv (D.lptr (2 : Nat) (0 : Nat)) ?_
          refine rv (D.int IntKind.i64 (Fm.op f)) ?_
          refine rv (D.bool (Fm.op f == (6 : Int))) ?_
          refine rv (D.bool (Fm.op f == (6 : Int))) ?_
          refine rkn 67 (Fm.op f == (6 : Int)) false (decide_eq_false (by omega)) ?_
          refine rno (rno ?_)
          refine rv (D.bool false) ?_
          refine rv (D.bool false) ?_
          refine ra0 (D.bool false) ?_
          refine k_done (k_skip_seq (k_ret ?_))
          exact ⟨.inr rfl, by kernel_rfl, by kernel_rfl⟩
    · have c6 : f.op = 6 := by omega
      have hr : evalR (d + 1) f a = decide (cnt (evalR d · a) f.kids > 0) := by
        rw [← cnt_any]
        simp only [evalR, if_neg c1, if_neg c3, if_neg c4, if_neg c5, if_pos c6]
      rw [hr]
      refine k_seq ?_
      refine rgf (D.lptr (2 : Nat) (0 : Nat)) (σ) ?_
      refine rv (D.bool false) ?_
      refine k_done (k_skip_seq (k_seq (k_seq ?_)))
      refine rv (D.lptr (2 : Nat) (0 : Nat)) ?_
      refine rv (D.int IntKind.i64 (Fm.op f)) ?_
      refine k_done (k_skip_seq (k_block (k_seq ?_)))
      refine rv (D.bool (Fm.op f == (1 : Int))) ?_
      refine ra0 (D.bool (Fm.op f == (1 : Int))) ?_
      refine k_done (k_skip_seq ?_)
      refine rkn 9 (Fm.op f == (1 : Int)) false (decide_eq_false (by assumption)) ?_
      refine kcf (k_seq ?_)
      refine rv (D.bool (Fm.op f == (2 : Int))) ?_
      refine ra0 (D.bool (Fm.op f == (2 : Int))) ?_
      refine k_done (k_skip_seq ?_)
      refine rkn 11 (Fm.op f == (2 : Int)) false (decide_eq_false (by assumption)) ?_
      refine kcf (k_seq ?_)
      refine rv (D.bool (Fm.op f == (3 : Int))) ?_
      refine ra0 (D.bool (Fm.op f == (3 : Int))) ?_
      refine k_done (k_skip_seq ?_)
      refine rkn 13 (Fm.op f == (3 : Int)) false (decide_eq_false (by assumption)) ?_
      refine kcf (k_seq ?_)
      refine rv (D.bool (Fm.op f == (4 : Int))) ?_
      refine ra0 (D.bool (Fm.op f == (4 : Int))) ?_
      refine k_done (k_skip_seq ?_)
      refine rkn 28 (Fm.op f == (4 : Int)) false (decide_eq_false (by assumption)) ?_
      refine kcf (k_skip_block (k_skip_seq (k_seq ?_)))
      refine rv (D.int IntKind.i64 (0 : Int)) ?_
      refine k_done (k_skip_seq (k_seq (k_seq ?_)))
      refine rv (D.int IntKind.i64 (0 : Int)) ?_
      refine k_done (k_skip_seq (k_block ?_))
      refine k_loop (fun i : Nat => f19 f a (cnt (evalR d · a) (f.kids.take i)) i) (fun _ => σ) (fun i => i ≤ f.kids.length) (fun i => f.kids.length - i) 0 (by kernel_rfl) rfl (by simp) (by intro s hs; omega) ?_
      intro i hi
      have hcl := cnt_le (evalR d · a) (f.kids.take i)
      have hct := fun h => cnt_take (p := (evalR d · a)) (c := f.kids) (i := i) h
      have htl : (f.kids.take i).length ≤ 60 := by simp; omega
      by_cases hlt : i < f.kids.length
      · have hg := kid_at hlt
        have hcall := ih f.kids[i] a none n [] (hkids _ (List.getElem_mem hlt)) (hm.2 _ (List.getElem_mem hlt)) ha (by omega)
        generalize cnt (evalR d · a) (f.kids.take i) = m at *
        have h1 := hct hlt
        by_cases hb1 : evalR d f.kids[i] a = true
        · rw [hb1] at hcall
          rw [if_pos hb1] at h1
          refine k_seq (k_seq ?_)
          refine rv (D.int IntKind.i64 (↑i : Int)) ?_
          refine rv (D.lptr (2 : Nat) (2 : Nat)) ?_
          refine rv (D.sl (eFs (Fm.kids f)) none) ?_
          refine rve (D.int IntKind.i64 (↑(List.length (eFs (Fm.kids f))) : Int)) (.int IntKind.i64 ((↑(List.length (Fm.kids f)) : Int))) (by simp only [eFs_length]) ?_
          refine rv (D.bool (decide ((↑i : Int) < (↑(List.length (Fm.kids f)) : Int)))) ?_
          refine k_done (k_skip_seq ?_)
          refine rkn 41 (decide ((↑i : Int) < (↑(List.length (Fm.kids f)) : Int))) true (decide_eq_true (by omega)) ?_
          refine kct (k_skip_seq (k_seq (k_block (k_seq ?_))))
          refine rv (D.lptr (2 : Nat) (2 : Nat)) ?_
          refine rv (D.sl (eFs (Fm.kids f)) none) ?_
          refine rv (D.int IntKind.i64 (↑i : Int)) ?_
          refine runs_indexL (eFs (Fm.kids f)) (o := none) (kd := IntKind.i64) (i) _ (by kernel_rfl) (by kernel_rfl) (by kernel_rfl) (by assumption) (by kernel_rfl) ?_
          refine rv (D.agg [D.int IntKind.i64 (Fm.op (Fm.kids f)[i]), D.int IntKind.i64 (Fm.n (Fm.kids f)[i]), D.sl (eFs (Fm.kids (Fm.kids f)[i])) none]) ?_
          refine rv (D.sl (bools a) none) ?_
          refine runs_call ([D.agg [D.int IntKind.i64 (Fm.op (Fm.kids f)[i]), D.int IntKind.i64 (Fm.n (Fm.kids f)[i]), D.sl (eFs (Fm.kids (Fm.kids f)[i])) none], D.sl (bools a) none]) (by kernel_rfl) (by kernel_rfl) (by kernel_rfl) (by kernel_rfl) (hcall) (by kernel_rfl) ?_
          refine k_done (k_skip_seq (kct ?_))
          refine rv (D.int IntKind.i64 (↑m : Int)) ?_
          refine rve (D.int IntKind.i64 (IntKind.wrap IntKind.i64 ((↑m : Int) + (1 : Int)))) (.int IntKind.i64 ((m + 1 : Nat) : Int)) (congrArg (D.int IntKind.i64) (show IntKind.wrap IntKind.i64 ((↑m : Int) + (1 : Int)) = ((m + 1 : Nat) : Int) from wrap_eq (by omega) (by omega) (by omega))) ?_
          refine ra0 (D.int IntKind.i64 (↑(m + (1 : Nat)) : Int)) ?_
          refine k_done (k_skip_block (k_skip_seq ?_))
          refine rv (D.int IntKind.i64 (↑i : Int)) ?_
          refine rve (D.int IntKind.i64 (IntKind.wrap IntKind.i64 ((↑i : Int) + (1 : Int)))) (.int IntKind.i64 ((i + 1 : Nat) : Int)) (congrArg (D.int IntKind.i64) (show IntKind.wrap IntKind.i64 ((↑i : Int) + (1 : Int)) = ((i + 1 : Nat) : Int) from wrap_eq (by omega) (by omega) (by omega))) ?_
          refine ra0 (D.int IntKind.i64 (↑(i + (1 : Nat)) : Int)) ?_
          refine k_done (k_skip_back ?_)
          exact ⟨i + 1, hlt, by omega, by rw [h1]; kernel_rfl, rfl⟩
        · have hb2 : evalR d f.kids[i] a = false := by simpa using hb1
          rw [hb2] at hcall
          rw [if_neg hb1] at h1
          refine k_seq (k_seq ?_)
          refine rv (D.int IntKind.i64 (↑i : Int)) ?_
          refine rv (D.lptr (2 : Nat) (2 : Nat)) ?_
          refine rv (D.sl (eFs (Fm.kids f)) none) ?_
          refine rve (D.int IntKind.i64 (↑(List.length (eFs (Fm.kids f))) : Int)) (.int IntKind.i64 ((↑(List.length (Fm.kids f)) : Int))) (by simp only [eFs_length]) ?_
          refine rv (D.bool (decide ((↑i : Int) < (↑(List.length (Fm.kids f)) : Int)))) ?_
          refine k_done (k_skip_seq ?_)
          refine rkn 41 (decide ((↑i : Int) < (↑(List.length (Fm.kids f)) : Int))) true (decide_eq_true (by omega)) ?_
          refine kct (k_skip_seq (k_seq (k_block (k_seq ?_))))
          refine rv (D.lptr (2 : Nat) (2 : Nat)) ?_
          refine rv (D.sl (eFs (Fm.kids f)) none) ?_
          refine rv (D.int IntKind.i64 (↑i : Int)) ?_
          refine runs_indexL (eFs (Fm.kids f)) (o := none) (kd := IntKind.i64) (i) _ (by kernel_rfl) (by kernel_rfl) (by kernel_rfl) (by assumption) (by kernel_rfl) ?_
          refine rv (D.agg [D.int IntKind.i64 (Fm.op (Fm.kids f)[i]), D.int IntKind.i64 (Fm.n (Fm.kids f)[i]), D.sl (eFs (Fm.kids (Fm.kids f)[i])) none]) ?_
          refine rv (D.sl (bools a) none) ?_
          refine runs_call ([D.agg [D.int IntKind.i64 (Fm.op (Fm.kids f)[i]), D.int IntKind.i64 (Fm.n (Fm.kids f)[i]), D.sl (eFs (Fm.kids (Fm.kids f)[i])) none], D.sl (bools a) none]) (by kernel_rfl) (by kernel_rfl) (by kernel_rfl) (by kernel_rfl) (hcall) (by kernel_rfl) ?_
          refine k_done (k_skip_seq (kcf (k_skip_block (k_skip_seq ?_))))
          refine rv (D.int IntKind.i64 (↑i : Int)) ?_
          refine rve (D.int IntKind.i64 (IntKind.wrap IntKind.i64 ((↑i : Int) + (1 : Int)))) (.int IntKind.i64 ((i + 1 : Nat) : Int)) (congrArg (D.int IntKind.i64) (show IntKind.wrap IntKind.i64 ((↑i : Int) + (1 : Int)) = ((i + 1 : Nat) : Int) from wrap_eq (by omega) (by omega) (by omega))) ?_
          refine ra0 (D.int IntKind.i64 (↑(i + (1 : Nat)) : Int)) ?_
          refine k_done (k_skip_back ?_)
          exact ⟨i + 1, hlt, by omega, by rw [h1]; kernel_rfl, rfl⟩
      · rw [List.take_of_length_le (by omega)]
        generalize cnt (evalR d · a) f.kids = m at *
        rw [show decide (m > 0) = decide ((m : Int) > 0) from by simp]
        refine k_seq (k_seq ?_)
        refine rv (D.int IntKind.i64 (↑i : Int)) ?_
        refine rv (D.lptr (2 : Nat) (2 : Nat)) ?_
        refine rv (D.sl (eFs (Fm.kids f)) none) ?_
        refine rve (D.int IntKind.i64 (↑(List.length (eFs (Fm.kids f))) : Int)) (.int IntKind.i64 ((↑(List.length (Fm.kids f)) : Int))) (by simp only [eFs_length]) ?_
        refine rv (D.bool (decide ((↑i : Int) < (↑(List.length (Fm.kids f)) : Int)))) ?_
        refine k_done (k_skip_seq ?_)
        refine rkn 41 (decide ((↑i : Int) < (↑(List.length (Fm.kids f)) : Int))) false (decide_eq_false (by omega)) ?_
        refine kcf (k_exit_seq (k_exit_back (k_exit_hit rfl (k_skip_seq (k_seq ?_)))))
        refine rv (D.lptr (2 : Nat) (0 : Nat)) ?_
        refine rv (D.int IntKind.i64 (Fm.op f)) ?_
        refine rv (D.bool (Fm.op f == (5 : Int))) ?_
        refine rv (D.bool (Fm.op f == (5 : Int))) ?_
        refine rkn 56 (Fm.op f == (5 : Int)) false (decide_eq_false (by assumption)) ?_
        refine rno (rno (rno (rno (rno ?_))))
        refine rv (D.bool false) ?_
        refine rv (D.bool false) ?_
        refine rv (D.lptr (2 : Nat) (0 : Nat)) ?_
        refine rv (D.int IntKind.i64 (Fm.op f)) ?_
        refine rv (D.bool (Fm.op f == (6 : Int))) ?_
        refine rv (D.bool (Fm.op f == (6 : Int))) ?_
        refine rkn 67 (Fm.op f == (6 : Int)) true (decide_eq_true (by assumption)) ?_
        refine rv (D.int IntKind.i64 (↑m : Int)) ?_
        refine rv (D.bool (decide ((↑m : Int) > (0 : Int)))) ?_
        refine rv (D.bool (decide ((↑m : Int) > (0 : Int)))) ?_
        refine rv (D.bool (decide ((↑m : Int) > (0 : Int)))) ?_
        refine ra0 (D.bool (decide ((↑m : Int) > (0 : Int)))) ?_
        refine k_done (k_skip_seq (k_ret ?_))
        exact ⟨.inr rfl, by kernel_rfl, by kernel_rfl⟩

/-- The greatest atom. -/
def atom0 (f : Fm) : Int := if f.op = 3 then (if 0 > f.n then 0 else f.n) else 0
def atomsR : Nat → Fm → Int
  | 0, _ => 0
  | d + 1, f => f.kids.foldl (fun n k => if atomsR d k > n then atomsR d k else n) (atom0 f)
def f20 (f : Fm) (n i : Int) : Fr := Fr.mk ([.agg (eF f), .junk, .int .i64 0, .int .i64 n, .junk, .junk, .junk, .junk, .junk, .junk, .junk, .junk, .junk, .sl (eFs f.kids) none, .int .i64 f.kids.length, .int .i64 i] ++ List.replicate 9 .junk) (List.replicate 25 none) []
theorem atoms_ok : ∀ (d : Nat) (f : Fm) (N : Nat) (σ : St), fits d f → d + 70 ≤ N → callN T N 20 [.agg (eF f)] σ = some (.int .i64 (atomsR d f), σ) := by
  intro d
  induction d with
  | zero => intro f N σ h; exact h.elim
  | succ d ih =>
    intro f N σ hfit hN
    obtain ⟨n, rfl⟩ : ∃ n, N = n + 1 := ⟨N - 1, by omega⟩
    obtain ⟨h12, hkids⟩ := hfit
    refine call_of (m := m20) rfl rfl (by decide) (k_start ?_)
    unfold m20
    by_cases c3 : f.op = 3
    · have ha0 : atom0 f = if 0 > f.n then 0 else f.n := if_pos c3
      refine k_seq ?_
      refine rgf (D.lptr (1 : Nat) (0 : Nat)) (σ) ?_
      refine rv (D.int IntKind.i64 (0 : Int)) ?_
      refine k_done (k_skip_seq (k_seq ?_))
      refine rv (D.int IntKind.i64 (0 : Int)) ?_
      refine k_done (k_skip_seq (k_seq (k_seq ?_)))
      refine rv (D.lptr (1 : Nat) (0 : Nat)) ?_
      refine rv (D.int IntKind.i64 (Fm.op f)) ?_
      refine rv (D.bool (Fm.op f == (3 : Int))) ?_
      refine k_done (k_skip_seq ?_)
      refine rkn 8 (Fm.op f == (3 : Int)) true (decide_eq_true (by assumption)) ?_
      refine kct ?_
      refine rv (D.lptr (1 : Nat) (1 : Nat)) ?_
      refine rv (D.int IntKind.i64 (Fm.n f)) ?_
      refine rv (D.int IntKind.i64 (if (0 : Int) > Fm.n f then (0 : Int) else Fm.n f)) ?_
      refine ra0 (D.int IntKind.i64 (if (0 : Int) > Fm.n f then (0 : Int) else Fm.n f)) ?_
      refine k_done (k_skip_seq (k_seq (k_seq ?_)))
      refine rv (D.lptr (1 : Nat) (2 : Nat)) ?_
      refine rv (D.sl (eFs (Fm.kids f)) none) ?_
      refine rve (D.int IntKind.i64 (↑(List.length (eFs (Fm.kids f))) : Int)) (.int IntKind.i64 ((↑(List.length (Fm.kids f)) : Int))) (by simp only [eFs_length]) ?_
      refine rv (D.int IntKind.i64 (0 : Int)) ?_
      refine k_done (k_skip_seq (k_block ?_))
      refine k_loop (fun i : Nat => f20 f ((f.kids.take i).foldl (fun n k => if atomsR d k > n then atomsR d k else n) (atom0 f)) i) (fun _ => σ) (fun i => i ≤ f.kids.length) (fun i => f.kids.length - i) 0 (by rw [List.take_zero, List.foldl_nil, ha0]; kernel_rfl) rfl (by simp) (by intro s hs; omega) ?_
      intro i hi
      have hft := fun h => foldl_take (g := fun (n : Int) k => if atomsR d k > n then atomsR d k else n) (b := atom0 f) (c := f.kids) (i := i) h
      by_cases hlt : i < f.kids.length
      · have hg := kid_at hlt
        have hcall := ih f.kids[i] n [] (hkids _ (List.getElem_mem hlt)) (by omega)
        generalize (f.kids.take i).foldl (fun n k => if atomsR d k > n then atomsR d k else n) (atom0 f) = m at *
        refine k_seq ?_
        refine rv (D.bool (decide ((↑i : Int) < (↑(List.length (Fm.kids f)) : Int)))) ?_
        refine k_done (k_skip_seq (k_seq ?_))
        refine rkn 16 (decide ((↑i : Int) < (↑(List.length (Fm.kids f)) : Int))) true (decide_eq_true (by omega)) ?_
        refine kct (k_skip_seq (k_seq (k_block (k_seq ?_))))
        refine runs_indexL (eFs (Fm.kids f)) (o := none) (kd := IntKind.i64) (i) _ (by kernel_rfl) (by kernel_rfl) (by kernel_rfl) (by assumption) (by kernel_rfl) ?_
        refine rv (D.agg [D.int IntKind.i64 (Fm.op (Fm.kids f)[i]), D.int IntKind.i64 (Fm.n (Fm.kids f)[i]), D.sl (eFs (Fm.kids (Fm.kids f)[i])) none]) ?_
        refine rgf (D.lptr (5 : Nat) (0 : Nat)) (σ) ?_
        refine rgf (D.junk) (σ) ?_
        refine k_done (k_skip_seq ?_)
        refine rv (D.int IntKind.i64 m) ?_
        refine rv (D.agg [D.int IntKind.i64 (Fm.op (Fm.kids f)[i]), D.int IntKind.i64 (Fm.n (Fm.kids f)[i]), D.sl (eFs (Fm.kids (Fm.kids f)[i])) none]) ?_
        refine runs_call ([D.agg [D.int IntKind.i64 (Fm.op (Fm.kids f)[i]), D.int IntKind.i64 (Fm.n (Fm.kids f)[i]), D.sl (eFs (Fm.kids (Fm.kids f)[i])) none]]) (by kernel_rfl) (by kernel_rfl) (by kernel_rfl) (by kernel_rfl) (hcall) (by kernel_rfl) ?_
        refine rv (D.int IntKind.i64 (if atomsR d (Fm.kids f)[i] > m then atomsR d (Fm.kids f)[i] else m)) ?_
        refine ra0 (D.int IntKind.i64 (if atomsR d (Fm.kids f)[i] > m then atomsR d (Fm.kids f)[i] else m)) ?_
        refine k_done (k_skip_block (k_skip_seq ?_))
        refine rve (D.int IntKind.i64 (IntKind.wrap IntKind.i64 ((↑i : Int) + (1 : Int)))) (.int IntKind.i64 ((i + 1 : Nat) : Int)) (congrArg (D.int IntKind.i64) (show IntKind.wrap IntKind.i64 ((↑i : Int) + (1 : Int)) = ((i + 1 : Nat) : Int) from wrap_eq (by omega) (by omega) (by omega))) ?_
        refine rv (D.int IntKind.i64 (↑(i + (1 : Nat)) : Int)) ?_
        refine k_done (k_skip_back ?_)
        exact ⟨i + 1, hlt, by omega, by rw [hft hlt]; kernel_rfl, rfl⟩
      · have hw : atomsR (d + 1) f = (f.kids.take i).foldl (fun n k => if atomsR d k > n then atomsR d k else n) (atom0 f) := by
          rw [List.take_of_length_le (by omega)]
          rfl
        rw [hw]
        generalize (f.kids.take i).foldl (fun n k => if atomsR d k > n then atomsR d k else n) (atom0 f) = m at *
        refine k_seq ?_
        refine rv (D.bool (decide ((↑i : Int) < (↑(List.length (Fm.kids f)) : Int)))) ?_
        refine k_done (k_skip_seq (k_seq ?_))
        refine rkn 16 (decide ((↑i : Int) < (↑(List.length (Fm.kids f)) : Int))) false (decide_eq_false (by omega)) ?_
        refine kcf (k_exit_seq (k_exit_back (k_exit_hit rfl (k_skip_seq (k_seq ?_)))))
        refine rv (D.int IntKind.i64 m) ?_
        refine ra0 (D.int IntKind.i64 m) ?_
        refine k_done (k_skip_seq (k_ret ?_))
        exact ⟨.inr rfl, by kernel_rfl, by kernel_rfl⟩
    · have ha0 : atom0 f = 0 := if_neg c3
      refine k_seq ?_
      refine rgf (D.lptr (1 : Nat) (0 : Nat)) (σ) ?_
      refine rv (D.int IntKind.i64 (0 : Int)) ?_
      refine k_done (k_skip_seq (k_seq ?_))
      refine rv (D.int IntKind.i64 (0 : Int)) ?_
      refine k_done (k_skip_seq (k_seq (k_seq ?_)))
      refine rv (D.lptr (1 : Nat) (0 : Nat)) ?_
      refine rv (D.int IntKind.i64 (Fm.op f)) ?_
      refine rv (D.bool (Fm.op f == (3 : Int))) ?_
      refine k_done (k_skip_seq ?_)
      refine rkn 8 (Fm.op f == (3 : Int)) false (decide_eq_false (by assumption)) ?_
      refine kcf (k_skip_seq (k_seq (k_seq ?_)))
      refine rv (D.lptr (1 : Nat) (2 : Nat)) ?_
      refine rv (D.sl (eFs (Fm.kids f)) none) ?_
      refine rve (D.int IntKind.i64 (↑(List.length (eFs (Fm.kids f))) : Int)) (.int IntKind.i64 ((↑(List.length (Fm.kids f)) : Int))) (by simp only [eFs_length]) ?_
      refine rv (D.int IntKind.i64 (0 : Int)) ?_
      refine k_done (k_skip_seq (k_block ?_))
      refine k_loop (fun i : Nat => f20 f ((f.kids.take i).foldl (fun n k => if atomsR d k > n then atomsR d k else n) (atom0 f)) i) (fun _ => σ) (fun i => i ≤ f.kids.length) (fun i => f.kids.length - i) 0 (by rw [List.take_zero, List.foldl_nil, ha0]; kernel_rfl) rfl (by simp) (by intro s hs; omega) ?_
      intro i hi
      have hft := fun h => foldl_take (g := fun (n : Int) k => if atomsR d k > n then atomsR d k else n) (b := atom0 f) (c := f.kids) (i := i) h
      by_cases hlt : i < f.kids.length
      · have hg := kid_at hlt
        have hcall := ih f.kids[i] n [] (hkids _ (List.getElem_mem hlt)) (by omega)
        generalize (f.kids.take i).foldl (fun n k => if atomsR d k > n then atomsR d k else n) (atom0 f) = m at *
        refine k_seq ?_
        refine rv (D.bool (decide ((↑i : Int) < (↑(List.length (Fm.kids f)) : Int)))) ?_
        refine k_done (k_skip_seq (k_seq ?_))
        refine rkn 16 (decide ((↑i : Int) < (↑(List.length (Fm.kids f)) : Int))) true (decide_eq_true (by omega)) ?_
        refine kct (k_skip_seq (k_seq (k_block (k_seq ?_))))
        refine runs_indexL (eFs (Fm.kids f)) (o := none) (kd := IntKind.i64) (i) _ (by kernel_rfl) (by kernel_rfl) (by kernel_rfl) (by assumption) (by kernel_rfl) ?_
        refine rv (D.agg [D.int IntKind.i64 (Fm.op (Fm.kids f)[i]), D.int IntKind.i64 (Fm.n (Fm.kids f)[i]), D.sl (eFs (Fm.kids (Fm.kids f)[i])) none]) ?_
        refine rgf (D.lptr (5 : Nat) (0 : Nat)) (σ) ?_
        refine rgf (D.junk) (σ) ?_
        refine k_done (k_skip_seq ?_)
        refine rv (D.int IntKind.i64 m) ?_
        refine rv (D.agg [D.int IntKind.i64 (Fm.op (Fm.kids f)[i]), D.int IntKind.i64 (Fm.n (Fm.kids f)[i]), D.sl (eFs (Fm.kids (Fm.kids f)[i])) none]) ?_
        refine runs_call ([D.agg [D.int IntKind.i64 (Fm.op (Fm.kids f)[i]), D.int IntKind.i64 (Fm.n (Fm.kids f)[i]), D.sl (eFs (Fm.kids (Fm.kids f)[i])) none]]) (by kernel_rfl) (by kernel_rfl) (by kernel_rfl) (by kernel_rfl) (hcall) (by kernel_rfl) ?_
        refine rv (D.int IntKind.i64 (if atomsR d (Fm.kids f)[i] > m then atomsR d (Fm.kids f)[i] else m)) ?_
        refine ra0 (D.int IntKind.i64 (if atomsR d (Fm.kids f)[i] > m then atomsR d (Fm.kids f)[i] else m)) ?_
        refine k_done (k_skip_block (k_skip_seq ?_))
        refine rve (D.int IntKind.i64 (IntKind.wrap IntKind.i64 ((↑i : Int) + (1 : Int)))) (.int IntKind.i64 ((i + 1 : Nat) : Int)) (congrArg (D.int IntKind.i64) (show IntKind.wrap IntKind.i64 ((↑i : Int) + (1 : Int)) = ((i + 1 : Nat) : Int) from wrap_eq (by omega) (by omega) (by omega))) ?_
        refine rv (D.int IntKind.i64 (↑(i + (1 : Nat)) : Int)) ?_
        refine k_done (k_skip_back ?_)
        exact ⟨i + 1, hlt, by omega, by rw [hft hlt]; kernel_rfl, rfl⟩
      · have hw : atomsR (d + 1) f = (f.kids.take i).foldl (fun n k => if atomsR d k > n then atomsR d k else n) (atom0 f) := by
          rw [List.take_of_length_le (by omega)]
          rfl
        rw [hw]
        generalize (f.kids.take i).foldl (fun n k => if atomsR d k > n then atomsR d k else n) (atom0 f) = m at *
        refine k_seq ?_
        refine rv (D.bool (decide ((↑i : Int) < (↑(List.length (Fm.kids f)) : Int)))) ?_
        refine k_done (k_skip_seq (k_seq ?_))
        refine rkn 16 (decide ((↑i : Int) < (↑(List.length (Fm.kids f)) : Int))) false (decide_eq_false (by omega)) ?_
        refine kcf (k_exit_seq (k_exit_back (k_exit_hit rfl (k_skip_seq (k_seq ?_)))))
        refine rv (D.int IntKind.i64 m) ?_
        refine ra0 (D.int IntKind.i64 m) ?_
        refine k_done (k_skip_seq (k_ret ?_))
        exact ⟨.inr rfl, by kernel_rfl, by kernel_rfl⟩
def f21 (f : Fm) (n i : Int) : Fr := Fr.mk ([.agg (eF f), .lptr 1 0, .int .i64 0, .int .i64 n, .int .i64 i] ++ List.replicate 24 .junk) (bx 29 1 (eF f)) []
theorem refAtoms_ok : ∀ (d : Nat) (f : Fm) (N : Nat) (σ : St), fits d f → mayR d f = true → d + 70 ≤ N → callN T N 21 [.agg (eF f)] σ = some (.int .i64 (atomsR d f), σ) := by
  intro d
  induction d with
  | zero => intro f N σ h; exact h.elim
  | succ d ih =>
    intro f N σ hfit hmay hN
    obtain ⟨n, rfl⟩ : ∃ n, N = n + 1 := ⟨N - 1, by omega⟩
    obtain ⟨h12, hkids⟩ := hfit
    have hm := mayR_parts hmay
    obtain ⟨g1, g2, g3, g4, g5⟩ := hm.1
    refine call_of (m := m21) rfl rfl (by decide) (k_start ?_)
    unfold m21
    by_cases c3 : f.op = 3
    · have hr : atomsR (d + 1) f = f.n := by
        have hk : f.kids = [] := List.length_eq_zero_iff.1 (by omega)
        simp only [atomsR, hk, List.foldl_nil, atom0, if_pos c3]
        rw [if_neg (by omega)]
      rw [hr]
      refine k_seq ?_
      refine rgf (D.lptr (1 : Nat) (0 : Nat)) (σ) ?_
      refine rv (D.int IntKind.i64 (0 : Int)) ?_
      refine k_done (k_skip_seq (k_seq (k_seq ?_)))
      refine rv (D.lptr (1 : Nat) (0 : Nat)) ?_
      refine rv (D.int IntKind.i64 (Fm.op f)) ?_
      refine rv (D.bool (Fm.op f == (3 : Int))) ?_
      refine k_done (k_skip_seq ?_)
      refine rkn 8 (Fm.op f == (3 : Int)) true (decide_eq_true (by assumption)) ?_
      refine kct (k_seq ?_)
      refine rv (D.lptr (1 : Nat) (1 : Nat)) ?_
      refine rv (D.int IntKind.i64 (Fm.n f)) ?_
      refine ra0 (D.int IntKind.i64 (Fm.n f)) ?_
      refine k_done (k_skip_seq (k_ret ?_))
      exact ⟨.inr rfl, by kernel_rfl, by kernel_rfl⟩
    · have ha0 : atom0 f = 0 := if_neg c3
      refine k_seq ?_
      refine rgf (D.lptr (1 : Nat) (0 : Nat)) (σ) ?_
      refine rv (D.int IntKind.i64 (0 : Int)) ?_
      refine k_done (k_skip_seq (k_seq (k_seq ?_)))
      refine rv (D.lptr (1 : Nat) (0 : Nat)) ?_
      refine rv (D.int IntKind.i64 (Fm.op f)) ?_
      refine rv (D.bool (Fm.op f == (3 : Int))) ?_
      refine k_done (k_skip_seq ?_)
      refine rkn 8 (Fm.op f == (3 : Int)) false (decide_eq_false (by assumption)) ?_
      refine kcf (k_skip_seq (k_seq ?_))
      refine rv (D.int IntKind.i64 (0 : Int)) ?_
      refine k_done (k_skip_seq (k_seq (k_seq ?_)))
      refine rv (D.int IntKind.i64 (0 : Int)) ?_
      refine k_done (k_skip_seq (k_block ?_))
      refine k_loop (fun i : Nat => f21 f ((f.kids.take i).foldl (fun n k => if atomsR d k > n then atomsR d k else n) (atom0 f)) i) (fun _ => σ) (fun i => i ≤ f.kids.length) (fun i => f.kids.length - i) 0 (by rw [List.take_zero, List.foldl_nil, ha0]; kernel_rfl) rfl (by simp) (by intro s hs; omega) ?_
      intro i hi
      have hft := fun h => foldl_take (g := fun (n : Int) k => if atomsR d k > n then atomsR d k else n) (b := atom0 f) (c := f.kids) (i := i) h
      by_cases hlt : i < f.kids.length
      · have hg := kid_at hlt
        have hcall := ih f.kids[i] n [] (hkids _ (List.getElem_mem hlt)) (hm.2 _ (List.getElem_mem hlt)) (by omega)
        generalize (f.kids.take i).foldl (fun n k => if atomsR d k > n then atomsR d k else n) (atom0 f) = m at *
        by_cases hc : atomsR d f.kids[i] > m
        · refine k_seq (k_seq ?_)
          refine rv (D.int IntKind.i64 (↑i : Int)) ?_
          refine rv (D.lptr (1 : Nat) (2 : Nat)) ?_
          refine rv (D.sl (eFs (Fm.kids f)) none) ?_
          refine rve (D.int IntKind.i64 (↑(List.length (eFs (Fm.kids f))) : Int)) (.int IntKind.i64 ((↑(List.length (Fm.kids f)) : Int))) (by simp only [eFs_length]) ?_
          refine rv (D.bool (decide ((↑i : Int) < (↑(List.length (Fm.kids f)) : Int)))) ?_
          refine k_done (k_skip_seq ?_)
          refine rkn 15 (decide ((↑i : Int) < (↑(List.length (Fm.kids f)) : Int))) true (decide_eq_true (by omega)) ?_
          refine kct (k_skip_seq (k_seq (k_block (k_seq ?_))))
          refine rv (D.lptr (1 : Nat) (2 : Nat)) ?_
          refine rv (D.sl (eFs (Fm.kids f)) none) ?_
          refine rv (D.int IntKind.i64 (↑i : Int)) ?_
          refine runs_indexL (eFs (Fm.kids f)) (o := none) (kd := IntKind.i64) (i) _ (by kernel_rfl) (by kernel_rfl) (by kernel_rfl) (by assumption) (by kernel_rfl) ?_
          refine rv (D.agg [D.int IntKind.i64 (Fm.op (Fm.kids f)[i]), D.int IntKind.i64 (Fm.n (Fm.kids f)[i]), D.sl (eFs (Fm.kids (Fm.kids f)[i])) none]) ?_
          refine runs_call ([D.agg [D.int IntKind.i64 (Fm.op (Fm.kids f)[i]), D.int IntKind.i64 (Fm.n (Fm.kids f)[i]), D.sl (eFs (Fm.kids (Fm.kids f)[i])) none]]) (by kernel_rfl) (by kernel_rfl) (by kernel_rfl) (by kernel_rfl) (hcall) (by kernel_rfl) ?_
          refine ra0 (D.int IntKind.i64 (atomsR d (Fm.kids f)[i])) ?_
          refine k_done (k_skip_seq (k_seq ?_))
          refine rv (D.int IntKind.i64 (atomsR d (Fm.kids f)[i])) ?_
          refine rv (D.int IntKind.i64 m) ?_
          refine rv (D.bool (decide (atomsR d (Fm.kids f)[i] > m))) ?_
          refine k_done (k_skip_seq ?_)
          refine rkn 26 (decide (atomsR d (Fm.kids f)[i] > m)) true (decide_eq_true (by assumption)) ?_
          refine kct ?_
          refine rv (D.int IntKind.i64 (atomsR d (Fm.kids f)[i])) ?_
          refine ra0 (D.int IntKind.i64 (atomsR d (Fm.kids f)[i])) ?_
          refine k_done (k_skip_block (k_skip_seq ?_))
          refine rv (D.int IntKind.i64 (↑i : Int)) ?_
          refine rve (D.int IntKind.i64 (IntKind.wrap IntKind.i64 ((↑i : Int) + (1 : Int)))) (.int IntKind.i64 ((i + 1 : Nat) : Int)) (congrArg (D.int IntKind.i64) (show IntKind.wrap IntKind.i64 ((↑i : Int) + (1 : Int)) = ((i + 1 : Nat) : Int) from wrap_eq (by omega) (by omega) (by omega))) ?_
          refine ra0 (D.int IntKind.i64 (↑(i + (1 : Nat)) : Int)) ?_
          refine k_done (k_skip_back ?_)
          refine ⟨i + 1, hlt, by omega, ?_, rfl⟩
          rw [hft hlt]
          simp only [hc, if_true]
          kernel_rfl
        · refine k_seq (k_seq ?_)
          refine rv (D.int IntKind.i64 (↑i : Int)) ?_
          refine rv (D.lptr (1 : Nat) (2 : Nat)) ?_
          refine rv (D.sl (eFs (Fm.kids f)) none) ?_
          refine rve (D.int IntKind.i64 (↑(List.length (eFs (Fm.kids f))) : Int)) (.int IntKind.i64 ((↑(List.length (Fm.kids f)) : Int))) (by simp only [eFs_length]) ?_
          refine rv (D.bool (decide ((↑i : Int) < (↑(List.length (Fm.kids f)) : Int)))) ?_
          refine k_done (k_skip_seq ?_)
          refine rkn 15 (decide ((↑i : Int) < (↑(List.length (Fm.kids f)) : Int))) true (decide_eq_true (by omega)) ?_
          refine kct (k_skip_seq (k_seq (k_block (k_seq ?_))))
          refine rv (D.lptr (1 : Nat) (2 : Nat)) ?_
          refine rv (D.sl (eFs (Fm.kids f)) none) ?_
          refine rv (D.int IntKind.i64 (↑i : Int)) ?_
          refine runs_indexL (eFs (Fm.kids f)) (o := none) (kd := IntKind.i64) (i) _ (by kernel_rfl) (by kernel_rfl) (by kernel_rfl) (by assumption) (by kernel_rfl) ?_
          refine rv (D.agg [D.int IntKind.i64 (Fm.op (Fm.kids f)[i]), D.int IntKind.i64 (Fm.n (Fm.kids f)[i]), D.sl (eFs (Fm.kids (Fm.kids f)[i])) none]) ?_
          refine runs_call ([D.agg [D.int IntKind.i64 (Fm.op (Fm.kids f)[i]), D.int IntKind.i64 (Fm.n (Fm.kids f)[i]), D.sl (eFs (Fm.kids (Fm.kids f)[i])) none]]) (by kernel_rfl) (by kernel_rfl) (by kernel_rfl) (by kernel_rfl) (hcall) (by kernel_rfl) ?_
          refine ra0 (D.int IntKind.i64 (atomsR d (Fm.kids f)[i])) ?_
          refine k_done (k_skip_seq (k_seq ?_))
          refine rv (D.int IntKind.i64 (atomsR d (Fm.kids f)[i])) ?_
          refine rv (D.int IntKind.i64 m) ?_
          refine rv (D.bool (decide (atomsR d (Fm.kids f)[i] > m))) ?_
          refine k_done (k_skip_seq ?_)
          refine rkn 26 (decide (atomsR d (Fm.kids f)[i] > m)) false (decide_eq_false (by assumption)) ?_
          refine kcf (k_skip_block (k_skip_seq ?_))
          refine rv (D.int IntKind.i64 (↑i : Int)) ?_
          refine rve (D.int IntKind.i64 (IntKind.wrap IntKind.i64 ((↑i : Int) + (1 : Int)))) (.int IntKind.i64 ((i + 1 : Nat) : Int)) (congrArg (D.int IntKind.i64) (show IntKind.wrap IntKind.i64 ((↑i : Int) + (1 : Int)) = ((i + 1 : Nat) : Int) from wrap_eq (by omega) (by omega) (by omega))) ?_
          refine ra0 (D.int IntKind.i64 (↑(i + (1 : Nat)) : Int)) ?_
          refine k_done (k_skip_back ?_)
          refine ⟨i + 1, hlt, by omega, ?_, rfl⟩
          rw [hft hlt]
          simp only [hc, if_false]
          kernel_rfl
      · have hw : atomsR (d + 1) f = (f.kids.take i).foldl (fun n k => if atomsR d k > n then atomsR d k else n) (atom0 f) := by
          rw [List.take_of_length_le (by omega)]
          rfl
        rw [hw]
        generalize (f.kids.take i).foldl (fun n k => if atomsR d k > n then atomsR d k else n) (atom0 f) = m at *
        refine k_seq (k_seq ?_)
        refine rv (D.int IntKind.i64 (↑i : Int)) ?_
        refine rv (D.lptr (1 : Nat) (2 : Nat)) ?_
        refine rv (D.sl (eFs (Fm.kids f)) none) ?_
        refine rve (D.int IntKind.i64 (↑(List.length (eFs (Fm.kids f))) : Int)) (.int IntKind.i64 ((↑(List.length (Fm.kids f)) : Int))) (by simp only [eFs_length]) ?_
        refine rv (D.bool (decide ((↑i : Int) < (↑(List.length (Fm.kids f)) : Int)))) ?_
        refine k_done (k_skip_seq ?_)
        refine rkn 15 (decide ((↑i : Int) < (↑(List.length (Fm.kids f)) : Int))) false (decide_eq_false (by omega)) ?_
        refine kcf (k_exit_seq (k_exit_back (k_exit_hit rfl (k_skip_seq (k_seq ?_)))))
        refine rv (D.int IntKind.i64 m) ?_
        refine ra0 (D.int IntKind.i64 m) ?_
        refine k_done (k_skip_seq (k_ret ?_))
        exact ⟨.inr rfl, by kernel_rfl, by kernel_rfl⟩

theorem check0 {d : Nat} {f : Fm} (h : checkF d f = 0) : mayR d f = true := by
  unfold checkF at h
  by_cases c1 : depthR d f > 500
  · rw [if_pos c1] at h
    cases h
  · rw [if_neg c1] at h
    by_cases c2 : mayR d f = true
    · exact c2
    · rw [if_neg c2] at h
      cases h
theorem lawEvals_ok (f : Fm) (a : List Bool) (o : Option Nat) (ha : a.length ≤ 9223372036854775807) : ∃ σ, callN T 5001 4 [.agg (eF f), .sl (bools a) o] [] = some (.bool true, σ) := by
  refine ⟨[], ?_⟩
  refine call_of (m := m4) rfl rfl (by decide) (k_start ?_)
  unfold m4
  have hb := bounded_ok 41 f 0 5000 [] rfl (by omega) (by omega)
  by_cases h1 : boundedR 41 f = true
  · rw [h1] at hb
    have hfit := boundedR_fits h1
    have hw := weight_ok 41 f 5000 [] hfit (by omega) (by omega)
    have k2 := model_ok 41 f 5000 [] hfit (by omega)
    have k3 := refCheck_ok 41 f 4999 [] hfit (by omega) (by omega)
    by_cases h2 : weightR 41 f > 500
    · refine k_seq ?_
      refine rgf (D.lptr (2 : Nat) (0 : Nat)) ([]) ?_
      refine rv (D.bool false) ?_
      refine k_done (k_skip_seq (k_seq ?_))
      refine runs_call ([]) (by kernel_rfl) (by kernel_rfl) (by kernel_rfl) (by kernel_rfl) (awake_ok) (by kernel_rfl) ?_
      refine ra0 (D.bool true) ?_
      refine k_done (k_skip_seq (k_seq (k_seq ?_)))
      refine rv (D.bool true) ?_
      refine rv (D.bool false) ?_
      refine k_done (k_skip_seq (kcf (k_skip_seq (k_seq ?_))))
      refine rv (D.agg [D.int IntKind.i64 (Fm.op f), D.int IntKind.i64 (Fm.n f), D.sl (eFs (Fm.kids f)) none]) ?_
      refine runs_call ([D.agg [D.int IntKind.i64 (Fm.op f), D.int IntKind.i64 (Fm.n f), D.sl (eFs (Fm.kids f)) none], D.int IntKind.i64 (0 : Int)]) (by kernel_rfl) (by kernel_rfl) (by kernel_rfl) (by kernel_rfl) (hb) (by kernel_rfl) ?_
      refine ra0 (D.bool true) ?_
      refine k_done (k_skip_seq (k_seq (k_seq ?_)))
      refine rv (D.bool true) ?_
      refine rv (D.bool false) ?_
      refine rv (D.bool false) ?_
      refine rv (D.agg [D.int IntKind.i64 (Fm.op f), D.int IntKind.i64 (Fm.n f), D.sl (eFs (Fm.kids f)) none]) ?_
      refine runs_call ([D.agg [D.int IntKind.i64 (Fm.op f), D.int IntKind.i64 (Fm.n f), D.sl (eFs (Fm.kids f)) none]]) (by kernel_rfl) (by kernel_rfl) (by kernel_rfl) (by kernel_rfl) (hw) (by kernel_rfl) ?_
      refine rv (D.bool (decide (weightR (41 : Nat) f > (500 : Int)))) ?_
      refine rv (D.bool (decide (weightR (41 : Nat) f > (500 : Int)))) ?_
      refine rv (D.bool (decide (weightR (41 : Nat) f > (500 : Int)))) ?_
      refine rkn 19 (decide (weightR (41 : Nat) f > (500 : Int))) true (decide_eq_true (by assumption)) ?_
      refine rno (rno (rno (rno ?_)))
      refine rv (D.bool true) ?_
      refine k_done (k_skip_seq (kct (k_seq ?_)))
      refine rv (D.bool true) ?_
      refine k_done (k_skip_seq (k_ret ?_))
      exact ⟨.inr rfl, by kernel_rfl, by kernel_rfl⟩
    · by_cases h3 : checkF 41 f = 0
      · have hmay := check0 h3
        obtain ⟨σ1, e1⟩ := eval_ok 41 f a none 5000 hfit ha (by omega)
        have e2 := refEval_ok 41 f a none 5000 [] hfit hmay ha (by omega)
        have e3 := atoms_ok 41 f 5000 [] hfit (by omega)
        have e4 := refAtoms_ok 41 f 5000 [] hfit hmay (by omega)
        rw [h3] at k3
        generalize evalR 41 f a = ev at *
        generalize atomsR 41 f = at' at *
        have q1 : ((ev == ev) != false) = true := by simp
        refine k_seq ?_
        refine rgf (D.lptr (2 : Nat) (0 : Nat)) ([]) ?_
        refine rv (D.bool false) ?_
        refine k_done (k_skip_seq (k_seq ?_))
        refine runs_call ([]) (by kernel_rfl) (by kernel_rfl) (by kernel_rfl) (by kernel_rfl) (awake_ok) (by kernel_rfl) ?_
        refine ra0 (D.bool true) ?_
        refine k_done (k_skip_seq (k_seq (k_seq ?_)))
        refine rv (D.bool true) ?_
        refine rv (D.bool false) ?_
        refine k_done (k_skip_seq (kcf (k_skip_seq (k_seq ?_))))
        refine rv (D.agg [D.int IntKind.i64 (Fm.op f), D.int IntKind.i64 (Fm.n f), D.sl (eFs (Fm.kids f)) none]) ?_
        refine runs_call ([D.agg [D.int IntKind.i64 (Fm.op f), D.int IntKind.i64 (Fm.n f), D.sl (eFs (Fm.kids f)) none], D.int IntKind.i64 (0 : Int)]) (by kernel_rfl) (by kernel_rfl) (by kernel_rfl) (by kernel_rfl) (hb) (by kernel_rfl) ?_
        refine ra0 (D.bool true) ?_
        refine k_done (k_skip_seq (k_seq (k_seq ?_)))
        refine rv (D.bool true) ?_
        refine rv (D.bool false) ?_
        refine rv (D.bool false) ?_
        refine rv (D.agg [D.int IntKind.i64 (Fm.op f), D.int IntKind.i64 (Fm.n f), D.sl (eFs (Fm.kids f)) none]) ?_
        refine runs_call ([D.agg [D.int IntKind.i64 (Fm.op f), D.int IntKind.i64 (Fm.n f), D.sl (eFs (Fm.kids f)) none]]) (by kernel_rfl) (by kernel_rfl) (by kernel_rfl) (by kernel_rfl) (hw) (by kernel_rfl) ?_
        refine rv (D.bool (decide (weightR (41 : Nat) f > (500 : Int)))) ?_
        refine rv (D.bool (decide (weightR (41 : Nat) f > (500 : Int)))) ?_
        refine rv (D.bool (decide (weightR (41 : Nat) f > (500 : Int)))) ?_
        refine rkn 19 (decide (weightR (41 : Nat) f > (500 : Int))) false (decide_eq_false (by assumption)) ?_
        refine rv (D.agg [D.int IntKind.i64 (Fm.op f), D.int IntKind.i64 (Fm.n f), D.sl (eFs (Fm.kids f)) none]) ?_
        refine runs_call ([D.agg [D.int IntKind.i64 (Fm.op f), D.int IntKind.i64 (Fm.n f), D.sl (eFs (Fm.kids f)) none]]) (by kernel_rfl) (by kernel_rfl) (by kernel_rfl) (by kernel_rfl) (k2) (by kernel_rfl) ?_
        refine runs_call ([D.agg [D.int IntKind.i64 (Fm.op f), D.int IntKind.i64 (Fm.n f), D.sl (eFs (Fm.kids f)) none]]) (by kernel_rfl) (by kernel_rfl) (by kernel_rfl) (by kernel_rfl) (k3) (by kernel_rfl) ?_
        refine rv (D.bool false) ?_
        refine rv (D.bool false) ?_
        refine k_done (k_skip_seq (kcf (k_skip_seq (k_seq ?_))))
        refine rv (D.agg [D.int IntKind.i64 (Fm.op f), D.int IntKind.i64 (Fm.n f), D.sl (eFs (Fm.kids f)) none]) ?_
        refine rv (D.sl (bools a) none) ?_
        refine runs_callQ ([D.agg [D.int IntKind.i64 (Fm.op f), D.int IntKind.i64 (Fm.n f), D.sl (eFs (Fm.kids f)) none], D.sl (bools a) none]) (by kernel_rfl) (by kernel_rfl) (by kernel_rfl) (by kernel_rfl) (e1) (by kernel_rfl) ?_
        refine rv (D.agg [D.int IntKind.i64 (Fm.op f), D.int IntKind.i64 (Fm.n f), D.sl (eFs (Fm.kids f)) none]) ?_
        refine runs_callQ ([D.agg [D.int IntKind.i64 (Fm.op f), D.int IntKind.i64 (Fm.n f), D.sl (eFs (Fm.kids f)) none]]) (by kernel_rfl) (by kernel_rfl) (by kernel_rfl) (by kernel_rfl) (k2) (by kernel_rfl) ?_
        refine rv (D.sl (bools a) none) ?_
        refine runs_callQ ([D.agg [D.int IntKind.i64 (Fm.op f), D.int IntKind.i64 (Fm.n f), D.sl (eFs (Fm.kids f)) none], D.sl (bools a) none]) (by kernel_rfl) (by kernel_rfl) (by kernel_rfl) (by kernel_rfl) (e2) (by kernel_rfl) ?_
        refine rv (D.bool ((ev == ev) != false)) ?_
        refine rv (D.bool ((ev == ev) != false)) ?_
        refine rkn 33 ((ev == ev) != false) true (by assumption) ?_
        refine rv (D.agg [D.int IntKind.i64 (Fm.op f), D.int IntKind.i64 (Fm.n f), D.sl (eFs (Fm.kids f)) none]) ?_
        refine runs_callQ ([D.agg [D.int IntKind.i64 (Fm.op f), D.int IntKind.i64 (Fm.n f), D.sl (eFs (Fm.kids f)) none]]) (by kernel_rfl) (by kernel_rfl) (by kernel_rfl) (by kernel_rfl) (e3) (by kernel_rfl) ?_
        refine rv (D.agg [D.int IntKind.i64 (Fm.op f), D.int IntKind.i64 (Fm.n f), D.sl (eFs (Fm.kids f)) none]) ?_
        refine runs_callQ ([D.agg [D.int IntKind.i64 (Fm.op f), D.int IntKind.i64 (Fm.n f), D.sl (eFs (Fm.kids f)) none]]) (by kernel_rfl) (by kernel_rfl) (by kernel_rfl) (by kernel_rfl) (k2) (by kernel_rfl) ?_
        refine runs_callQ ([D.agg [D.int IntKind.i64 (Fm.op f), D.int IntKind.i64 (Fm.n f), D.sl (eFs (Fm.kids f)) none]]) (by kernel_rfl) (by kernel_rfl) (by kernel_rfl) (by kernel_rfl) (e4) (by kernel_rfl) ?_
        refine rv (D.bool (at' == at')) ?_
        refine rv (D.bool (at' == at')) ?_
        refine ra0 (D.bool (at' == at')) ?_
        refine k_done (k_skip_seq (k_ret ?_))
        refine ⟨.inr rfl, by kernel_rfl, ?_⟩
        have : (at' == at') = true := by simp
        rw [← this]
        show _ = _
        kernel_rfl
      · refine k_seq ?_
        refine rgf (D.lptr (2 : Nat) (0 : Nat)) ([]) ?_
        refine rv (D.bool false) ?_
        refine k_done (k_skip_seq (k_seq ?_))
        refine runs_call ([]) (by kernel_rfl) (by kernel_rfl) (by kernel_rfl) (by kernel_rfl) (awake_ok) (by kernel_rfl) ?_
        refine ra0 (D.bool true) ?_
        refine k_done (k_skip_seq (k_seq (k_seq ?_)))
        refine rv (D.bool true) ?_
        refine rv (D.bool false) ?_
        refine k_done (k_skip_seq (kcf (k_skip_seq (k_seq ?_))))
        refine rv (D.agg [D.int IntKind.i64 (Fm.op f), D.int IntKind.i64 (Fm.n f), D.sl (eFs (Fm.kids f)) none]) ?_
        refine runs_call ([D.agg [D.int IntKind.i64 (Fm.op f), D.int IntKind.i64 (Fm.n f), D.sl (eFs (Fm.kids f)) none], D.int IntKind.i64 (0 : Int)]) (by kernel_rfl) (by kernel_rfl) (by kernel_rfl) (by kernel_rfl) (hb) (by kernel_rfl) ?_
        refine ra0 (D.bool true) ?_
        refine k_done (k_skip_seq (k_seq (k_seq ?_)))
        refine rv (D.bool true) ?_
        refine rv (D.bool false) ?_
        refine rv (D.bool false) ?_
        refine rv (D.agg [D.int IntKind.i64 (Fm.op f), D.int IntKind.i64 (Fm.n f), D.sl (eFs (Fm.kids f)) none]) ?_
        refine runs_call ([D.agg [D.int IntKind.i64 (Fm.op f), D.int IntKind.i64 (Fm.n f), D.sl (eFs (Fm.kids f)) none]]) (by kernel_rfl) (by kernel_rfl) (by kernel_rfl) (by kernel_rfl) (hw) (by kernel_rfl) ?_
        refine rv (D.bool (decide (weightR (41 : Nat) f > (500 : Int)))) ?_
        refine rv (D.bool (decide (weightR (41 : Nat) f > (500 : Int)))) ?_
        refine rv (D.bool (decide (weightR (41 : Nat) f > (500 : Int)))) ?_
        refine rkn 19 (decide (weightR (41 : Nat) f > (500 : Int))) false (decide_eq_false (by assumption)) ?_
        refine rv (D.agg [D.int IntKind.i64 (Fm.op f), D.int IntKind.i64 (Fm.n f), D.sl (eFs (Fm.kids f)) none]) ?_
        refine runs_call ([D.agg [D.int IntKind.i64 (Fm.op f), D.int IntKind.i64 (Fm.n f), D.sl (eFs (Fm.kids f)) none]]) (by kernel_rfl) (by kernel_rfl) (by kernel_rfl) (by kernel_rfl) (k2) (by kernel_rfl) ?_
        refine runs_call ([D.agg [D.int IntKind.i64 (Fm.op f), D.int IntKind.i64 (Fm.n f), D.sl (eFs (Fm.kids f)) none]]) (by kernel_rfl) (by kernel_rfl) (by kernel_rfl) (by kernel_rfl) (k3) (by kernel_rfl) ?_
        refine rv (D.bool (checkF (41 : Nat) f != (0 : Int))) ?_
        refine rv (D.bool (checkF (41 : Nat) f != (0 : Int))) ?_
        refine k_done (k_skip_seq ?_)
        refine rkn 24 (checkF (41 : Nat) f != (0 : Int)) true (bne_iff_ne.2 (by assumption)) ?_
        refine kct (k_seq ?_)
        refine rv (D.bool true) ?_
        refine k_done (k_skip_seq (k_ret ?_))
        exact ⟨.inr rfl, by kernel_rfl, by kernel_rfl⟩
  · have h1' : boundedR 41 f = false := by simpa using h1
    rw [h1'] at hb
    refine k_seq ?_
    refine rgf (D.lptr (2 : Nat) (0 : Nat)) ([]) ?_
    refine rv (D.bool false) ?_
    refine k_done (k_skip_seq (k_seq ?_))
    refine runs_call ([]) (by kernel_rfl) (by kernel_rfl) (by kernel_rfl) (by kernel_rfl) (awake_ok) (by kernel_rfl) ?_
    refine ra0 (D.bool true) ?_
    refine k_done (k_skip_seq (k_seq (k_seq ?_)))
    refine rv (D.bool true) ?_
    refine rv (D.bool false) ?_
    refine k_done (k_skip_seq (kcf (k_skip_seq (k_seq ?_))))
    refine rv (D.agg [D.int IntKind.i64 (Fm.op f), D.int IntKind.i64 (Fm.n f), D.sl (eFs (Fm.kids f)) none]) ?_
    refine runs_call ([D.agg [D.int IntKind.i64 (Fm.op f), D.int IntKind.i64 (Fm.n f), D.sl (eFs (Fm.kids f)) none], D.int IntKind.i64 (0 : Int)]) (by kernel_rfl) (by kernel_rfl) (by kernel_rfl) (by kernel_rfl) (hb) (by kernel_rfl) ?_
    refine ra0 (D.bool false) ?_
    refine k_done (k_skip_seq (k_seq (k_seq ?_)))
    refine rv (D.bool false) ?_
    refine rv (D.bool true) ?_
    refine rv (D.bool true) ?_
    refine rno (rno (rno ?_))
    refine rv (D.bool true) ?_
    refine rv (D.bool true) ?_
    refine rno (rno (rno (rno ?_)))
    refine rv (D.bool true) ?_
    refine k_done (k_skip_seq (kct (k_seq ?_)))
    refine rv (D.bool true) ?_
    refine k_done (k_skip_seq (k_ret ?_))
    exact ⟨.inr rfl, by kernel_rfl, by kernel_rfl⟩
end Go.Abs.A
