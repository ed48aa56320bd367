import Derived.Test.YtjmhfliaehhijaaKont
import Derived.Test.YtjmhfliaehhijaaA2
set_option linter.unusedVariables false
set_option linter.unusedSimpArgs false
/-
  depth and may, of both.
-/
namespace Go.Abs.A
open Go Go.Abs
set_option maxRecDepth 8000
attribute [local irreducible] callN runC evalOp

def depthR : Nat → Fm → Int
  | 0, _ => 0
  | d + 1, f => f.kids.foldl (fun n k => if depthR d k > n then depthR d k else n) 0 + 1
theorem depth_fold (d : Nat) (hd : ∀ f, 0 ≤ depthR d f ∧ depthR d f ≤ d) (c : List Fm) : 0 ≤ c.foldl (fun n k => if depthR d k > n then depthR d k else n) 0 ∧ c.foldl (fun n k => if depthR d k > n then depthR d k else n) 0 ≤ (d : Int) :=
  foldl_bound (g := fun n k => if depthR d k > n then depthR d k else n) (lo := 0) (hi := (d : Int)) (fun n k h1 h2 => by
    have := hd k
    by_cases hc : depthR d k > n
    · simp only [hc, if_true]
      exact this
    · simp only [hc, if_false]
      exact ⟨h1, h2⟩) c 0 (by omega) (by omega)
theorem depthR_bound : ∀ (d : Nat) (f : Fm), 0 ≤ depthR d f ∧ depthR d f ≤ d
  | 0, f => ⟨Int.le_refl _, by simp [depthR]⟩
  | d + 1, f => by
    have := depth_fold d (depthR_bound d) f.kids
    simp only [depthR]
    omega

def f35 (f : Fm) (n i : Int) : Fr := Fr.mk ([.agg (eF f), .junk, .int .i64 0, .int .i64 n, .junk, .junk, .junk, .sl (eFs f.kids) none, .int .i64 f.kids.length, .int .i64 i] ++ List.replicate 10 .junk) (List.replicate 20 none) []
theorem depth_ok : ∀ (d : Nat) (f : Fm) (N : Nat) (σ : St), fits d f → d ≤ 4000 → d + 70 ≤ N → callN T N 35 [.agg (eF f)] σ = some (.int .i64 (depthR d f), σ) := by
  intro d
  induction d with
  | zero => intro f N σ h; exact h.elim
  | succ d ih =>
    intro f N σ hfit hd hN
    obtain ⟨n, rfl⟩ : ∃ n, N = n + 1 := ⟨N - 1, by omega⟩
    obtain ⟨h12, hkids⟩ := hfit
    refine call_of (m := m35) rfl rfl (by decide) (k_start ?_)
    unfold m35
    refine k_seq ?_
    refine rgf (D.lptr (1 : Nat) (0 : Nat)) (σ) ?_
    refine rv (D.int IntKind.i64 (0 : Int)) ?_
    refine k_done (k_skip_seq (k_seq ?_))
    refine rv (D.int IntKind.i64 (0 : Int)) ?_
    refine k_done (k_skip_seq (k_seq (k_seq ?_)))
    refine rv (D.lptr (1 : Nat) (2 : Nat)) ?_
    refine rv (D.sl (eFs (Fm.kids f)) none) ?_
    refine rve (D.int IntKind.i64 (↑(List.length (eFs (Fm.kids f))) : Int)) (.int IntKind.i64 ((↑(List.length (Fm.kids f)) : Int))) (by simp only [eFs_length]) ?_
    refine rv (D.int IntKind.i64 (0 : Int)) ?_
    refine k_done (k_skip_seq (k_block ?_))
    refine k_loop (fun i : Nat => f35 f ((f.kids.take i).foldl (fun n k => if depthR d k > n then depthR d k else n) 0) i) (fun _ => σ) (fun i => i ≤ f.kids.length) (fun i => f.kids.length - i) 0 (by kernel_rfl) rfl (by simp) (by intro s hs; omega) ?_
    intro i hi
    have hm0 := depth_fold d (depthR_bound d) (f.kids.take i)
    have hft := fun h => foldl_take (g := fun (n : Int) k => if depthR d k > n then depthR d k else n) (b := 0) (c := f.kids) (i := i) h
    by_cases hlt : i < f.kids.length
    · generalize (f.kids.take i).foldl (fun n k => if depthR d k > n then depthR d k else n) 0 = m at *
      have hg := kid_at hlt
      have hcall := ih f.kids[i] n [] (hkids _ (List.getElem_mem hlt)) (by omega) (by omega)
      refine k_seq ?_
      refine rv (D.bool (decide ((↑i : Int) < (↑(List.length (Fm.kids f)) : Int)))) ?_
      refine k_done (k_skip_seq (k_seq ?_))
      refine rkn 10 (decide ((↑i : Int) < (↑(List.length (Fm.kids f)) : Int))) true (decide_eq_true (by omega)) ?_
      refine kct (k_skip_seq (k_seq (k_block (k_seq ?_))))
      refine runs_indexL (eFs (Fm.kids f)) (o := none) (kd := IntKind.i64) (i) _ (by kernel_rfl) (by kernel_rfl) (by kernel_rfl) (by assumption) (by kernel_rfl) ?_
      refine rv (D.agg [D.int IntKind.i64 (Fm.op (Fm.kids f)[i]), D.int IntKind.i64 (Fm.n (Fm.kids f)[i]), D.sl (eFs (Fm.kids (Fm.kids f)[i])) none]) ?_
      refine rgf (D.lptr (5 : Nat) (0 : Nat)) (σ) ?_
      refine rgf (D.junk) (σ) ?_
      refine k_done (k_skip_seq ?_)
      refine rv (D.int IntKind.i64 m) ?_
      refine rv (D.agg [D.int IntKind.i64 (Fm.op (Fm.kids f)[i]), D.int IntKind.i64 (Fm.n (Fm.kids f)[i]), D.sl (eFs (Fm.kids (Fm.kids f)[i])) none]) ?_
      refine runs_call ([D.agg [D.int IntKind.i64 (Fm.op (Fm.kids f)[i]), D.int IntKind.i64 (Fm.n (Fm.kids f)[i]), D.sl (eFs (Fm.kids (Fm.kids f)[i])) none]]) (by kernel_rfl) (by kernel_rfl) (by kernel_rfl) (by kernel_rfl) (hcall) (by kernel_rfl) ?_
      refine rv (D.int IntKind.i64 (if depthR d (Fm.kids f)[i] > m then depthR d (Fm.kids f)[i] else m)) ?_
      refine ra0 (D.int IntKind.i64 (if depthR d (Fm.kids f)[i] > m then depthR d (Fm.kids f)[i] else m)) ?_
      refine k_done (k_skip_block (k_skip_seq ?_))
      refine rve (D.int IntKind.i64 (IntKind.wrap IntKind.i64 ((↑i : Int) + (1 : Int)))) (.int IntKind.i64 ((i + 1 : Nat) : Int)) (congrArg (D.int IntKind.i64) (show IntKind.wrap IntKind.i64 ((↑i : Int) + (1 : Int)) = ((i + 1 : Nat) : Int) from wrap_eq (by omega) (by omega) (by omega))) ?_
      refine rv (D.int IntKind.i64 (↑(i + (1 : Nat)) : Int)) ?_
      refine k_done (k_skip_back ?_)
      exact ⟨i + 1, hlt, by omega, by rw [hft hlt]; kernel_rfl, rfl⟩
    · have hw : depthR (d + 1) f = (f.kids.take i).foldl (fun n k => if depthR d k > n then depthR d k else n) 0 + 1 := by
        rw [List.take_of_length_le (by omega)]
        rfl
      rw [hw]
      generalize (f.kids.take i).foldl (fun n k => if depthR d k > n then depthR d k else n) 0 = m at *
      refine k_seq ?_
      refine rv (D.bool (decide ((↑i : Int) < (↑(List.length (Fm.kids f)) : Int)))) ?_
      refine k_done (k_skip_seq (k_seq ?_))
      refine rkn 10 (decide ((↑i : Int) < (↑(List.length (Fm.kids f)) : Int))) false (decide_eq_false (by omega)) ?_
      refine kcf (k_exit_seq (k_exit_back (k_exit_hit rfl (k_skip_seq (k_seq ?_)))))
      refine rv (D.int IntKind.i64 m) ?_
      refine rve (D.int IntKind.i64 (IntKind.wrap IntKind.i64 (m + (1 : Int)))) (.int IntKind.i64 (m + (1 : Int))) (congrArg (D.int IntKind.i64) (show IntKind.wrap IntKind.i64 (m + (1 : Int)) = (m + (1 : Int)) from wrap_eq (by omega) (by omega) (by omega))) ?_
      refine ra0 (D.int IntKind.i64 (m + (1 : Int))) ?_
      refine k_done (k_skip_seq (k_ret ?_))
      exact ⟨.inr rfl, by kernel_rfl, by kernel_rfl⟩

def f37 (f : Fm) (n i : Int) : Fr := Fr.mk ([.agg (eF f), .lptr 1 0, .int .i64 0, .int .i64 n, .int .i64 i] ++ List.replicate 20 .junk) (bx 25 1 (eF f)) []
theorem refDepth_ok : ∀ (d : Nat) (f : Fm) (N : Nat) (σ : St), fits d f → d ≤ 4000 → d + 70 ≤ N → callN T N 37 [.agg (eF f)] σ = some (.int .i64 (depthR d f), σ) := by
  intro d
  induction d with
  | zero => intro f N σ h; exact h.elim
  | succ d ih =>
    intro f N σ hfit hd hN
    obtain ⟨n, rfl⟩ : ∃ n, N = n + 1 := ⟨N - 1, by omega⟩
    obtain ⟨h12, hkids⟩ := hfit
    refine call_of (m := m37) rfl rfl (by decide) (k_start ?_)
    unfold m37
    refine k_seq ?_
    refine rgf (D.lptr (1 : Nat) (0 : Nat)) (σ) ?_
    refine rv (D.int IntKind.i64 (0 : Int)) ?_
    refine k_done (k_skip_seq (k_seq ?_))
    refine rv (D.int IntKind.i64 (0 : Int)) ?_
    refine k_done (k_skip_seq (k_seq (k_seq ?_)))
    refine rv (D.int IntKind.i64 (0 : Int)) ?_
    refine k_done (k_skip_seq (k_block ?_))
    refine k_loop (fun i : Nat => f37 f ((f.kids.take i).foldl (fun n k => if depthR d k > n then depthR d k else n) 0) i) (fun _ => σ) (fun i => i ≤ f.kids.length) (fun i => f.kids.length - i) 0 (by kernel_rfl) rfl (by simp) (by intro s hs; omega) ?_
    intro i hi
    have hm0 := depth_fold d (depthR_bound d) (f.kids.take i)
    have hft := fun h => foldl_take (g := fun (n : Int) k => if depthR d k > n then depthR d k else n) (b := 0) (c := f.kids) (i := i) h
    by_cases hlt : i < f.kids.length
    · generalize (f.kids.take i).foldl (fun n k => if depthR d k > n then depthR d k else n) 0 = m at *
      have hg := kid_at hlt
      have hcall := ih f.kids[i] n [] (hkids _ (List.getElem_mem hlt)) (by omega) (by omega)
      by_cases hc : depthR d f.kids[i] > m
      · refine k_seq (k_seq ?_)
        refine rv (D.int IntKind.i64 (↑i : Int)) ?_
        refine rv (D.lptr (1 : Nat) (2 : Nat)) ?_
        refine rv (D.sl (eFs (Fm.kids f)) none) ?_
        refine rve (D.int IntKind.i64 (↑(List.length (eFs (Fm.kids f))) : Int)) (.int IntKind.i64 ((↑(List.length (Fm.kids f)) : Int))) (by simp only [eFs_length]) ?_
        refine rv (D.bool (decide ((↑i : Int) < (↑(List.length (Fm.kids f)) : Int)))) ?_
        refine k_done (k_skip_seq ?_)
        refine rkn 10 (decide ((↑i : Int) < (↑(List.length (Fm.kids f)) : Int))) true (decide_eq_true (by omega)) ?_
        refine kct (k_skip_seq (k_seq (k_block (k_seq ?_))))
        refine rv (D.lptr (1 : Nat) (2 : Nat)) ?_
        refine rv (D.sl (eFs (Fm.kids f)) none) ?_
        refine rv (D.int IntKind.i64 (↑i : Int)) ?_
        refine runs_indexL (eFs (Fm.kids f)) (o := none) (kd := IntKind.i64) (i) _ (by kernel_rfl) (by kernel_rfl) (by kernel_rfl) (by assumption) (by kernel_rfl) ?_
        refine rv (D.agg [D.int IntKind.i64 (Fm.op (Fm.kids f)[i]), D.int IntKind.i64 (Fm.n (Fm.kids f)[i]), D.sl (eFs (Fm.kids (Fm.kids f)[i])) none]) ?_
        refine runs_call ([D.agg [D.int IntKind.i64 (Fm.op (Fm.kids f)[i]), D.int IntKind.i64 (Fm.n (Fm.kids f)[i]), D.sl (eFs (Fm.kids (Fm.kids f)[i])) none]]) (by kernel_rfl) (by kernel_rfl) (by kernel_rfl) (by kernel_rfl) (hcall) (by kernel_rfl) ?_
        refine ra0 (D.int IntKind.i64 (depthR d (Fm.kids f)[i])) ?_
        refine k_done (k_skip_seq (k_seq ?_))
        refine rv (D.int IntKind.i64 (depthR d (Fm.kids f)[i])) ?_
        refine rv (D.int IntKind.i64 m) ?_
        refine rv (D.bool (decide (depthR d (Fm.kids f)[i] > m))) ?_
        refine k_done (k_skip_seq ?_)
        refine rkn 21 (decide (depthR d (Fm.kids f)[i] > m)) true (decide_eq_true (by assumption)) ?_
        refine kct ?_
        refine rv (D.int IntKind.i64 (depthR d (Fm.kids f)[i])) ?_
        refine ra0 (D.int IntKind.i64 (depthR d (Fm.kids f)[i])) ?_
        refine k_done (k_skip_block (k_skip_seq ?_))
        refine rv (D.int IntKind.i64 (↑i : Int)) ?_
        refine rve (D.int IntKind.i64 (IntKind.wrap IntKind.i64 ((↑i : Int) + (1 : Int)))) (.int IntKind.i64 ((i + 1 : Nat) : Int)) (congrArg (D.int IntKind.i64) (show IntKind.wrap IntKind.i64 ((↑i : Int) + (1 : Int)) = ((i + 1 : Nat) : Int) from wrap_eq (by omega) (by omega) (by omega))) ?_
        refine ra0 (D.int IntKind.i64 (↑(i + (1 : Nat)) : Int)) ?_
        refine k_done (k_skip_back ?_)
        refine ⟨i + 1, hlt, by omega, ?_, rfl⟩
        rw [hft hlt]
        simp only [hc, if_true]
        kernel_rfl
      · refine k_seq (k_seq ?_)
        refine rv (D.int IntKind.i64 (↑i : Int)) ?_
        refine rv (D.lptr (1 : Nat) (2 : Nat)) ?_
        refine rv (D.sl (eFs (Fm.kids f)) none) ?_
        refine rve (D.int IntKind.i64 (↑(List.length (eFs (Fm.kids f))) : Int)) (.int IntKind.i64 ((↑(List.length (Fm.kids f)) : Int))) (by simp only [eFs_length]) ?_
        refine rv (D.bool (decide ((↑i : Int) < (↑(List.length (Fm.kids f)) : Int)))) ?_
        refine k_done (k_skip_seq ?_)
        refine rkn 10 (decide ((↑i : Int) < (↑(List.length (Fm.kids f)) : Int))) true (decide_eq_true (by omega)) ?_
        refine kct (k_skip_seq (k_seq (k_block (k_seq ?_))))
        refine rv (D.lptr (1 : Nat) (2 : Nat)) ?_
        refine rv (D.sl (eFs (Fm.kids f)) none) ?_
        refine rv (D.int IntKind.i64 (↑i : Int)) ?_
        refine runs_indexL (eFs (Fm.kids f)) (o := none) (kd := IntKind.i64) (i) _ (by kernel_rfl) (by kernel_rfl) (by kernel_rfl) (by assumption) (by kernel_rfl) ?_
        refine rv (D.agg [D.int IntKind.i64 (Fm.op (Fm.kids f)[i]), D.int IntKind.i64 (Fm.n (Fm.kids f)[i]), D.sl (eFs (Fm.kids (Fm.kids f)[i])) none]) ?_
        refine runs_call ([D.agg [D.int IntKind.i64 (Fm.op (Fm.kids f)[i]), D.int IntKind.i64 (Fm.n (Fm.kids f)[i]), D.sl (eFs (Fm.kids (Fm.kids f)[i])) none]]) (by kernel_rfl) (by kernel_rfl) (by kernel_rfl) (by kernel_rfl) (hcall) (by kernel_rfl) ?_
        refine ra0 (D.int IntKind.i64 (depthR d (Fm.kids f)[i])) ?_
        refine k_done (k_skip_seq (k_seq ?_))
        refine rv (D.int IntKind.i64 (depthR d (Fm.kids f)[i])) ?_
        refine rv (D.int IntKind.i64 m) ?_
        refine rv (D.bool (decide (depthR d (Fm.kids f)[i] > m))) ?_
        refine k_done (k_skip_seq ?_)
        refine rkn 21 (decide (depthR d (Fm.kids f)[i] > m)) false (decide_eq_false (by assumption)) ?_
        refine kcf (k_skip_block (k_skip_seq ?_))
        refine rv (D.int IntKind.i64 (↑i : Int)) ?_
        refine rve (D.int IntKind.i64 (IntKind.wrap IntKind.i64 ((↑i : Int) + (1 : Int)))) (.int IntKind.i64 ((i + 1 : Nat) : Int)) (congrArg (D.int IntKind.i64) (show IntKind.wrap IntKind.i64 ((↑i : Int) + (1 : Int)) = ((i + 1 : Nat) : Int) from wrap_eq (by omega) (by omega) (by omega))) ?_
        refine ra0 (D.int IntKind.i64 (↑(i + (1 : Nat)) : Int)) ?_
        refine k_done (k_skip_back ?_)
        refine ⟨i + 1, hlt, by omega, ?_, rfl⟩
        rw [hft hlt]
        simp only [hc, if_false]
        kernel_rfl
    · have hw : depthR (d + 1) f = (f.kids.take i).foldl (fun n k => if depthR d k > n then depthR d k else n) 0 + 1 := by
        rw [List.take_of_length_le (by omega)]
        rfl
      rw [hw]
      generalize (f.kids.take i).foldl (fun n k => if depthR d k > n then depthR d k else n) 0 = m at *
      refine k_seq (k_seq ?_)
      refine rv (D.int IntKind.i64 (↑i : Int)) ?_
      refine rv (D.lptr (1 : Nat) (2 : Nat)) ?_
      refine rv (D.sl (eFs (Fm.kids f)) none) ?_
      refine rve (D.int IntKind.i64 (↑(List.length (eFs (Fm.kids f))) : Int)) (.int IntKind.i64 ((↑(List.length (Fm.kids f)) : Int))) (by simp only [eFs_length]) ?_
      refine rv (D.bool (decide ((↑i : Int) < (↑(List.length (Fm.kids f)) : Int)))) ?_
      refine k_done (k_skip_seq ?_)
      refine rkn 10 (decide ((↑i : Int) < (↑(List.length (Fm.kids f)) : Int))) false (decide_eq_false (by omega)) ?_
      refine kcf (k_exit_seq (k_exit_back (k_exit_hit rfl (k_skip_seq (k_seq ?_)))))
      refine rv (D.int IntKind.i64 m) ?_
      refine rve (D.int IntKind.i64 (IntKind.wrap IntKind.i64 (m + (1 : Int)))) (.int IntKind.i64 (m + (1 : Int))) (congrArg (D.int IntKind.i64) (show IntKind.wrap IntKind.i64 (m + (1 : Int)) = (m + (1 : Int)) from wrap_eq (by omega) (by omega) (by omega))) ?_
      refine ra0 (D.int IntKind.i64 (m + (1 : Int))) ?_
      refine k_done (k_skip_seq (k_ret ?_))
      exact ⟨.inr rfl, by kernel_rfl, by kernel_rfl⟩

/-- A formula's own head. -/
def headOK (f : Fm) : Prop := ¬ f.op < 1 ∧ ¬ f.op > 6 ∧ ¬ (f.op ≤ 3 ∧ f.kids.length > 0) ∧ ¬ (f.op = 4 ∧ f.kids.length ≠ 1) ∧ ¬ (f.op = 3 ∧ (f.n < 1 ∨ f.n > 1000))
instance (f : Fm) : Decidable (headOK f) := by unfold headOK; infer_instance
def mayR : Nat → Fm → Bool
  | 0, _ => false
  | d + 1, f => decide (headOK f) && f.kids.all (mayR d)
theorem mayR_no {d : Nat} {f : Fm} (h : ¬ headOK f) : mayR (d + 1) f = false := by
  simp only [mayR, decide_eq_false h, Bool.false_and]
theorem mayR_go {d : Nat} {f : Fm} (h : headOK f) : mayR (d + 1) f = f.kids.all (mayR d) := by
  simp only [mayR, decide_eq_true h, Bool.true_and]

def f38 (f : Fm) (i : Int) (x : D) : Fr := Fr.mk ([.agg (eF f), .lptr 1 0, .bool false, .int .i64 f.kids.length, .int .i64 i, .junk] ++ List.replicate 57 .junk) (bx 63 1 (eF f)) []
theorem refMay_ok : ∀ (d : Nat) (f : Fm) (N : Nat) (σ : St), fits d f → d + 70 ≤ N → callN T N 38 [.agg (eF f)] σ = some (.bool (mayR d f), σ) := by
  intro d
  induction d with
  | zero => intro f N σ h; exact h.elim
  | succ d ih =>
    intro f N σ hfit hN
    obtain ⟨n, rfl⟩ : ∃ n, N = n + 1 := ⟨N - 1, by omega⟩
    obtain ⟨h12, hkids⟩ := hfit
    refine call_of (m := m38) rfl rfl (by decide) (k_start ?_)
    unfold m38
    by_cases c1 : f.op < 1
    · rw [mayR_no (fun h => h.1 c1)]
      refine k_seq ?_
      refine rgf (D.lptr (1 : Nat) (0 : Nat)) (σ) ?_
      refine rv (D.bool false) ?_
      refine k_done (k_skip_seq (k_seq ?_))
      refine rv (D.lptr (1 : Nat) (2 : Nat)) ?_
      refine rv (D.sl (eFs (Fm.kids f)) none) ?_
      refine rve (D.int IntKind.i64 (↑(List.length (eFs (Fm.kids f))) : Int)) (.int IntKind.i64 ((↑(List.length (Fm.kids f)) : Int))) (by simp only [eFs_length]) ?_
      refine ra0 (D.int IntKind.i64 (↑(List.length (Fm.kids f)) : Int)) ?_
      refine k_done (k_skip_seq (k_seq (k_seq ?_)))
      refine rv (D.lptr (1 : Nat) (0 : Nat)) ?_
      refine rv (D.int IntKind.i64 (Fm.op f)) ?_
      refine rv (D.bool (decide (Fm.op f < (1 : Int)))) ?_
      refine rv (D.bool (decide (Fm.op f < (1 : Int)))) ?_
      refine rkn 12 (decide (Fm.op f < (1 : Int))) true (decide_eq_true (by assumption)) ?_
      refine rno (rno (rno ?_))
      refine rv (D.bool true) ?_
      refine rv (D.bool true) ?_
      refine rno (rno (rno (rno (rno (rno (rno ?_))))))
      refine rv (D.bool true) ?_
      refine rv (D.bool true) ?_
      refine rno (rno (rno (rno (rno (rno (rno ?_))))))
      refine rv (D.bool true) ?_
      refine rv (D.bool true) ?_
      refine rno (rno (rno (rno (rno (rno (rno (rno (rno (rno (rno (rno ?_)))))))))))
      refine rno ?_
      refine rv (D.bool true) ?_
      refine k_done (k_skip_seq (kct (k_seq ?_)))
      refine rv (D.bool false) ?_
      refine k_done (k_skip_seq (k_ret ?_))
      exact ⟨.inr rfl, by kernel_rfl, by kernel_rfl⟩
    by_cases c2 : f.op > 6
    · rw [mayR_no (fun h => h.2.1 c2)]
      refine k_seq ?_
      refine rgf (D.lptr (1 : Nat) (0 : Nat)) (σ) ?_
      refine rv (D.bool false) ?_
      refine k_done (k_skip_seq (k_seq ?_))
      refine rv (D.lptr (1 : Nat) (2 : Nat)) ?_
      refine rv (D.sl (eFs (Fm.kids f)) none) ?_
      refine rve (D.int IntKind.i64 (↑(List.length (eFs (Fm.kids f))) : Int)) (.int IntKind.i64 ((↑(List.length (Fm.kids f)) : Int))) (by simp only [eFs_length]) ?_
      refine ra0 (D.int IntKind.i64 (↑(List.length (Fm.kids f)) : Int)) ?_
      refine k_done (k_skip_seq (k_seq (k_seq ?_)))
      refine rv (D.lptr (1 : Nat) (0 : Nat)) ?_
      refine rv (D.int IntKind.i64 (Fm.op f)) ?_
      refine rv (D.bool (decide (Fm.op f < (1 : Int)))) ?_
      refine rv (D.bool (decide (Fm.op f < (1 : Int)))) ?_
      refine rkn 12 (decide (Fm.op f < (1 : Int))) false (decide_eq_false (by assumption)) ?_
      refine rv (D.lptr (1 : Nat) (0 : Nat)) ?_
      refine rv (D.int IntKind.i64 (Fm.op f)) ?_
      refine rv (D.bool (decide (Fm.op f > (6 : Int)))) ?_
      refine rv (D.bool (decide (Fm.op f > (6 : Int)))) ?_
      refine rv (D.bool (decide (Fm.op f > (6 : Int)))) ?_
      refine rkn 17 (decide (Fm.op f > (6 : Int))) true (decide_eq_true (by assumption)) ?_
      refine rno (rno (rno (rno (rno (rno (rno ?_))))))
      refine rv (D.bool true) ?_
      refine rv (D.bool true) ?_
      refine rno (rno (rno (rno (rno (rno (rno ?_))))))
      refine rv (D.bool true) ?_
      refine rv (D.bool true) ?_
      refine rno (rno (rno (rno (rno (rno (rno (rno (rno (rno (rno (rno ?_)))))))))))
      refine rno ?_
      refine rv (D.bool true) ?_
      refine k_done (k_skip_seq (kct (k_seq ?_)))
      refine rv (D.bool false) ?_
      refine k_done (k_skip_seq (k_ret ?_))
      exact ⟨.inr rfl, by kernel_rfl, by kernel_rfl⟩
    by_cases c3 : f.op < 4
    · by_cases c4 : f.kids.length > 0
      · rw [mayR_no (fun h => h.2.2.1 ⟨by omega, c4⟩)]
        refine k_seq ?_
        refine rgf (D.lptr (1 : Nat) (0 : Nat)) (σ) ?_
        refine rv (D.bool false) ?_
        refine k_done (k_skip_seq (k_seq ?_))
        refine rv (D.lptr (1 : Nat) (2 : Nat)) ?_
        refine rv (D.sl (eFs (Fm.kids f)) none) ?_
        refine rve (D.int IntKind.i64 (↑(List.length (eFs (Fm.kids f))) : Int)) (.int IntKind.i64 ((↑(List.length (Fm.kids f)) : Int))) (by simp only [eFs_length]) ?_
        refine ra0 (D.int IntKind.i64 (↑(List.length (Fm.kids f)) : Int)) ?_
        refine k_done (k_skip_seq (k_seq (k_seq ?_)))
        refine rv (D.lptr (1 : Nat) (0 : Nat)) ?_
        refine rv (D.int IntKind.i64 (Fm.op f)) ?_
        refine rv (D.bool (decide (Fm.op f < (1 : Int)))) ?_
        refine rv (D.bool (decide (Fm.op f < (1 : Int)))) ?_
        refine rkn 12 (decide (Fm.op f < (1 : Int))) false (decide_eq_false (by assumption)) ?_
        refine rv (D.lptr (1 : Nat) (0 : Nat)) ?_
        refine rv (D.int IntKind.i64 (Fm.op f)) ?_
        refine rv (D.bool (decide (Fm.op f > (6 : Int)))) ?_
        refine rv (D.bool (decide (Fm.op f > (6 : Int)))) ?_
        refine rv (D.bool (decide (Fm.op f > (6 : Int)))) ?_
        refine rkn 17 (decide (Fm.op f > (6 : Int))) false (decide_eq_false (by assumption)) ?_
        refine rv (D.lptr (1 : Nat) (0 : Nat)) ?_
        refine rv (D.int IntKind.i64 (Fm.op f)) ?_
        refine rv (D.bool (decide (Fm.op f < (4 : Int)))) ?_
        refine rv (D.bool (decide (Fm.op f < (4 : Int)))) ?_
        refine rkn 21 (decide (Fm.op f < (4 : Int))) true (decide_eq_true (by assumption)) ?_
        refine rv (D.int IntKind.i64 (↑(List.length (Fm.kids f)) : Int)) ?_
        refine rv (D.bool (decide ((↑(List.length (Fm.kids f)) : Int) > (0 : Int)))) ?_
        refine rv (D.bool (decide ((↑(List.length (Fm.kids f)) : Int) > (0 : Int)))) ?_
        refine rv (D.bool (decide ((↑(List.length (Fm.kids f)) : Int) > (0 : Int)))) ?_
        refine rv (D.bool (decide ((↑(List.length (Fm.kids f)) : Int) > (0 : Int)))) ?_
        refine rkn 26 (decide ((↑(List.length (Fm.kids f)) : Int) > (0 : Int))) true (decide_eq_true (by omega)) ?_
        refine rno (rno (rno (rno (rno (rno (rno ?_))))))
        refine rv (D.bool true) ?_
        refine rv (D.bool true) ?_
        refine rno (rno (rno (rno (rno (rno (rno (rno (rno (rno (rno (rno ?_)))))))))))
        refine rno ?_
        refine rv (D.bool true) ?_
        refine k_done (k_skip_seq (kct (k_seq ?_)))
        refine rv (D.bool false) ?_
        refine k_done (k_skip_seq (k_ret ?_))
        exact ⟨.inr rfl, by kernel_rfl, by kernel_rfl⟩
      · by_cases c5 : f.op = 3
        · by_cases c6 : f.n < 1
          · rw [mayR_no (fun h => h.2.2.2.2 ⟨c5, .inl c6⟩)]
            refine k_seq ?_
            refine rgf (D.lptr (1 : Nat) (0 : Nat)) (σ) ?_
            refine rv (D.bool false) ?_
            refine k_done (k_skip_seq (k_seq ?_))
            refine rv (D.lptr (1 : Nat) (2 : Nat)) ?_
            refine rv (D.sl (eFs (Fm.kids f)) none) ?_
            refine rve (D.int IntKind.i64 (↑(List.length (eFs (Fm.kids f))) : Int)) (.int IntKind.i64 ((↑(List.length (Fm.kids f)) : Int))) (by simp only [eFs_length]) ?_
            refine ra0 (D.int IntKind.i64 (↑(List.length (Fm.kids f)) : Int)) ?_
            refine k_done (k_skip_seq (k_seq (k_seq ?_)))
            refine rv (D.lptr (1 : Nat) (0 : Nat)) ?_
            refine rv (D.int IntKind.i64 (Fm.op f)) ?_
            refine rv (D.bool (decide (Fm.op f < (1 : Int)))) ?_
            refine rv (D.bool (decide (Fm.op f < (1 : Int)))) ?_
            refine rkn 12 (decide (Fm.op f < (1 : Int))) false (decide_eq_false (by assumption)) ?_
            refine rv (D.lptr (1 : Nat) (0 : Nat)) ?_
            refine rv (D.int IntKind.i64 (Fm.op f)) ?_
            refine rv (D.bool (decide (Fm.op f > (6 : Int)))) ?_
            refine rv (D.bool (decide (Fm.op f > (6 : Int)))) ?_
            refine rv (D.bool (decide (Fm.op f > (6 : Int)))) ?_
            refine rkn 17 (decide (Fm.op f > (6 : Int))) false (decide_eq_false (by assumption)) ?_
            refine rv (D.lptr (1 : Nat) (0 : Nat)) ?_
            refine rv (D.int IntKind.i64 (Fm.op f)) ?_
            refine rv (D.bool (decide (Fm.op f < (4 : Int)))) ?_
            refine rv (D.bool (decide (Fm.op f < (4 : Int)))) ?_
            refine rkn 21 (decide (Fm.op f < (4 : Int))) true (decide_eq_true (by assumption)) ?_
            refine rv (D.int IntKind.i64 (↑(List.length (Fm.kids f)) : Int)) ?_
            refine rv (D.bool (decide ((↑(List.length (Fm.kids f)) : Int) > (0 : Int)))) ?_
            refine rv (D.bool (decide ((↑(List.length (Fm.kids f)) : Int) > (0 : Int)))) ?_
            refine rv (D.bool (decide ((↑(List.length (Fm.kids f)) : Int) > (0 : Int)))) ?_
            refine rv (D.bool (decide ((↑(List.length (Fm.kids f)) : Int) > (0 : Int)))) ?_
            refine rkn 26 (decide ((↑(List.length (Fm.kids f)) : Int) > (0 : Int))) false (decide_eq_false (by omega)) ?_
            refine rv (D.lptr (1 : Nat) (0 : Nat)) ?_
            refine rv (D.int IntKind.i64 (Fm.op f)) ?_
            refine rv (D.bool (Fm.op f == (4 : Int))) ?_
            refine rv (D.bool (Fm.op f == (4 : Int))) ?_
            refine rkn 30 (Fm.op f == (4 : Int)) false (decide_eq_false (by omega)) ?_
            refine rno (rno ?_)
            refine rv (D.bool false) ?_
            refine rv (D.bool false) ?_
            refine rv (D.bool false) ?_
            refine rv (D.lptr (1 : Nat) (0 : Nat)) ?_
            refine rv (D.int IntKind.i64 (Fm.op f)) ?_
            refine rv (D.bool (Fm.op f == (3 : Int))) ?_
            refine rv (D.bool (Fm.op f == (3 : Int))) ?_
            refine rkn 39 (Fm.op f == (3 : Int)) true (decide_eq_true (by assumption)) ?_
            refine rv (D.lptr (1 : Nat) (1 : Nat)) ?_
            refine rv (D.int IntKind.i64 (Fm.n f)) ?_
            refine rv (D.bool (decide (Fm.n f < (1 : Int)))) ?_
            refine rv (D.bool (decide (Fm.n f < (1 : Int)))) ?_
            refine rkn 43 (decide (Fm.n f < (1 : Int))) true (decide_eq_true (by assumption)) ?_
            refine rno (rno (rno ?_))
            refine rv (D.bool true) ?_
            refine rv (D.bool true) ?_
            refine rv (D.bool true) ?_
            refine k_done (k_skip_seq (kct (k_seq ?_)))
            refine rv (D.bool false) ?_
            refine k_done (k_skip_seq (k_ret ?_))
            exact ⟨.inr rfl, by kernel_rfl, by kernel_rfl⟩
          · by_cases c7 : f.n > 1000
            · rw [mayR_no (fun h => h.2.2.2.2 ⟨c5, .inr c7⟩)]
              refine k_seq ?_
              refine rgf (D.lptr (1 : Nat) (0 : Nat)) (σ) ?_
              refine rv (D.bool false) ?_
              refine k_done (k_skip_seq (k_seq ?_))
              refine rv (D.lptr (1 : Nat) (2 : Nat)) ?_
              refine rv (D.sl (eFs (Fm.kids f)) none) ?_
              refine rve (D.int IntKind.i64 (↑(List.length (eFs (Fm.kids f))) : Int)) (.int IntKind.i64 ((↑(List.length (Fm.kids f)) : Int))) (by simp only [eFs_length]) ?_
              refine ra0 (D.int IntKind.i64 (↑(List.length (Fm.kids f)) : Int)) ?_
              refine k_done (k_skip_seq (k_seq (k_seq ?_)))
              refine rv (D.lptr (1 : Nat) (0 : Nat)) ?_
              refine rv (D.int IntKind.i64 (Fm.op f)) ?_
              refine rv (D.bool (decide (Fm.op f < (1 : Int)))) ?_
              refine rv (D.bool (decide (Fm.op f < (1 : Int)))) ?_
              refine rkn 12 (decide (Fm.op f < (1 : Int))) false (decide_eq_false (by assumption)) ?_
              refine rv (D.lptr (1 : Nat) (0 : Nat)) ?_
              refine rv (D.int IntKind.i64 (Fm.op f)) ?_
              refine rv (D.bool (decide (Fm.op f > (6 : Int)))) ?_
              refine rv (D.bool (decide (Fm.op f > (6 : Int)))) ?_
              refine rv (D.bool (decide (Fm.op f > (6 : Int)))) ?_
              refine rkn 17 (decide (Fm.op f > (6 : Int))) false (decide_eq_false (by assumption)) ?_
              refine rv (D.lptr (1 : Nat) (0 : Nat)) ?_
              refine rv (D.int IntKind.i64 (Fm.op f)) ?_
              refine rv (D.bool (decide (Fm.op f < (4 : Int)))) ?_
              refine rv (D.bool (decide (Fm.op f < (4 : Int)))) ?_
              refine rkn 21 (decide (Fm.op f < (4 : Int))) true (decide_eq_true (by assumption)) ?_
              refine rv (D.int IntKind.i64 (↑(List.length (Fm.kids f)) : Int)) ?_
              refine rv (D.bool (decide ((↑(List.length (Fm.kids f)) : Int) > (0 : Int)))) ?_
              refine rv (D.bool (decide ((↑(List.length (Fm.kids f)) : Int) > (0 : Int)))) ?_
              refine rv (D.bool (decide ((↑(List.length (Fm.kids f)) : Int) > (0 : Int)))) ?_
              refine rv (D.bool (decide ((↑(List.length (Fm.kids f)) : Int) > (0 : Int)))) ?_
              refine rkn 26 (decide ((↑(List.length (Fm.kids f)) : Int) > (0 : Int))) false (decide_eq_false (by omega)) ?_
              refine rv (D.lptr (1 : Nat) (0 : Nat)) ?_
              refine rv (D.int IntKind.i64 (Fm.op f)) ?_
              refine rv (D.bool (Fm.op f == (4 : Int))) ?_
              refine rv (D.bool (Fm.op f == (4 : Int))) ?_
              refine rkn 30 (Fm.op f == (4 : Int)) false (decide_eq_false (by omega)) ?_
              refine rno (rno ?_)
              refine rv (D.bool false) ?_
              refine rv (D.bool false) ?_
              refine rv (D.bool false) ?_
              refine rv (D.lptr (1 : Nat) (0 : Nat)) ?_
              refine rv (D.int IntKind.i64 (Fm.op f)) ?_
              refine rv (D.bool (Fm.op f == (3 : Int))) ?_
              refine rv (D.bool (Fm.op f == (3 : Int))) ?_
              refine rkn 39 (Fm.op f == (3 : Int)) true (decide_eq_true (by assumption)) ?_
              refine rv (D.lptr (1 : Nat) (1 : Nat)) ?_
              refine rv (D.int IntKind.i64 (Fm.n f)) ?_
              refine rv (D.bool (decide (Fm.n f < (1 : Int)))) ?_
              refine rv (D.bool (decide (Fm.n f < (1 : Int)))) ?_
              refine rkn 43 (decide (Fm.n f < (1 : Int))) false (decide_eq_false (by assumption)) ?_
              refine rv (D.lptr (1 : Nat) (1 : Nat)) ?_
              refine rv (D.int IntKind.i64 (Fm.n f)) ?_
              refine rv (D.bool (decide (Fm.n f > (1000 : Int)))) ?_
              refine rv (D.bool (decide (Fm.n f > (1000 : Int)))) ?_
              refine rv (D.bool (decide (Fm.n f > (1000 : Int)))) ?_
              refine rv (D.bool (decide (Fm.n f > (1000 : Int)))) ?_
              refine k_done (k_skip_seq ?_)
              refine rkn 49 (decide (Fm.n f > (1000 : Int))) true (decide_eq_true (by assumption)) ?_
              refine kct (k_seq ?_)
              refine rv (D.bool false) ?_
              refine k_done (k_skip_seq (k_ret ?_))
              exact ⟨.inr rfl, by kernel_rfl, by kernel_rfl⟩
            · have hh : headOK f := ⟨c1, c2, fun h => c4 h.2, fun h => by omega, fun h => by omega⟩
              rw [mayR_go hh]
              refine k_seq ?_
              refine rgf (D.lptr (1 : Nat) (0 : Nat)) (σ) ?_
              refine rv (D.bool false) ?_
              refine k_done (k_skip_seq (k_seq ?_))
              refine rv (D.lptr (1 : Nat) (2 : Nat)) ?_
              refine rv (D.sl (eFs (Fm.kids f)) none) ?_
              refine rve (D.int IntKind.i64 (↑(List.length (eFs (Fm.kids f))) : Int)) (.int IntKind.i64 ((↑(List.length (Fm.kids f)) : Int))) (by simp only [eFs_length]) ?_
              refine ra0 (D.int IntKind.i64 (↑(List.length (Fm.kids f)) : Int)) ?_
              refine k_done (k_skip_seq (k_seq (k_seq ?_)))
              refine rv (D.lptr (1 : Nat) (0 : Nat)) ?_
              refine rv (D.int IntKind.i64 (Fm.op f)) ?_
              refine rv (D.bool (decide (Fm.op f < (1 : Int)))) ?_
              refine rv (D.bool (decide (Fm.op f < (1 : Int)))) ?_
              refine rkn 12 (decide (Fm.op f < (1 : Int))) false (decide_eq_false (by assumption)) ?_
              refine rv (D.lptr (1 : Nat) (0 : Nat)) ?_
              refine rv (D.int IntKind.i64 (Fm.op f)) ?_
              refine rv (D.bool (decide (Fm.op f > (6 : Int)))) ?_
              refine rv (D.bool (decide (Fm.op f > (6 : Int)))) ?_
              refine rv (D.bool (decide (Fm.op f > (6 : Int)))) ?_
              refine rkn 17 (decide (Fm.op f > (6 : Int))) false (decide_eq_false (by assumption)) ?_
              refine rv (D.lptr (1 : Nat) (0 : Nat)) ?_
              refine rv (D.int IntKind.i64 (Fm.op f)) ?_
              refine rv (D.bool (decide (Fm.op f < (4 : Int)))) ?_
              refine rv (D.bool (decide (Fm.op f < (4 : Int)))) ?_
              refine rkn 21 (decide (Fm.op f < (4 : Int))) true (decide_eq_true (by assumption)) ?_
              refine rv (D.int IntKind.i64 (↑(List.length (Fm.kids f)) : Int)) ?_
              refine rv (D.bool (decide ((↑(List.length (Fm.kids f)) : Int) > (0 : Int)))) ?_
              refine rv (D.bool (decide ((↑(List.length (Fm.kids f)) : Int) > (0 : Int)))) ?_
              refine rv (D.bool (decide ((↑(List.length (Fm.kids f)) : Int) > (0 : Int)))) ?_
              refine rv (D.bool (decide ((↑(List.length (Fm.kids f)) : Int) > (0 : Int)))) ?_
              refine rkn 26 (decide ((↑(List.length (Fm.kids f)) : Int) > (0 : Int))) false (decide_eq_false (by omega)) ?_
              refine rv (D.lptr (1 : Nat) (0 : Nat)) ?_
              refine rv (D.int IntKind.i64 (Fm.op f)) ?_
              refine rv (D.bool (Fm.op f == (4 : Int))) ?_
              refine rv (D.bool (Fm.op f == (4 : Int))) ?_
              refine rkn 30 (Fm.op f == (4 : Int)) false (decide_eq_false (by omega)) ?_
              refine rno (rno ?_)
              refine rv (D.bool false) ?_
              refine rv (D.bool false) ?_
              refine rv (D.bool false) ?_
              refine rv (D.lptr (1 : Nat) (0 : Nat)) ?_
              refine rv (D.int IntKind.i64 (Fm.op f)) ?_
              refine rv (D.bool (Fm.op f == (3 : Int))) ?_
              refine rv (D.bool (Fm.op f == (3 : Int))) ?_
              refine rkn 39 (Fm.op f == (3 : Int)) true (decide_eq_true (by assumption)) ?_
              refine rv (D.lptr (1 : Nat) (1 : Nat)) ?_
              refine rv (D.int IntKind.i64 (Fm.n f)) ?_
              refine rv (D.bool (decide (Fm.n f < (1 : Int)))) ?_
              refine rv (D.bool (decide (Fm.n f < (1 : Int)))) ?_
              refine rkn 43 (decide (Fm.n f < (1 : Int))) false (decide_eq_false (by assumption)) ?_
              refine rv (D.lptr (1 : Nat) (1 : Nat)) ?_
              refine rv (D.int IntKind.i64 (Fm.n f)) ?_
              refine rv (D.bool (decide (Fm.n f > (1000 : Int)))) ?_
              refine rv (D.bool (decide (Fm.n f > (1000 : Int)))) ?_
              refine rv (D.bool (decide (Fm.n f > (1000 : Int)))) ?_
              refine rv (D.bool (decide (Fm.n f > (1000 : Int)))) ?_
              refine k_done (k_skip_seq ?_)
              refine rkn 49 (decide (Fm.n f > (1000 : Int))) false (decide_eq_false (by assumption)) ?_
              refine kcf (k_skip_seq (k_seq (k_seq ?_)))
              refine rv (D.int IntKind.i64 (0 : Int)) ?_
              refine k_done (k_skip_seq (k_block ?_))
              refine k_loop (S := Nat × D) (fun s => f38 f s.1 s.2) (fun _ => σ) (fun s => s.1 ≤ f.kids.length ∧ (f.kids.take s.1).all (mayR d) = true) (fun s => f.kids.length - s.1) (0, .junk) (by kernel_rfl) rfl (by simp) (by intro s hs; omega) ?_
              rintro ⟨i, x⟩ ⟨hi, hall⟩
              simp only [] at hi hall
              by_cases hlt : i < f.kids.length
              · have hg := kid_at hlt
                have hcall := ih f.kids[i] n [] (hkids _ (List.getElem_mem hlt)) (by omega)
                have hta := all_take (p := mayR d) hlt
                by_cases hb1 : mayR d f.kids[i] = true
                · rw [hb1] at hcall
                  refine k_seq (k_seq ?_)
                  refine rv (D.int IntKind.i64 (↑i : Int)) ?_
                  refine rv (D.int IntKind.i64 (↑(List.length (Fm.kids f)) : Int)) ?_
                  refine rv (D.bool (decide ((↑i : Int) < (↑(List.length (Fm.kids f)) : Int)))) ?_
                  refine k_done (k_skip_seq ?_)
                  refine rkn 52 (decide ((↑i : Int) < (↑(List.length (Fm.kids f)) : Int))) true (decide_eq_true (by omega)) ?_
                  refine kct (k_skip_seq (k_seq (k_block (k_seq ?_))))
                  refine rv (D.lptr (1 : Nat) (2 : Nat)) ?_
                  refine rv (D.sl (eFs (Fm.kids f)) none) ?_
                  refine rv (D.int IntKind.i64 (↑i : Int)) ?_
                  refine runs_indexL (eFs (Fm.kids f)) (o := none) (kd := IntKind.i64) (i) _ (by kernel_rfl) (by kernel_rfl) (by kernel_rfl) (by assumption) (by kernel_rfl) ?_
                  refine rv (D.agg [D.int IntKind.i64 (Fm.op (Fm.kids f)[i]), D.int IntKind.i64 (Fm.n (Fm.kids f)[i]), D.sl (eFs (Fm.kids (Fm.kids f)[i])) none]) ?_
                  refine runs_call ([D.agg [D.int IntKind.i64 (Fm.op (Fm.kids f)[i]), D.int IntKind.i64 (Fm.n (Fm.kids f)[i]), D.sl (eFs (Fm.kids (Fm.kids f)[i])) none]]) (by kernel_rfl) (by kernel_rfl) (by kernel_rfl) (by kernel_rfl) (hcall) (by kernel_rfl) ?_
                  refine ra0 (D.bool true) ?_
                  refine k_done (k_skip_seq (k_seq ?_))
                  refine rv (D.bool true) ?_
                  refine rv (D.bool false) ?_
                  refine k_done (k_skip_seq (kcf (k_skip_block (k_skip_seq ?_))))
                  refine rv (D.int IntKind.i64 (↑i : Int)) ?_
                  refine rve (D.int IntKind.i64 (IntKind.wrap IntKind.i64 ((↑i : Int) + (1 : Int)))) (.int IntKind.i64 ((i + 1 : Nat) : Int)) (congrArg (D.int IntKind.i64) (show IntKind.wrap IntKind.i64 ((↑i : Int) + (1 : Int)) = ((i + 1 : Nat) : Int) from wrap_eq (by omega) (by omega) (by omega))) ?_
                  refine ra0 (D.int IntKind.i64 (↑(i + (1 : Nat)) : Int)) ?_
                  refine k_done (k_skip_back ?_)
                  exact ⟨(i + 1, .junk), ⟨hlt, by rw [hta, hall, hb1]; rfl⟩, by simp only []; omega, by kernel_rfl, rfl⟩
                · have hb2 : mayR d f.kids[i] = false := by simpa using hb1
                  rw [hb2] at hcall
                  rw [all_false hlt hb2]
                  refine k_seq (k_seq ?_)
                  refine rv (D.int IntKind.i64 (↑i : Int)) ?_
                  refine rv (D.int IntKind.i64 (↑(List.length (Fm.kids f)) : Int)) ?_
                  refine rv (D.bool (decide ((↑i : Int) < (↑(List.length (Fm.kids f)) : Int)))) ?_
                  refine k_done (k_skip_seq ?_)
                  refine rkn 52 (decide ((↑i : Int) < (↑(List.length (Fm.kids f)) : Int))) true (decide_eq_true (by omega)) ?_
                  refine kct (k_skip_seq (k_seq (k_block (k_seq ?_))))
                  refine rv (D.lptr (1 : Nat) (2 : Nat)) ?_
                  refine rv (D.sl (eFs (Fm.kids f)) none) ?_
                  refine rv (D.int IntKind.i64 (↑i : Int)) ?_
                  refine runs_indexL (eFs (Fm.kids f)) (o := none) (kd := IntKind.i64) (i) _ (by kernel_rfl) (by kernel_rfl) (by kernel_rfl) (by assumption) (by kernel_rfl) ?_
                  refine rv (D.agg [D.int IntKind.i64 (Fm.op (Fm.kids f)[i]), D.int IntKind.i64 (Fm.n (Fm.kids f)[i]), D.sl (eFs (Fm.kids (Fm.kids f)[i])) none]) ?_
                  refine runs_call ([D.agg [D.int IntKind.i64 (Fm.op (Fm.kids f)[i]), D.int IntKind.i64 (Fm.n (Fm.kids f)[i]), D.sl (eFs (Fm.kids (Fm.kids f)[i])) none]]) (by kernel_rfl) (by kernel_rfl) (by kernel_rfl) (by kernel_rfl) (hcall) (by kernel_rfl) ?_
                  refine ra0 (D.bool false) ?_
                  refine k_done (k_skip_seq (k_seq ?_))
                  refine rv (D.bool false) ?_
                  refine rv (D.bool true) ?_
                  refine k_done (k_skip_seq (kct (k_seq ?_)))
                  refine rv (D.bool false) ?_
                  refine k_done (k_skip_seq (k_ret ?_))
                  exact ⟨.inr rfl, by kernel_rfl, by kernel_rfl⟩
              · rw [List.take_of_length_le (by omega)] at hall
                rw [hall]
                refine k_seq (k_seq ?_)
                refine rv (D.int IntKind.i64 (↑i : Int)) ?_
                refine rv (D.int IntKind.i64 (↑(List.length (Fm.kids f)) : Int)) ?_
                refine rv (D.bool (decide ((↑i : Int) < (↑(List.length (Fm.kids f)) : Int)))) ?_
                refine k_done (k_skip_seq ?_)
                refine rkn 52 (decide ((↑i : Int) < (↑(List.length (Fm.kids f)) : Int))) false (decide_eq_false (by omega)) ?_
                refine kcf (k_exit_seq (k_exit_back (k_exit_hit rfl (k_skip_seq (k_seq ?_)))))
                refine rv (D.bool true) ?_
                refine k_done (k_skip_seq (k_ret ?_))
                exact ⟨.inr rfl, by kernel_rfl, by kernel_rfl⟩
        · have hh : headOK f := ⟨c1, c2, fun h => c4 h.2, fun h => by omega, fun h => by omega⟩
          rw [mayR_go hh]
          refine k_seq ?_
          refine rgf (D.lptr (1 : Nat) (0 : Nat)) (σ) ?_
          refine rv (D.bool false) ?_
          refine k_done (k_skip_seq (k_seq ?_))
          refine rv (D.lptr (1 : Nat) (2 : Nat)) ?_
          refine rv (D.sl (eFs (Fm.kids f)) none) ?_
          refine rve (D.int IntKind.i64 (↑(List.length (eFs (Fm.kids f))) : Int)) (.int IntKind.i64 ((↑(List.length (Fm.kids f)) : Int))) (by simp only [eFs_length]) ?_
          refine ra0 (D.int IntKind.i64 (↑(List.length (Fm.kids f)) : Int)) ?_
          refine k_done (k_skip_seq (k_seq (k_seq ?_)))
          refine rv (D.lptr (1 : Nat) (0 : Nat)) ?_
          refine rv (D.int IntKind.i64 (Fm.op f)) ?_
          refine rv (D.bool (decide (Fm.op f < (1 : Int)))) ?_
          refine rv (D.bool (decide (Fm.op f < (1 : Int)))) ?_
          refine rkn 12 (decide (Fm.op f < (1 : Int))) false (decide_eq_false (by assumption)) ?_
          refine rv (D.lptr (1 : Nat) (0 : Nat)) ?_
          refine rv (D.int IntKind.i64 (Fm.op f)) ?_
          refine rv (D.bool (decide (Fm.op f > (6 : Int)))) ?_
          refine rv (D.bool (decide (Fm.op f > (6 : Int)))) ?_
          refine rv (D.bool (decide (Fm.op f > (6 : Int)))) ?_
          refine rkn 17 (decide (Fm.op f > (6 : Int))) false (decide_eq_false (by assumption)) ?_
          refine rv (D.lptr (1 : Nat) (0 : Nat)) ?_
          refine rv (D.int IntKind.i64 (Fm.op f)) ?_
          refine rv (D.bool (decide (Fm.op f < (4 : Int)))) ?_
          refine rv (D.bool (decide (Fm.op f < (4 : Int)))) ?_
          refine rkn 21 (decide (Fm.op f < (4 : Int))) true (decide_eq_true (by assumption)) ?_
          refine rv (D.int IntKind.i64 (↑(List.length (Fm.kids f)) : Int)) ?_
          refine rv (D.bool (decide ((↑(List.length (Fm.kids f)) : Int) > (0 : Int)))) ?_
          refine rv (D.bool (decide ((↑(List.length (Fm.kids f)) : Int) > (0 : Int)))) ?_
          refine rv (D.bool (decide ((↑(List.length (Fm.kids f)) : Int) > (0 : Int)))) ?_
          refine rv (D.bool (decide ((↑(List.length (Fm.kids f)) : Int) > (0 : Int)))) ?_
          refine rkn 26 (decide ((↑(List.length (Fm.kids f)) : Int) > (0 : Int))) false (decide_eq_false (by omega)) ?_
          refine rv (D.lptr (1 : Nat) (0 : Nat)) ?_
          refine rv (D.int IntKind.i64 (Fm.op f)) ?_
          refine rv (D.bool (Fm.op f == (4 : Int))) ?_
          refine rv (D.bool (Fm.op f == (4 : Int))) ?_
          refine rkn 30 (Fm.op f == (4 : Int)) false (decide_eq_false (by omega)) ?_
          refine rno (rno ?_)
          refine rv (D.bool false) ?_
          refine rv (D.bool false) ?_
          refine rv (D.bool false) ?_
          refine rv (D.lptr (1 : Nat) (0 : Nat)) ?_
          refine rv (D.int IntKind.i64 (Fm.op f)) ?_
          refine rv (D.bool (Fm.op f == (3 : Int))) ?_
          refine rv (D.bool (Fm.op f == (3 : Int))) ?_
          refine rkn 39 (Fm.op f == (3 : Int)) false (decide_eq_false (by assumption)) ?_
          refine rno (rno (rno (rno (rno (rno (rno (rno ?_)))))))
          refine rv (D.bool false) ?_
          refine rv (D.bool false) ?_
          refine k_done (k_skip_seq (kcf (k_skip_seq (k_seq (k_seq ?_)))))
          refine rv (D.int IntKind.i64 (0 : Int)) ?_
          refine k_done (k_skip_seq (k_block ?_))
          refine k_loop (S := Nat × D) (fun s => f38 f s.1 s.2) (fun _ => σ) (fun s => s.1 ≤ f.kids.length ∧ (f.kids.take s.1).all (mayR d) = true) (fun s => f.kids.length - s.1) (0, .junk) (by kernel_rfl) rfl (by simp) (by intro s hs; omega) ?_
          rintro ⟨i, x⟩ ⟨hi, hall⟩
          simp only [] at hi hall
          by_cases hlt : i < f.kids.length
          · have hg := kid_at hlt
            have hcall := ih f.kids[i] n [] (hkids _ (List.getElem_mem hlt)) (by omega)
            have hta := all_take (p := mayR d) hlt
            by_cases hb1 : mayR d f.kids[i] = true
            · rw [hb1] at hcall
              refine k_seq (k_seq ?_)
              refine rv (D.int IntKind.i64 (↑i : Int)) ?_
              refine rv (D.int IntKind.i64 (↑(List.length (Fm.kids f)) : Int)) ?_
              refine rv (D.bool (decide ((↑i : Int) < (↑(List.length (Fm.kids f)) : Int)))) ?_
              refine k_done (k_skip_seq ?_)
              refine rkn 52 (decide ((↑i : Int) < (↑(List.length (Fm.kids f)) : Int))) true (decide_eq_true (by omega)) ?_
              refine kct (k_skip_seq (k_seq (k_block (k_seq ?_))))
              refine rv (D.lptr (1 : Nat) (2 : Nat)) ?_
              refine rv (D.sl (eFs (Fm.kids f)) none) ?_
              refine rv (D.int IntKind.i64 (↑i : Int)) ?_
              refine runs_indexL (eFs (Fm.kids f)) (o := none) (kd := IntKind.i64) (i) _ (by kernel_rfl) (by kernel_rfl) (by kernel_rfl) (by assumption) (by kernel_rfl) ?_
              refine rv (D.agg [D.int IntKind.i64 (Fm.op (Fm.kids f)[i]), D.int IntKind.i64 (Fm.n (Fm.kids f)[i]), D.sl (eFs (Fm.kids (Fm.kids f)[i])) none]) ?_
              refine runs_call ([D.agg [D.int IntKind.i64 (Fm.op (Fm.kids f)[i]), D.int IntKind.i64 (Fm.n (Fm.kids f)[i]), D.sl (eFs (Fm.kids (Fm.kids f)[i])) none]]) (by kernel_rfl) (by kernel_rfl) (by kernel_rfl) (by kernel_rfl) (hcall) (by kernel_rfl) ?_
              refine ra0 (D.bool true) ?_
              refine k_done (k_skip_seq (k_seq ?_))
              refine rv (D.bool true) ?_
              refine rv (D.bool false) ?_
              refine k_done (k_skip_seq (kcf (k_skip_block (k_skip_seq ?_))))
              refine rv (D.int IntKind.i64 (↑i : Int)) ?_
              refine rve (D.int IntKind.i64 (IntKind.wrap IntKind.i64 ((↑i : Int) + (1 : Int)))) (.int IntKind.i64 ((i + 1 : Nat) : Int)) (congrArg (D.int IntKind.i64) (show IntKind.wrap IntKind.i64 ((↑i : Int) + (1 : Int)) = ((i + 1 : Nat) : Int) from wrap_eq (by omega) (by omega) (by omega))) ?_
              refine ra0 (D.int IntKind.i64 (↑(i + (1 : Nat)) : Int)) ?_
              refine k_done (k_skip_back ?_)
              exact ⟨(i + 1, .junk), ⟨hlt, by rw [hta, hall, hb1]; rfl⟩, by simp only []; omega, by kernel_rfl, rfl⟩
            · have hb2 : mayR d f.kids[i] = false := by simpa using hb1
              rw [hb2] at hcall
              rw [all_false hlt hb2]
              refine k_seq (k_seq ?_)
              refine rv (D.int IntKind.i64 (↑i : Int)) ?_
              refine rv (D.int IntKind.i64 (↑(List.length (Fm.kids f)) : Int)) ?_
              refine rv (D.bool (decide ((↑i : Int) < (↑(List.length (Fm.kids f)) : Int)))) ?_
              refine k_done (k_skip_seq ?_)
              refine rkn 52 (decide ((↑i : Int) < (↑(List.length (Fm.kids f)) : Int))) true (decide_eq_true (by omega)) ?_
              refine kct (k_skip_seq (k_seq (k_block (k_seq ?_))))
              refine rv (D.lptr (1 : Nat) (2 : Nat)) ?_
              refine rv (D.sl (eFs (Fm.kids f)) none) ?_
              refine rv (D.int IntKind.i64 (↑i : Int)) ?_
              refine runs_indexL (eFs (Fm.kids f)) (o := none) (kd := IntKind.i64) (i) _ (by kernel_rfl) (by kernel_rfl) (by kernel_rfl) (by assumption) (by kernel_rfl) ?_
              refine rv (D.agg [D.int IntKind.i64 (Fm.op (Fm.kids f)[i]), D.int IntKind.i64 (Fm.n (Fm.kids f)[i]), D.sl (eFs (Fm.kids (Fm.kids f)[i])) none]) ?_
              refine runs_call ([D.agg [D.int IntKind.i64 (Fm.op (Fm.kids f)[i]), D.int IntKind.i64 (Fm.n (Fm.kids f)[i]), D.sl (eFs (Fm.kids (Fm.kids f)[i])) none]]) (by kernel_rfl) (by kernel_rfl) (by kernel_rfl) (by kernel_rfl) (hcall) (by kernel_rfl) ?_
              refine ra0 (D.bool false) ?_
              refine k_done (k_skip_seq (k_seq ?_))
              refine rv (D.bool false) ?_
              refine rv (D.bool true) ?_
              refine k_done (k_skip_seq (kct (k_seq ?_)))
              refine rv (D.bool false) ?_
              refine k_done (k_skip_seq (k_ret ?_))
              exact ⟨.inr rfl, by kernel_rfl, by kernel_rfl⟩
          · rw [List.take_of_length_le (by omega)] at hall
            rw [hall]
            refine k_seq (k_seq ?_)
            refine rv (D.int IntKind.i64 (↑i : Int)) ?_
            refine rv (D.int IntKind.i64 (↑(List.length (Fm.kids f)) : Int)) ?_
            refine rv (D.bool (decide ((↑i : Int) < (↑(List.length (Fm.kids f)) : Int)))) ?_
            refine k_done (k_skip_seq ?_)
            refine rkn 52 (decide ((↑i : Int) < (↑(List.length (Fm.kids f)) : Int))) false (decide_eq_false (by omega)) ?_
            refine kcf (k_exit_seq (k_exit_back (k_exit_hit rfl (k_skip_seq (k_seq ?_)))))
            refine rv (D.bool true) ?_
            refine k_done (k_skip_seq (k_ret ?_))
            exact ⟨.inr rfl, by kernel_rfl, by kernel_rfl⟩
    · by_cases c4 : f.op = 4
      · by_cases c5 : f.kids.length = 1
        · have hh : headOK f := ⟨c1, c2, fun h => by omega, fun h => h.2 c5, fun h => by omega⟩
          rw [mayR_go hh]
          refine k_seq ?_
          refine rgf (D.lptr (1 : Nat) (0 : Nat)) (σ) ?_
          refine rv (D.bool false) ?_
          refine k_done (k_skip_seq (k_seq ?_))
          refine rv (D.lptr (1 : Nat) (2 : Nat)) ?_
          refine rv (D.sl (eFs (Fm.kids f)) none) ?_
          refine rve (D.int IntKind.i64 (↑(List.length (eFs (Fm.kids f))) : Int)) (.int IntKind.i64 ((↑(List.length (Fm.kids f)) : Int))) (by simp only [eFs_length]) ?_
          refine ra0 (D.int IntKind.i64 (↑(List.length (Fm.kids f)) : Int)) ?_
          refine k_done (k_skip_seq (k_seq (k_seq ?_)))
          refine rv (D.lptr (1 : Nat) (0 : Nat)) ?_
          refine rv (D.int IntKind.i64 (Fm.op f)) ?_
          refine rv (D.bool (decide (Fm.op f < (1 : Int)))) ?_
          refine rv (D.bool (decide (Fm.op f < (1 : Int)))) ?_
          refine rkn 12 (decide (Fm.op f < (1 : Int))) false (decide_eq_false (by assumption)) ?_
          refine rv (D.lptr (1 : Nat) (0 : Nat)) ?_
          refine rv (D.int IntKind.i64 (Fm.op f)) ?_
          refine rv (D.bool (decide (Fm.op f > (6 : Int)))) ?_
          refine rv (D.bool (decide (Fm.op f > (6 : Int)))) ?_
          refine rv (D.bool (decide (Fm.op f > (6 : Int)))) ?_
          refine rkn 17 (decide (Fm.op f > (6 : Int))) false (decide_eq_false (by assumption)) ?_
          refine rv (D.lptr (1 : Nat) (0 : Nat)) ?_
          refine rv (D.int IntKind.i64 (Fm.op f)) ?_
          refine rv (D.bool (decide (Fm.op f < (4 : Int)))) ?_
          refine rv (D.bool (decide (Fm.op f < (4 : Int)))) ?_
          refine rkn 21 (decide (Fm.op f < (4 : Int))) false (decide_eq_false (by assumption)) ?_
          refine rno (rno ?_)
          refine rv (D.bool false) ?_
          refine rv (D.bool false) ?_
          refine rv (D.bool false) ?_
          refine rv (D.lptr (1 : Nat) (0 : Nat)) ?_
          refine rv (D.int IntKind.i64 (Fm.op f)) ?_
          refine rv (D.bool (Fm.op f == (4 : Int))) ?_
          refine rv (D.bool (Fm.op f == (4 : Int))) ?_
          refine rkn 30 (Fm.op f == (4 : Int)) true (decide_eq_true (by assumption)) ?_
          refine rv (D.int IntKind.i64 (↑(List.length (Fm.kids f)) : Int)) ?_
          refine rv (D.bool ((↑(List.length (Fm.kids f)) : Int) != (1 : Int))) ?_
          refine rv (D.bool ((↑(List.length (Fm.kids f)) : Int) != (1 : Int))) ?_
          refine rv (D.bool ((↑(List.length (Fm.kids f)) : Int) != (1 : Int))) ?_
          refine rv (D.bool ((↑(List.length (Fm.kids f)) : Int) != (1 : Int))) ?_
          refine rkn 35 ((↑(List.length (Fm.kids f)) : Int) != (1 : Int)) false (bne_eq_false_iff_eq.2 (by omega)) ?_
          refine rv (D.lptr (1 : Nat) (0 : Nat)) ?_
          refine rv (D.int IntKind.i64 (Fm.op f)) ?_
          refine rv (D.bool (Fm.op f == (3 : Int))) ?_
          refine rv (D.bool (Fm.op f == (3 : Int))) ?_
          refine rkn 39 (Fm.op f == (3 : Int)) false (decide_eq_false (by omega)) ?_
          refine rno (rno (rno (rno (rno (rno (rno (rno ?_)))))))
          refine rv (D.bool false) ?_
          refine rv (D.bool false) ?_
          refine k_done (k_skip_seq (kcf (k_skip_seq (k_seq (k_seq ?_)))))
          refine rv (D.int IntKind.i64 (0 : Int)) ?_
          refine k_done (k_skip_seq (k_block ?_))
          refine k_loop (S := Nat × D) (fun s => f38 f s.1 s.2) (fun _ => σ) (fun s => s.1 ≤ f.kids.length ∧ (f.kids.take s.1).all (mayR d) = true) (fun s => f.kids.length - s.1) (0, .junk) (by kernel_rfl) rfl (by simp) (by intro s hs; omega) ?_
          rintro ⟨i, x⟩ ⟨hi, hall⟩
          simp only [] at hi hall
          by_cases hlt : i < f.kids.length
          · have hg := kid_at hlt
            have hcall := ih f.kids[i] n [] (hkids _ (List.getElem_mem hlt)) (by omega)
            have hta := all_take (p := mayR d) hlt
            by_cases hb1 : mayR d f.kids[i] = true
            · rw [hb1] at hcall
              refine k_seq (k_seq ?_)
              refine rv (D.int IntKind.i64 (↑i : Int)) ?_
              refine rv (D.int IntKind.i64 (↑(List.length (Fm.kids f)) : Int)) ?_
              refine rv (D.bool (decide ((↑i : Int) < (↑(List.length (Fm.kids f)) : Int)))) ?_
              refine k_done (k_skip_seq ?_)
              refine rkn 52 (decide ((↑i : Int) < (↑(List.length (Fm.kids f)) : Int))) true (decide_eq_true (by omega)) ?_
              refine kct (k_skip_seq (k_seq (k_block (k_seq ?_))))
              refine rv (D.lptr (1 : Nat) (2 : Nat)) ?_
              refine rv (D.sl (eFs (Fm.kids f)) none) ?_
              refine rv (D.int IntKind.i64 (↑i : Int)) ?_
              refine runs_indexL (eFs (Fm.kids f)) (o := none) (kd := IntKind.i64) (i) _ (by kernel_rfl) (by kernel_rfl) (by kernel_rfl) (by assumption) (by kernel_rfl) ?_
              refine rv (D.agg [D.int IntKind.i64 (Fm.op (Fm.kids f)[i]), D.int IntKind.i64 (Fm.n (Fm.kids f)[i]), D.sl (eFs (Fm.kids (Fm.kids f)[i])) none]) ?_
              refine runs_call ([D.agg [D.int IntKind.i64 (Fm.op (Fm.kids f)[i]), D.int IntKind.i64 (Fm.n (Fm.kids f)[i]), D.sl (eFs (Fm.kids (Fm.kids f)[i])) none]]) (by kernel_rfl) (by kernel_rfl) (by kernel_rfl) (by kernel_rfl) (hcall) (by kernel_rfl) ?_
              refine ra0 (D.bool true) ?_
              refine k_done (k_skip_seq (k_seq ?_))
              refine rv (D.bool true) ?_
              refine rv (D.bool false) ?_
              refine k_done (k_skip_seq (kcf (k_skip_block (k_skip_seq ?_))))
              refine rv (D.int IntKind.i64 (↑i : Int)) ?_
              refine rve (D.int IntKind.i64 (IntKind.wrap IntKind.i64 ((↑i : Int) + (1 : Int)))) (.int IntKind.i64 ((i + 1 : Nat) : Int)) (congrArg (D.int IntKind.i64) (show IntKind.wrap IntKind.i64 ((↑i : Int) + (1 : Int)) = ((i + 1 : Nat) : Int) from wrap_eq (by omega) (by omega) (by omega))) ?_
              refine ra0 (D.int IntKind.i64 (↑(i + (1 : Nat)) : Int)) ?_
              refine k_done (k_skip_back ?_)
              exact ⟨(i + 1, .junk), ⟨hlt, by rw [hta, hall, hb1]; rfl⟩, by simp only []; omega, by kernel_rfl, rfl⟩
            · have hb2 : mayR d f.kids[i] = false := by simpa using hb1
              rw [hb2] at hcall
              rw [all_false hlt hb2]
              refine k_seq (k_seq ?_)
              refine rv (D.int IntKind.i64 (↑i : Int)) ?_
              refine rv (D.int IntKind.i64 (↑(List.length (Fm.kids f)) : Int)) ?_
              refine rv (D.bool (decide ((↑i : Int) < (↑(List.length (Fm.kids f)) : Int)))) ?_
              refine k_done (k_skip_seq ?_)
              refine rkn 52 (decide ((↑i : Int) < (↑(List.length (Fm.kids f)) : Int))) true (decide_eq_true (by omega)) ?_
              refine kct (k_skip_seq (k_seq (k_block (k_seq ?_))))
              refine rv (D.lptr (1 : Nat) (2 : Nat)) ?_
              refine rv (D.sl (eFs (Fm.kids f)) none) ?_
              refine rv (D.int IntKind.i64 (↑i : Int)) ?_
              refine runs_indexL (eFs (Fm.kids f)) (o := none) (kd := IntKind.i64) (i) _ (by kernel_rfl) (by kernel_rfl) (by kernel_rfl) (by assumption) (by kernel_rfl) ?_
              refine rv (D.agg [D.int IntKind.i64 (Fm.op (Fm.kids f)[i]), D.int IntKind.i64 (Fm.n (Fm.kids f)[i]), D.sl (eFs (Fm.kids (Fm.kids f)[i])) none]) ?_
              refine runs_call ([D.agg [D.int IntKind.i64 (Fm.op (Fm.kids f)[i]), D.int IntKind.i64 (Fm.n (Fm.kids f)[i]), D.sl (eFs (Fm.kids (Fm.kids f)[i])) none]]) (by kernel_rfl) (by kernel_rfl) (by kernel_rfl) (by kernel_rfl) (hcall) (by kernel_rfl) ?_
              refine ra0 (D.bool false) ?_
              refine k_done (k_skip_seq (k_seq ?_))
              refine rv (D.bool false) ?_
              refine rv (D.bool true) ?_
              refine k_done (k_skip_seq (kct (k_seq ?_)))
              refine rv (D.bool false) ?_
              refine k_done (k_skip_seq (k_ret ?_))
              exact ⟨.inr rfl, by kernel_rfl, by kernel_rfl⟩
          · rw [List.take_of_length_le (by omega)] at hall
            rw [hall]
            refine k_seq (k_seq ?_)
            refine rv (D.int IntKind.i64 (↑i : Int)) ?_
            refine rv (D.int IntKind.i64 (↑(List.length (Fm.kids f)) : Int)) ?_
            refine rv (D.bool (decide ((↑i : Int) < (↑(List.length (Fm.kids f)) : Int)))) ?_
            refine k_done (k_skip_seq ?_)
            refine rkn 52 (decide ((↑i : Int) < (↑(List.length (Fm.kids f)) : Int))) false (decide_eq_false (by omega)) ?_
            refine kcf (k_exit_seq (k_exit_back (k_exit_hit rfl (k_skip_seq (k_seq ?_)))))
            refine rv (D.bool true) ?_
            refine k_done (k_skip_seq (k_ret ?_))
            exact ⟨.inr rfl, by kernel_rfl, by kernel_rfl⟩
        · rw [mayR_no (fun h => h.2.2.2.1 ⟨c4, c5⟩)]
          refine k_seq ?_
          refine rgf (D.lptr (1 : Nat) (0 : Nat)) (σ) ?_
          refine rv (D.bool false) ?_
          refine k_done (k_skip_seq (k_seq ?_))
          refine rv (D.lptr (1 : Nat) (2 : Nat)) ?_
          refine rv (D.sl (eFs (Fm.kids f)) none) ?_
          refine rve (D.int IntKind.i64 (↑(List.length (eFs (Fm.kids f))) : Int)) (.int IntKind.i64 ((↑(List.length (Fm.kids f)) : Int))) (by simp only [eFs_length]) ?_
          refine ra0 (D.int IntKind.i64 (↑(List.length (Fm.kids f)) : Int)) ?_
          refine k_done (k_skip_seq (k_seq (k_seq ?_)))
          refine rv (D.lptr (1 : Nat) (0 : Nat)) ?_
          refine rv (D.int IntKind.i64 (Fm.op f)) ?_
          refine rv (D.bool (decide (Fm.op f < (1 : Int)))) ?_
          refine rv (D.bool (decide (Fm.op f < (1 : Int)))) ?_
          refine rkn 12 (decide (Fm.op f < (1 : Int))) false (decide_eq_false (by assumption)) ?_
          refine rv (D.lptr (1 : Nat) (0 : Nat)) ?_
          refine rv (D.int IntKind.i64 (Fm.op f)) ?_
          refine rv (D.bool (decide (Fm.op f > (6 : Int)))) ?_
          refine rv (D.bool (decide (Fm.op f > (6 : Int)))) ?_
          refine rv (D.bool (decide (Fm.op f > (6 : Int)))) ?_
          refine rkn 17 (decide (Fm.op f > (6 : Int))) false (decide_eq_false (by assumption)) ?_
          refine rv (D.lptr (1 : Nat) (0 : Nat)) ?_
          refine rv (D.int IntKind.i64 (Fm.op f)) ?_
          refine rv (D.bool (decide (Fm.op f < (4 : Int)))) ?_
          refine rv (D.bool (decide (Fm.op f < (4 : Int)))) ?_
          refine rkn 21 (decide (Fm.op f < (4 : Int))) false (decide_eq_false (by assumption)) ?_
          refine rno (rno ?_)
          refine rv (D.bool false) ?_
          refine rv (D.bool false) ?_
          refine rv (D.bool false) ?_
          refine rv (D.lptr (1 : Nat) (0 : Nat)) ?_
          refine rv (D.int IntKind.i64 (Fm.op f)) ?_
          refine rv (D.bool (Fm.op f == (4 : Int))) ?_
          refine rv (D.bool (Fm.op f == (4 : Int))) ?_
          refine rkn 30 (Fm.op f == (4 : Int)) true (decide_eq_true (by assumption)) ?_
          refine rv (D.int IntKind.i64 (↑(List.length (Fm.kids f)) : Int)) ?_
          refine rv (D.bool ((↑(List.length (Fm.kids f)) : Int) != (1 : Int))) ?_
          refine rv (D.bool ((↑(List.length (Fm.kids f)) : Int) != (1 : Int))) ?_
          refine rv (D.bool ((↑(List.length (Fm.kids f)) : Int) != (1 : Int))) ?_
          refine rv (D.bool ((↑(List.length (Fm.kids f)) : Int) != (1 : Int))) ?_
          refine rkn 35 ((↑(List.length (Fm.kids f)) : Int) != (1 : Int)) true (bne_iff_ne.2 (by omega)) ?_
          refine rno (rno (rno (rno (rno (rno (rno (rno (rno (rno (rno (rno ?_)))))))))))
          refine rno ?_
          refine rv (D.bool true) ?_
          refine k_done (k_skip_seq (kct (k_seq ?_)))
          refine rv (D.bool false) ?_
          refine k_done (k_skip_seq (k_ret ?_))
          exact ⟨.inr rfl, by kernel_rfl, by kernel_rfl⟩
      · have hh : headOK f := ⟨c1, c2, fun h => by omega, fun h => c4 h.1, fun h => by omega⟩
        rw [mayR_go hh]
        refine k_seq ?_
        refine rgf (D.lptr (1 : Nat) (0 : Nat)) (σ) ?_
        refine rv (D.bool false) ?_
        refine k_done (k_skip_seq (k_seq ?_))
        refine rv (D.lptr (1 : Nat) (2 : Nat)) ?_
        refine rv (D.sl (eFs (Fm.kids f)) none) ?_
        refine rve (D.int IntKind.i64 (↑(List.length (eFs (Fm.kids f))) : Int)) (.int IntKind.i64 ((↑(List.length (Fm.kids f)) : Int))) (by simp only [eFs_length]) ?_
        refine ra0 (D.int IntKind.i64 (↑(List.length (Fm.kids f)) : Int)) ?_
        refine k_done (k_skip_seq (k_seq (k_seq ?_)))
        refine rv (D.lptr (1 : Nat) (0 : Nat)) ?_
        refine rv (D.int IntKind.i64 (Fm.op f)) ?_
        refine rv (D.bool (decide (Fm.op f < (1 : Int)))) ?_
        refine rv (D.bool (decide (Fm.op f < (1 : Int)))) ?_
        refine rkn 12 (decide (Fm.op f < (1 : Int))) false (decide_eq_false (by assumption)) ?_
        refine rv (D.lptr (1 : Nat) (0 : Nat)) ?_
        refine rv (D.int IntKind.i64 (Fm.op f)) ?_
        refine rv (D.bool (decide (Fm.op f > (6 : Int)))) ?_
        refine rv (D.bool (decide (Fm.op f > (6 : Int)))) ?_
        refine rv (D.bool (decide (Fm.op f > (6 : Int)))) ?_
        refine rkn 17 (decide (Fm.op f > (6 : Int))) false (decide_eq_false (by assumption)) ?_
        refine rv (D.lptr (1 : Nat) (0 : Nat)) ?_
        refine rv (D.int IntKind.i64 (Fm.op f)) ?_
        refine rv (D.bool (decide (Fm.op f < (4 : Int)))) ?_
        refine rv (D.bool (decide (Fm.op f < (4 : Int)))) ?_
        refine rkn 21 (decide (Fm.op f < (4 : Int))) false (decide_eq_false (by assumption)) ?_
        refine rno (rno ?_)
        refine rv (D.bool false) ?_
        refine rv (D.bool false) ?_
        refine rv (D.bool false) ?_
        refine rv (D.lptr (1 : Nat) (0 : Nat)) ?_
        refine rv (D.int IntKind.i64 (Fm.op f)) ?_
        refine rv (D.bool (Fm.op f == (4 : Int))) ?_
        refine rv (D.bool (Fm.op f == (4 : Int))) ?_
        refine rkn 30 (Fm.op f == (4 : Int)) false (decide_eq_false (by assumption)) ?_
        refine rno (rno ?_)
        refine rv (D.bool false) ?_
        refine rv (D.bool false) ?_
        refine rv (D.bool false) ?_
        refine rv (D.lptr (1 : Nat) (0 : Nat)) ?_
        refine rv (D.int IntKind.i64 (Fm.op f)) ?_
        refine rv (D.bool (Fm.op f == (3 : Int))) ?_
        refine rv (D.bool (Fm.op f == (3 : Int))) ?_
        refine rkn 39 (Fm.op f == (3 : Int)) false (decide_eq_false (by omega)) ?_
        refine rno (rno (rno (rno (rno (rno (rno (rno ?_)))))))
        refine rv (D.bool false) ?_
        refine rv (D.bool false) ?_
        refine k_done (k_skip_seq (kcf (k_skip_seq (k_seq (k_seq ?_)))))
        refine rv (D.int IntKind.i64 (0 : Int)) ?_
        refine k_done (k_skip_seq (k_block ?_))
        refine k_loop (S := Nat × D) (fun s => f38 f s.1 s.2) (fun _ => σ) (fun s => s.1 ≤ f.kids.length ∧ (f.kids.take s.1).all (mayR d) = true) (fun s => f.kids.length - s.1) (0, .junk) (by kernel_rfl) rfl (by simp) (by intro s hs; omega) ?_
        rintro ⟨i, x⟩ ⟨hi, hall⟩
        simp only [] at hi hall
        by_cases hlt : i < f.kids.length
        · have hg := kid_at hlt
          have hcall := ih f.kids[i] n [] (hkids _ (List.getElem_mem hlt)) (by omega)
          have hta := all_take (p := mayR d) hlt
          by_cases hb1 : mayR d f.kids[i] = true
          · rw [hb1] at hcall
            refine k_seq (k_seq ?_)
            refine rv (D.int IntKind.i64 (↑i : Int)) ?_
            refine rv (D.int IntKind.i64 (↑(List.length (Fm.kids f)) : Int)) ?_
            refine rv (D.bool (decide ((↑i : Int) < (↑(List.length (Fm.kids f)) : Int)))) ?_
            refine k_done (k_skip_seq ?_)
            refine rkn 52 (decide ((↑i : Int) < (↑(List.length (Fm.kids f)) : Int))) true (decide_eq_true (by omega)) ?_
            refine kct (k_skip_seq (k_seq (k_block (k_seq ?_))))
            refine rv (D.lptr (1 : Nat) (2 : Nat)) ?_
            refine rv (D.sl (eFs (Fm.kids f)) none) ?_
            refine rv (D.int IntKind.i64 (↑i : Int)) ?_
            refine runs_indexL (eFs (Fm.kids f)) (o := none) (kd := IntKind.i64) (i) _ (by kernel_rfl) (by kernel_rfl) (by kernel_rfl) (by assumption) (by kernel_rfl) ?_
            refine rv (D.agg [D.int IntKind.i64 (Fm.op (Fm.kids f)[i]), D.int IntKind.i64 (Fm.n (Fm.kids f)[i]), D.sl (eFs (Fm.kids (Fm.kids f)[i])) none]) ?_
            refine runs_call ([D.agg [D.int IntKind.i64 (Fm.op (Fm.kids f)[i]), D.int IntKind.i64 (Fm.n (Fm.kids f)[i]), D.sl (eFs (Fm.kids (Fm.kids f)[i])) none]]) (by kernel_rfl) (by kernel_rfl) (by kernel_rfl) (by kernel_rfl) (hcall) (by kernel_rfl) ?_
            refine ra0 (D.bool true) ?_
            refine k_done (k_skip_seq (k_seq ?_))
            refine rv (D.bool true) ?_
            refine rv (D.bool false) ?_
            refine k_done (k_skip_seq (kcf (k_skip_block (k_skip_seq ?_))))
            refine rv (D.int IntKind.i64 (↑i : Int)) ?_
            refine rve (D.int IntKind.i64 (IntKind.wrap IntKind.i64 ((↑i : Int) + (1 : Int)))) (.int IntKind.i64 ((i + 1 : Nat) : Int)) (congrArg (D.int IntKind.i64) (show IntKind.wrap IntKind.i64 ((↑i : Int) + (1 : Int)) = ((i + 1 : Nat) : Int) from wrap_eq (by omega) (by omega) (by omega))) ?_
            refine ra0 (D.int IntKind.i64 (↑(i + (1 : Nat)) : Int)) ?_
            refine k_done (k_skip_back ?_)
            exact ⟨(i + 1, .junk), ⟨hlt, by rw [hta, hall, hb1]; rfl⟩, by simp only []; omega, by kernel_rfl, rfl⟩
          · have hb2 : mayR d f.kids[i] = false := by simpa using hb1
            rw [hb2] at hcall
            rw [all_false hlt hb2]
            refine k_seq (k_seq ?_)
            refine rv (D.int IntKind.i64 (↑i : Int)) ?_
            refine rv (D.int IntKind.i64 (↑(List.length (Fm.kids f)) : Int)) ?_
            refine rv (D.bool (decide ((↑i : Int) < (↑(List.length (Fm.kids f)) : Int)))) ?_
            refine k_done (k_skip_seq ?_)
            refine rkn 52 (decide ((↑i : Int) < (↑(List.length (Fm.kids f)) : Int))) true (decide_eq_true (by omega)) ?_
            refine kct (k_skip_seq (k_seq (k_block (k_seq ?_))))
            refine rv (D.lptr (1 : Nat) (2 : Nat)) ?_
            refine rv (D.sl (eFs (Fm.kids f)) none) ?_
            refine rv (D.int IntKind.i64 (↑i : Int)) ?_
            refine runs_indexL (eFs (Fm.kids f)) (o := none) (kd := IntKind.i64) (i) _ (by kernel_rfl) (by kernel_rfl) (by kernel_rfl) (by assumption) (by kernel_rfl) ?_
            refine rv (D.agg [D.int IntKind.i64 (Fm.op (Fm.kids f)[i]), D.int IntKind.i64 (Fm.n (Fm.kids f)[i]), D.sl (eFs (Fm.kids (Fm.kids f)[i])) none]) ?_
            refine runs_call ([D.agg [D.int IntKind.i64 (Fm.op (Fm.kids f)[i]), D.int IntKind.i64 (Fm.n (Fm.kids f)[i]), D.sl (eFs (Fm.kids (Fm.kids f)[i])) none]]) (by kernel_rfl) (by kernel_rfl) (by kernel_rfl) (by kernel_rfl) (hcall) (by kernel_rfl) ?_
            refine ra0 (D.bool false) ?_
            refine k_done (k_skip_seq (k_seq ?_))
            refine rv (D.bool false) ?_
            refine rv (D.bool true) ?_
            refine k_done (k_skip_seq (kct (k_seq ?_)))
            refine rv (D.bool false) ?_
            refine k_done (k_skip_seq (k_ret ?_))
            exact ⟨.inr rfl, by kernel_rfl, by kernel_rfl⟩
        · rw [List.take_of_length_le (by omega)] at hall
          rw [hall]
          refine k_seq (k_seq ?_)
          refine rv (D.int IntKind.i64 (↑i : Int)) ?_
          refine rv (D.int IntKind.i64 (↑(List.length (Fm.kids f)) : Int)) ?_
          refine rv (D.bool (decide ((↑i : Int) < (↑(List.length (Fm.kids f)) : Int)))) ?_
          refine k_done (k_skip_seq ?_)
          refine rkn 52 (decide ((↑i : Int) < (↑(List.length (Fm.kids f)) : Int))) false (decide_eq_false (by omega)) ?_
          refine kcf (k_exit_seq (k_exit_back (k_exit_hit rfl (k_skip_seq (k_seq ?_)))))
          refine rv (D.bool true) ?_
          refine k_done (k_skip_seq (k_ret ?_))
          exact ⟨.inr rfl, by kernel_rfl, by kernel_rfl⟩
end Go.Abs.A
