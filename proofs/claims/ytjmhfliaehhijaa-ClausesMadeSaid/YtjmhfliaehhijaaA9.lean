import Derived.Test.YtjmhfliaehhijaaKont
import Derived.Test.YtjmhfliaehhijaaA8
set_option linter.unusedVariables false
set_option linter.unusedSimpArgs false
/-
  Simple of both, Same, free; the statement LogicSimple as the machine code sees it.
-/
namespace Go.Abs.A
open Go Go.Abs
set_option maxRecDepth 8000
attribute [local irreducible] callN runC evalOp

theorem eF_leaf (o n : Int) : eF (.mk o n []) = [.int .i64 o, .int .i64 n, .sl [] none] := by simp [eF, Fm.op_mk, Fm.n_mk, Fm.kids_mk, eFs_map]
theorem eF_one (o n : Int) (k : Fm) : eF (.mk o n [k]) = [.int .i64 o, .int .i64 n, .sl [eF k] none] := by simp [eF, Fm.op_mk, Fm.n_mk, Fm.kids_mk, eFs_map]
theorem neg_ok (n : Nat) (k : Fm) (σ : St) (hk : k.op = 4 → ∃ x, k.kids = [x]) : callN T (n + 1) 42 [.agg (eF k)] σ = some (.agg (eF (negR k)), σ) := by
  unfold negR
  by_cases c1 : k.op = 1
  · rw [if_pos c1, eF_leaf]
    refine call_of (m := m42) rfl rfl (by decide) (k_start ?_)
    unfold m42
    refine k_seq ?_
    refine rgf (D.lptr (1 : Nat) (0 : Nat)) (σ) ?_
    refine rgf (D.lptr (2 : Nat) (0 : Nat)) (σ) ?_
    refine k_done (k_skip_seq (k_seq (k_seq ?_)))
    refine rv (D.lptr (1 : Nat) (0 : Nat)) ?_
    refine rv (D.int IntKind.i64 (Fm.op k)) ?_
    refine k_done (k_skip_seq (k_block (k_seq ?_)))
    refine rv (D.bool (Fm.op k == (1 : Int))) ?_
    refine ra0 (D.bool (Fm.op k == (1 : Int))) ?_
    refine k_done (k_skip_seq ?_)
    refine rkn 5 (Fm.op k == (1 : Int)) true (decide_eq_true (by assumption)) ?_
    refine kct (k_seq ?_)
    refine rv (D.agg [D.int IntKind.i64 (2 : Int), D.int IntKind.i64 (0 : Int), D.nils (24 : Nat)]) ?_
    refine rgf (D.junk) (σ) ?_
    refine k_done (k_skip_seq (k_ret ?_))
    refine ⟨.inr rfl, by kernel_rfl, ?_⟩
    show _ = _
    kernel_rfl
  by_cases c2 : k.op = 2
  · rw [if_neg c1, if_pos c2, eF_leaf]
    refine call_of (m := m42) rfl rfl (by decide) (k_start ?_)
    unfold m42
    refine k_seq ?_
    refine rgf (D.lptr (1 : Nat) (0 : Nat)) (σ) ?_
    refine rgf (D.lptr (2 : Nat) (0 : Nat)) (σ) ?_
    refine k_done (k_skip_seq (k_seq (k_seq ?_)))
    refine rv (D.lptr (1 : Nat) (0 : Nat)) ?_
    refine rv (D.int IntKind.i64 (Fm.op k)) ?_
    refine k_done (k_skip_seq (k_block (k_seq ?_)))
    refine rv (D.bool (Fm.op k == (1 : Int))) ?_
    refine ra0 (D.bool (Fm.op k == (1 : Int))) ?_
    refine k_done (k_skip_seq ?_)
    refine rkn 5 (Fm.op k == (1 : Int)) false (decide_eq_false (by assumption)) ?_
    refine kcf (k_seq ?_)
    refine rv (D.bool (Fm.op k == (2 : Int))) ?_
    refine ra0 (D.bool (Fm.op k == (2 : Int))) ?_
    refine k_done (k_skip_seq ?_)
    refine rkn 8 (Fm.op k == (2 : Int)) true (decide_eq_true (by assumption)) ?_
    refine kct (k_seq ?_)
    refine rv (D.agg [D.int IntKind.i64 (1 : Int), D.int IntKind.i64 (0 : Int), D.nils (24 : Nat)]) ?_
    refine rgf (D.junk) (σ) ?_
    refine k_done (k_skip_seq (k_ret ?_))
    refine ⟨.inr rfl, by kernel_rfl, ?_⟩
    show _ = _
    kernel_rfl
  by_cases c4 : k.op = 4
  · obtain ⟨x, hx⟩ := hk c4
    have hg := kid0_get hx
    rw [if_neg c1, if_neg c2, if_pos c4, hx]
    refine call_of (m := m42) rfl rfl (by decide) (k_start ?_)
    unfold m42
    refine k_seq ?_
    refine rgf (D.lptr (1 : Nat) (0 : Nat)) (σ) ?_
    refine rgf (D.lptr (2 : Nat) (0 : Nat)) (σ) ?_
    refine k_done (k_skip_seq (k_seq (k_seq ?_)))
    refine rv (D.lptr (1 : Nat) (0 : Nat)) ?_
    refine rv (D.int IntKind.i64 (Fm.op k)) ?_
    refine k_done (k_skip_seq (k_block (k_seq ?_)))
    refine rv (D.bool (Fm.op k == (1 : Int))) ?_
    refine ra0 (D.bool (Fm.op k == (1 : Int))) ?_
    refine k_done (k_skip_seq ?_)
    refine rkn 5 (Fm.op k == (1 : Int)) false (decide_eq_false (by assumption)) ?_
    refine kcf (k_seq ?_)
    refine rv (D.bool (Fm.op k == (2 : Int))) ?_
    refine ra0 (D.bool (Fm.op k == (2 : Int))) ?_
    refine k_done (k_skip_seq ?_)
    refine rkn 8 (Fm.op k == (2 : Int)) false (decide_eq_false (by assumption)) ?_
    refine kcf (k_seq ?_)
    refine rv (D.bool (Fm.op k == (4 : Int))) ?_
    refine ra0 (D.bool (Fm.op k == (4 : Int))) ?_
    refine k_done (k_skip_seq ?_)
    refine rkn 11 (Fm.op k == (4 : Int)) true (decide_eq_true (by assumption)) ?_
    refine kct (k_seq ?_)
    refine rv (D.lptr (1 : Nat) (2 : Nat)) ?_
    refine rv (D.sl (eFs (Fm.kids k)) none) ?_
    refine runs_indexL (eFs (Fm.kids k)) (o := none) (kd := IntKind.i64) (0) _ (by kernel_rfl) (by kernel_rfl) (by kernel_rfl) (by assumption) (by kernel_rfl) ?_
    refine rv (D.agg [D.int IntKind.i64 (Fm.op x), D.int IntKind.i64 (Fm.n x), D.sl (eFs (Fm.kids x)) none]) ?_
    refine rgf (D.junk) (σ) ?_
    refine k_done (k_skip_seq (k_ret ?_))
    refine ⟨.inr rfl, by kernel_rfl, ?_⟩
    show _ = _
    kernel_rfl
  · rw [if_neg c1, if_neg c2, if_neg c4, eF_one]
    refine call_of (m := m42) rfl rfl (by decide) (k_start ?_)
    unfold m42
    refine k_seq ?_
    refine rgf (D.lptr (1 : Nat) (0 : Nat)) (σ) ?_
    refine rgf (D.lptr (2 : Nat) (0 : Nat)) (σ) ?_
    refine k_done (k_skip_seq (k_seq (k_seq ?_)))
    refine rv (D.lptr (1 : Nat) (0 : Nat)) ?_
    refine rv (D.int IntKind.i64 (Fm.op k)) ?_
    refine k_done (k_skip_seq (k_block (k_seq ?_)))
    refine rv (D.bool (Fm.op k == (1 : Int))) ?_
    refine ra0 (D.bool (Fm.op k == (1 : Int))) ?_
    refine k_done (k_skip_seq ?_)
    refine rkn 5 (Fm.op k == (1 : Int)) false (decide_eq_false (by assumption)) ?_
    refine kcf (k_seq ?_)
    refine rv (D.bool (Fm.op k == (2 : Int))) ?_
    refine ra0 (D.bool (Fm.op k == (2 : Int))) ?_
    refine k_done (k_skip_seq ?_)
    refine rkn 8 (Fm.op k == (2 : Int)) false (decide_eq_false (by assumption)) ?_
    refine kcf (k_seq ?_)
    refine rv (D.bool (Fm.op k == (4 : Int))) ?_
    refine ra0 (D.bool (Fm.op k == (4 : Int))) ?_
    refine k_done (k_skip_seq ?_)
    refine rkn 11 (Fm.op k == (4 : Int)) false (decide_eq_false (by assumption)) ?_
    refine kcf (k_skip_block (k_skip_seq (k_seq ?_)))
    refine rv (D.agg [D.int IntKind.i64 (Fm.op k), D.int IntKind.i64 (Fm.n k), D.sl (eFs (Fm.kids k)) none]) ?_
    refine rv (D.sl [[D.int IntKind.i64 (Fm.op k), D.int IntKind.i64 (Fm.n k), D.sl (eFs (Fm.kids k)) none]] (some (24 : Nat))) ?_
    refine rv (D.agg [D.int IntKind.i64 (4 : Int), D.int IntKind.i64 (0 : Int), D.sl [[D.int IntKind.i64 (Fm.op k), D.int IntKind.i64 (Fm.n k), D.sl (eFs (Fm.kids k)) none]] none]) ?_
    refine rgf (D.junk) (σ) ?_
    refine k_done (k_skip_seq (k_ret ?_))
    refine ⟨.inr rfl, by kernel_rfl, ?_⟩
    show _ = _
    kernel_rfl

theorem rowL_len {S : Fm → Fm} {all one : Int} : ∀ (ks out l : List Fm), rowL S all one ks out = some l → l.length ≤ out.length + ks.length
  | [], out, l, h => by
    simp only [rowL, Option.some.injEq] at h
    subst h
    simp
  | k :: ks, out, l, h => by
    simp only [rowL] at h
    split at h
    · cases h
    · have := rowL_len ks _ l h
      split at this
      · simp only [List.length_cons]
        omega
      · simp only [List.length_append, List.length_cons, List.length_nil] at this ⊢
        omega
theorem drop_at {α : Type} {l : List α} {i : Nat} (h : i < l.length) : l.drop i = l[i] :: l.drop (i + 1) := (List.getElem_cons_drop h).symm
def f43 (f : Fm) (all one i : Int) (out : List (List D)) : Fr := Fr.mk ([.agg (eF f), .int .i64 all, .int .i64 one, .junk, .junk, .junk, .lptr 6 0, .lptr 7 0, .junk, .junk, .junk, .junk, .junk, .junk, .sl (eFs f.kids) none, .int .i64 f.kids.length, .int .i64 i] ++ List.replicate 36 .junk)
  (((List.replicate 53 none).set 6 (some [.int .i64 0, .int .i64 0, .sl [] (some 24)])).set 7 (some [.int .i64 f.op, .int .i64 0, .sl out (some 24)])) []
theorem row_ok (n : Nat) (f : Fm) (S : Fm → Fm) (all one : Int) (σ : St) (hao : all ≠ one) (h12 : f.kids.length ≤ 60) (hn : 60 < n) (hS : ∀ k ∈ f.kids, callN T n 22 [.agg (eF k)] [] = some (.agg (eF (S k)), [])) :
    callN T (n + 1) 43 [.agg (eF f), .int .i64 all, .int .i64 one] σ = some (.agg (eF (rowEnd f.op all one (rowL S all one f.kids []))), σ) := by
  refine call_of (m := m43) rfl rfl (by decide) (k_start ?_)
  unfold m43
  refine k_seq ?_
  refine rgf (D.lptr (3 : Nat) (0 : Nat)) (σ) ?_
  refine rgf (D.lptr (6 : Nat) (0 : Nat)) (σ) ?_
  refine k_done (k_skip_seq (k_seq ?_))
  refine rv (D.lptr (3 : Nat) (0 : Nat)) ?_
  refine rv (D.int IntKind.i64 (Fm.op f)) ?_
  refine rv (D.agg [D.int IntKind.i64 (Fm.op f), D.int IntKind.i64 (0 : Int), D.nils (24 : Nat)]) ?_
  refine rgf (D.lptr (7 : Nat) (0 : Nat)) (σ) ?_
  refine rgf (D.junk) (σ) ?_
  refine k_done (k_skip_seq (k_seq (k_seq ?_)))
  refine rv (D.lptr (3 : Nat) (2 : Nat)) ?_
  refine rv (D.sl (eFs (Fm.kids f)) none) ?_
  refine rve (D.int IntKind.i64 (↑(List.length (eFs (Fm.kids f))) : Int)) (.int IntKind.i64 ((↑(List.length (Fm.kids f)) : Int))) (by simp only [eFs_length]) ?_
  refine rv (D.int IntKind.i64 (0 : Int)) ?_
  refine k_done (k_skip_seq (k_block ?_))
  refine k_loop (S := Nat × List Fm) (fun s => f43 f all one s.1 (eFs s.2)) (fun _ => σ) (fun s => s.1 ≤ f.kids.length ∧ s.2.length ≤ s.1 ∧ rowL S all one (f.kids.drop s.1) s.2 = rowL S all one f.kids []) (fun s => f.kids.length - s.1) (0, []) (by kernel_rfl) rfl ⟨by simp, by simp, rfl⟩ (by intro s hs; omega) ?_
  rintro ⟨i, out⟩ ⟨hi, hlen, hrow⟩
  simp only [] at hi hlen hrow
  by_cases hlt : i < f.kids.length
  · rw [drop_at hlt] at hrow
    simp only [rowL] at hrow
    have hg := kid_at hlt
    have hcall := hS f.kids[i] (List.getElem_mem hlt)
    by_cases c1 : (S f.kids[i]).op = one
    · rw [if_pos c1] at hrow
      rw [← hrow]
      show Runs _ _
      rw [show rowEnd f.op all one none = .mk one 0 [] from rfl, eF_leaf]
      refine k_seq ?_
      refine rv (D.bool (decide ((↑i : Int) < (↑(List.length (Fm.kids f)) : Int)))) ?_
      refine k_done (k_skip_seq (k_seq ?_))
      refine rkn 17 (decide ((↑i : Int) < (↑(List.length (Fm.kids f)) : Int))) true (decide_eq_true (by omega)) ?_
      refine kct (k_skip_seq (k_seq (k_block (k_seq ?_))))
      refine runs_indexL (eFs (Fm.kids f)) (o := none) (kd := IntKind.i64) (i) _ (by kernel_rfl) (by kernel_rfl) (by kernel_rfl) (by assumption) (by kernel_rfl) ?_
      refine rv (D.agg [D.int IntKind.i64 (Fm.op (Fm.kids f)[i]), D.int IntKind.i64 (Fm.n (Fm.kids f)[i]), D.sl (eFs (Fm.kids (Fm.kids f)[i])) none]) ?_
      refine rgf (D.lptr (9 : Nat) (0 : Nat)) (σ) ?_
      refine rgf (D.junk) (σ) ?_
      refine k_done (k_skip_seq (k_seq ?_))
      refine rv (D.agg [D.int IntKind.i64 (Fm.op (Fm.kids f)[i]), D.int IntKind.i64 (Fm.n (Fm.kids f)[i]), D.sl (eFs (Fm.kids (Fm.kids f)[i])) none]) ?_
      refine runs_call ([D.agg [D.int IntKind.i64 (Fm.op (Fm.kids f)[i]), D.int IntKind.i64 (Fm.n (Fm.kids f)[i]), D.sl (eFs (Fm.kids (Fm.kids f)[i])) none]]) (by kernel_rfl) (by kernel_rfl) (by kernel_rfl) (by kernel_rfl) (hcall) (by kernel_rfl) ?_
      refine rgf (D.junk) (σ) ?_
      refine k_done (k_skip_seq (k_seq ?_))
      refine rv (D.lptr (9 : Nat) (0 : Nat)) ?_
      refine rv (D.int IntKind.i64 (Fm.op (S (Fm.kids f)[i]))) ?_
      refine k_done (k_skip_seq (k_block (k_seq ?_)))
      refine rv (D.int IntKind.i64 one) ?_
      refine rv (D.bool (Fm.op (S (Fm.kids f)[i]) == one)) ?_
      refine ra0 (D.bool (Fm.op (S (Fm.kids f)[i]) == one)) ?_
      refine k_done (k_skip_seq ?_)
      refine rkn 30 (Fm.op (S (Fm.kids f)[i]) == one) true (decide_eq_true (by assumption)) ?_
      refine kct (k_seq ?_)
      refine rv (D.int IntKind.i64 one) ?_
      refine rv (D.agg [D.int IntKind.i64 one, D.int IntKind.i64 (0 : Int), D.nils (24 : Nat)]) ?_
      refine rgf (D.junk) (σ) ?_
      refine k_done (k_skip_seq (k_ret ?_))
      refine ⟨.inr rfl, by kernel_rfl, ?_⟩
      show _ = _
      kernel_rfl
    · rw [if_neg c1] at hrow
      by_cases c2 : (S f.kids[i]).op = all
      · rw [if_pos c2] at hrow
        refine k_seq ?_
        refine rv (D.bool (decide ((↑i : Int) < (↑(List.length (Fm.kids f)) : Int)))) ?_
        refine k_done (k_skip_seq (k_seq ?_))
        refine rkn 17 (decide ((↑i : Int) < (↑(List.length (Fm.kids f)) : Int))) true (decide_eq_true (by omega)) ?_
        refine kct (k_skip_seq (k_seq (k_block (k_seq ?_))))
        refine runs_indexL (eFs (Fm.kids f)) (o := none) (kd := IntKind.i64) (i) _ (by kernel_rfl) (by kernel_rfl) (by kernel_rfl) (by assumption) (by kernel_rfl) ?_
        refine rv (D.agg [D.int IntKind.i64 (Fm.op (Fm.kids f)[i]), D.int IntKind.i64 (Fm.n (Fm.kids f)[i]), D.sl (eFs (Fm.kids (Fm.kids f)[i])) none]) ?_
        refine rgf (D.lptr (9 : Nat) (0 : Nat)) (σ) ?_
        refine rgf (D.junk) (σ) ?_
        refine k_done (k_skip_seq (k_seq ?_))
        refine rv (D.agg [D.int IntKind.i64 (Fm.op (Fm.kids f)[i]), D.int IntKind.i64 (Fm.n (Fm.kids f)[i]), D.sl (eFs (Fm.kids (Fm.kids f)[i])) none]) ?_
        refine runs_call ([D.agg [D.int IntKind.i64 (Fm.op (Fm.kids f)[i]), D.int IntKind.i64 (Fm.n (Fm.kids f)[i]), D.sl (eFs (Fm.kids (Fm.kids f)[i])) none]]) (by kernel_rfl) (by kernel_rfl) (by kernel_rfl) (by kernel_rfl) (hcall) (by kernel_rfl) ?_
        refine rgf (D.junk) (σ) ?_
        refine k_done (k_skip_seq (k_seq ?_))
        refine rv (D.lptr (9 : Nat) (0 : Nat)) ?_
        refine rv (D.int IntKind.i64 (Fm.op (S (Fm.kids f)[i]))) ?_
        refine k_done (k_skip_seq (k_block (k_seq ?_)))
        refine rv (D.int IntKind.i64 one) ?_
        refine rv (D.bool (Fm.op (S (Fm.kids f)[i]) == one)) ?_
        refine ra0 (D.bool (Fm.op (S (Fm.kids f)[i]) == one)) ?_
        refine k_done (k_skip_seq ?_)
        refine rkn 30 (Fm.op (S (Fm.kids f)[i]) == one) false (decide_eq_false (by assumption)) ?_
        refine kcf (k_seq ?_)
        refine rv (D.int IntKind.i64 all) ?_
        refine rv (D.bool (Fm.op (S (Fm.kids f)[i]) == all)) ?_
        refine ra0 (D.bool (Fm.op (S (Fm.kids f)[i]) == all)) ?_
        refine k_done (k_skip_seq ?_)
        refine rkn 35 (Fm.op (S (Fm.kids f)[i]) == all) true (decide_eq_true (by assumption)) ?_
        refine kct (k_skip_block (k_skip_block (k_skip_seq ?_)))
        refine rve (D.int IntKind.i64 (IntKind.wrap IntKind.i64 ((↑i : Int) + (1 : Int)))) (.int IntKind.i64 ((i + 1 : Nat) : Int)) (congrArg (D.int IntKind.i64) (show IntKind.wrap IntKind.i64 ((↑i : Int) + (1 : Int)) = ((i + 1 : Nat) : Int) from wrap_eq (by omega) (by omega) (by omega))) ?_
        refine rv (D.int IntKind.i64 (↑(i + (1 : Nat)) : Int)) ?_
        refine k_done (k_skip_back ?_)
        exact ⟨(i + 1, out), ⟨hlt, by simp only []; omega, hrow⟩, by simp only []; omega, by kernel_rfl, rfl⟩
      · rw [if_neg c2] at hrow
        have hsn := eFs_snoc out (S f.kids[i])
        refine k_seq ?_
        refine rv (D.bool (decide ((↑i : Int) < (↑(List.length (Fm.kids f)) : Int)))) ?_
        refine k_done (k_skip_seq (k_seq ?_))
        refine rkn 17 (decide ((↑i : Int) < (↑(List.length (Fm.kids f)) : Int))) true (decide_eq_true (by omega)) ?_
        refine kct (k_skip_seq (k_seq (k_block (k_seq ?_))))
        refine runs_indexL (eFs (Fm.kids f)) (o := none) (kd := IntKind.i64) (i) _ (by kernel_rfl) (by kernel_rfl) (by kernel_rfl) (by assumption) (by kernel_rfl) ?_
        refine rv (D.agg [D.int IntKind.i64 (Fm.op (Fm.kids f)[i]), D.int IntKind.i64 (Fm.n (Fm.kids f)[i]), D.sl (eFs (Fm.kids (Fm.kids f)[i])) none]) ?_
        refine rgf (D.lptr (9 : Nat) (0 : Nat)) (σ) ?_
        refine rgf (D.junk) (σ) ?_
        refine k_done (k_skip_seq (k_seq ?_))
        refine rv (D.agg [D.int IntKind.i64 (Fm.op (Fm.kids f)[i]), D.int IntKind.i64 (Fm.n (Fm.kids f)[i]), D.sl (eFs (Fm.kids (Fm.kids f)[i])) none]) ?_
        refine runs_call ([D.agg [D.int IntKind.i64 (Fm.op (Fm.kids f)[i]), D.int IntKind.i64 (Fm.n (Fm.kids f)[i]), D.sl (eFs (Fm.kids (Fm.kids f)[i])) none]]) (by kernel_rfl) (by kernel_rfl) (by kernel_rfl) (by kernel_rfl) (hcall) (by kernel_rfl) ?_
        refine rgf (D.junk) (σ) ?_
        refine k_done (k_skip_seq (k_seq ?_))
        refine rv (D.lptr (9 : Nat) (0 : Nat)) ?_
        refine rv (D.int IntKind.i64 (Fm.op (S (Fm.kids f)[i]))) ?_
        refine k_done (k_skip_seq (k_block (k_seq ?_)))
        refine rv (D.int IntKind.i64 one) ?_
        refine rv (D.bool (Fm.op (S (Fm.kids f)[i]) == one)) ?_
        refine ra0 (D.bool (Fm.op (S (Fm.kids f)[i]) == one)) ?_
        refine k_done (k_skip_seq ?_)
        refine rkn 30 (Fm.op (S (Fm.kids f)[i]) == one) false (decide_eq_false (by assumption)) ?_
        refine kcf (k_seq ?_)
        refine rv (D.int IntKind.i64 all) ?_
        refine rv (D.bool (Fm.op (S (Fm.kids f)[i]) == all)) ?_
        refine ra0 (D.bool (Fm.op (S (Fm.kids f)[i]) == all)) ?_
        refine k_done (k_skip_seq ?_)
        refine rkn 35 (Fm.op (S (Fm.kids f)[i]) == all) false (decide_eq_false (by assumption)) ?_
        refine kcf ?_
        refine rv (D.lptr (7 : Nat) (2 : Nat)) ?_
        refine rgf (D.sl (eFs out) (some (24 : Nat))) (σ) ?_
        refine rv (D.agg [D.int IntKind.i64 (Fm.op (S (Fm.kids f)[i])), D.int IntKind.i64 (Fm.n (S (Fm.kids f)[i])), D.sl (eFs (Fm.kids (S (Fm.kids f)[i]))) none]) ?_
        refine rv (D.sl [[D.int IntKind.i64 (Fm.op (S (Fm.kids f)[i])), D.int IntKind.i64 (Fm.n (S (Fm.kids f)[i])), D.sl (eFs (Fm.kids (S (Fm.kids f)[i]))) none]] (some (24 : Nat))) ?_
        refine runs_append (eFs out) ([[D.int IntKind.i64 (Fm.op (S (Fm.kids f)[i])), D.int IntKind.i64 (Fm.n (S (Fm.kids f)[i])), D.sl (eFs (Fm.kids (S (Fm.kids f)[i]))) none]]) (eFs out ++ [[D.int IntKind.i64 (Fm.op (S (Fm.kids f)[i])), D.int IntKind.i64 (Fm.n (S (Fm.kids f)[i])), D.sl (eFs (Fm.kids (S (Fm.kids f)[i]))) none]]) (by kernel_rfl) (by kernel_rfl) (by kernel_rfl) (by kernel_rfl) (by simp [eFs_length, ints, eInt, rows, eInts, bools, eBool, trips, eTrip, room]; omega) rfl ?_
        refine rv (D.lptr (7 : Nat) (2 : Nat)) ?_
        refine rgf (D.junk) (σ) ?_
        refine k_done (k_skip_block (k_skip_block (k_skip_seq ?_)))
        refine rve (D.int IntKind.i64 (IntKind.wrap IntKind.i64 ((↑i : Int) + (1 : Int)))) (.int IntKind.i64 ((i + 1 : Nat) : Int)) (congrArg (D.int IntKind.i64) (show IntKind.wrap IntKind.i64 ((↑i : Int) + (1 : Int)) = ((i + 1 : Nat) : Int) from wrap_eq (by omega) (by omega) (by omega))) ?_
        refine rv (D.int IntKind.i64 (↑(i + (1 : Nat)) : Int)) ?_
        refine k_done (k_skip_back ?_)
        exact ⟨(i + 1, out ++ [S f.kids[i]]), ⟨hlt, by simp; omega, hrow⟩, by simp only []; omega, by simp only []; rw [← hsn]; kernel_rfl, rfl⟩
  · rw [List.drop_of_length_le (by omega)] at hrow
    simp only [rowL] at hrow
    rw [← hrow]
    match out, hlen with
    | [], _ =>
      rw [show rowEnd f.op all one (some []) = .mk all 0 [] from rfl, eF_leaf]
      refine k_seq ?_
      refine rv (D.bool (decide ((↑i : Int) < (↑(List.length (Fm.kids f)) : Int)))) ?_
      refine k_done (k_skip_seq (k_seq ?_))
      refine rkn 17 (decide ((↑i : Int) < (↑(List.length (Fm.kids f)) : Int))) false (decide_eq_false (by omega)) ?_
      refine kcf (k_exit_seq (k_exit_back (k_exit_hit rfl (k_skip_seq (k_seq (k_seq ?_))))))
      refine rv (D.lptr (7 : Nat) (2 : Nat)) ?_
      refine rv (D.sl [] none) ?_
      refine rv (D.int IntKind.i64 (0 : Int)) ?_
      refine k_done (k_skip_seq (k_block (k_seq ?_)))
      refine rv (D.bool true) ?_
      refine ra0 (D.bool true) ?_
      refine k_done (k_skip_seq (kct (k_seq ?_)))
      refine rv (D.int IntKind.i64 all) ?_
      refine rv (D.agg [D.int IntKind.i64 all, D.int IntKind.i64 (0 : Int), D.nils (24 : Nat)]) ?_
      refine rgf (D.junk) (σ) ?_
      refine k_done (k_skip_seq (k_ret ?_))
      refine ⟨.inr rfl, by kernel_rfl, ?_⟩
      show _ = _
      kernel_rfl
    | [x], _ =>
      rw [show rowEnd f.op all one (some [x]) = x from rfl]
      have hg : (eFs [x])[0]? = some (eF x) := eFs_get rfl
      have h1 : [x].length = 1 := rfl
      generalize [x] = out at *
      refine k_seq ?_
      refine rv (D.bool (decide ((↑i : Int) < (↑(List.length (Fm.kids f)) : Int)))) ?_
      refine k_done (k_skip_seq (k_seq ?_))
      refine rkn 17 (decide ((↑i : Int) < (↑(List.length (Fm.kids f)) : Int))) false (decide_eq_false (by omega)) ?_
      refine kcf (k_exit_seq (k_exit_back (k_exit_hit rfl (k_skip_seq (k_seq (k_seq ?_))))))
      refine rv (D.lptr (7 : Nat) (2 : Nat)) ?_
      refine rv (D.sl (eFs out) none) ?_
      refine rve (D.int IntKind.i64 (↑(List.length (eFs out)) : Int)) (.int IntKind.i64 ((↑(List.length out) : Int))) (by simp only [eFs_length]) ?_
      refine k_done (k_skip_seq (k_block (k_seq ?_)))
      refine rv (D.bool ((↑(List.length out) : Int) == (0 : Int))) ?_
      refine ra0 (D.bool ((↑(List.length out) : Int) == (0 : Int))) ?_
      refine k_done (k_skip_seq ?_)
      refine rkn 42 ((↑(List.length out) : Int) == (0 : Int)) false (decide_eq_false (by omega)) ?_
      refine kcf (k_seq ?_)
      refine rv (D.bool ((↑(List.length out) : Int) == (1 : Int))) ?_
      refine ra0 (D.bool ((↑(List.length out) : Int) == (1 : Int))) ?_
      refine k_done (k_skip_seq ?_)
      refine rkn 46 ((↑(List.length out) : Int) == (1 : Int)) true (decide_eq_true (by omega)) ?_
      refine kct (k_seq ?_)
      refine rv (D.lptr (7 : Nat) (2 : Nat)) ?_
      refine rv (D.sl (eFs out) none) ?_
      refine runs_indexL (eFs out) (o := none) (kd := IntKind.i64) (0) _ (by kernel_rfl) (by kernel_rfl) (by kernel_rfl) (by assumption) (by kernel_rfl) ?_
      refine rv (D.agg [D.int IntKind.i64 (Fm.op x), D.int IntKind.i64 (Fm.n x), D.sl (eFs (Fm.kids x)) none]) ?_
      refine rgf (D.junk) (σ) ?_
      refine k_done (k_skip_seq (k_ret ?_))
      refine ⟨.inr rfl, by kernel_rfl, ?_⟩
      show _ = _
      kernel_rfl
    | x :: y :: l, hlen =>
      have h2 : (x :: y :: l).length ≥ 2 := by simp
      rw [show rowEnd f.op all one (some (x :: y :: l)) = .mk f.op 0 (x :: y :: l) from rfl]
      generalize x :: y :: l = out at *
      refine k_seq ?_
      refine rv (D.bool (decide ((↑i : Int) < (↑(List.length (Fm.kids f)) : Int)))) ?_
      refine k_done (k_skip_seq (k_seq ?_))
      refine rkn 17 (decide ((↑i : Int) < (↑(List.length (Fm.kids f)) : Int))) false (decide_eq_false (by omega)) ?_
      refine kcf (k_exit_seq (k_exit_back (k_exit_hit rfl (k_skip_seq (k_seq (k_seq ?_))))))
      refine rv (D.lptr (7 : Nat) (2 : Nat)) ?_
      refine rv (D.sl (eFs out) none) ?_
      refine rve (D.int IntKind.i64 (↑(List.length (eFs out)) : Int)) (.int IntKind.i64 ((↑(List.length out) : Int))) (by simp only [eFs_length]) ?_
      refine k_done (k_skip_seq (k_block (k_seq ?_)))
      refine rv (D.bool ((↑(List.length out) : Int) == (0 : Int))) ?_
      refine ra0 (D.bool ((↑(List.length out) : Int) == (0 : Int))) ?_
      refine k_done (k_skip_seq ?_)
      refine rkn 42 ((↑(List.length out) : Int) == (0 : Int)) false (decide_eq_false (by omega)) ?_
      refine kcf (k_seq ?_)
      refine rv (D.bool ((↑(List.length out) : Int) == (1 : Int))) ?_
      refine ra0 (D.bool ((↑(List.length out) : Int) == (1 : Int))) ?_
      refine k_done (k_skip_seq ?_)
      refine rkn 46 ((↑(List.length out) : Int) == (1 : Int)) false (decide_eq_false (by omega)) ?_
      refine kcf (k_skip_block (k_skip_seq (k_seq ?_)))
      refine rv (D.agg [D.int IntKind.i64 (Fm.op f), D.int IntKind.i64 (0 : Int), D.sl (eFs out) none]) ?_
      refine rgf (D.junk) (σ) ?_
      refine k_done (k_skip_seq (k_ret ?_))
      refine ⟨.inr rfl, by kernel_rfl, ?_⟩
      show _ = _
      kernel_rfl

theorem simple_ok : ∀ (d : Nat) (f : Fm) (N : Nat) (σ : St), fits d f → mayR d f = true → 2 * d + 70 ≤ N → callN T N 22 [.agg (eF f)] σ = some (.agg (eF (simpleR d f)), σ) := by
  intro d
  induction d with
  | zero => intro f N σ h; exact h.elim
  | succ d ih =>
    intro f N σ hfit hmay hN
    obtain ⟨n, rfl⟩ : ∃ n, N = n + 2 := ⟨N - 2, by omega⟩
    obtain ⟨h12, hkids⟩ := hfit
    have hm := mayR_parts hmay
    obtain ⟨g1, g2, g3, g4, g5⟩ := hm.1
    have hS : ∀ k ∈ f.kids, ∀ σ, callN T n 22 [.agg (eF k)] σ = some (.agg (eF (simpleR d k)), σ) := fun k hk σ => ih k n σ (hkids k hk) (hm.2 k hk) (by omega)
    simp only [simpleR]
    by_cases c4 : f.op = 4
    · obtain ⟨k, hk⟩ := kid0_of (show f.kids.length = 1 by omega)
      have hkm : k ∈ f.kids := by rw [hk]; simp
      have hg := kid0_get hk
      have hcall := ih k (n + 1) [] (hkids k hkm) (hm.2 k hkm) (by omega)
      have hn := simple_nice d k (hkids k hkm) (hm.2 k hkm)
      have hneg := neg_ok n (simpleR d k) [] (fun h4 => by
        have := nice_3 hn (by omega) (by omega)
        cases d with
        | zero => exact this.elim
        | succ d =>
          rcases this with h | ⟨_, _, x, h3, _⟩ | h
          · omega
          · exact ⟨x, h3⟩
          · omega)
      rw [if_pos c4, hk]
      show callN T (n + 2) 22 [.agg (eF f)] σ = some (.agg (eF (negR (simpleR d k))), σ)
      refine call_of (m := m22) rfl rfl (by decide) (k_start ?_)
      unfold m22
      have h1 : f.kids.length = 1 := by omega
      refine k_seq ?_
      refine rgf (D.lptr (1 : Nat) (0 : Nat)) (σ) ?_
      refine rgf (D.lptr (2 : Nat) (0 : Nat)) (σ) ?_
      refine k_done (k_skip_seq (k_seq (k_seq ?_)))
      refine rv (D.lptr (1 : Nat) (0 : Nat)) ?_
      refine rv (D.int IntKind.i64 (Fm.op f)) ?_
      refine k_done (k_skip_seq (k_block (k_seq ?_)))
      refine rv (D.bool (Fm.op f == (4 : Int))) ?_
      refine ra0 (D.bool (Fm.op f == (4 : Int))) ?_
      refine k_done (k_skip_seq ?_)
      refine rkn 5 (Fm.op f == (4 : Int)) true (decide_eq_true (by assumption)) ?_
      refine kct (k_seq ?_)
      refine rv (D.lptr (1 : Nat) (2 : Nat)) ?_
      refine rv (D.sl (eFs (Fm.kids f)) none) ?_
      refine rve (D.int IntKind.i64 (↑(List.length (eFs (Fm.kids f))) : Int)) (.int IntKind.i64 ((↑(List.length (Fm.kids f)) : Int))) (by simp only [eFs_length]) ?_
      refine rv (D.bool ((↑(List.length (Fm.kids f)) : Int) == (1 : Int))) ?_
      refine k_done (k_skip_seq ?_)
      refine rkn 10 ((↑(List.length (Fm.kids f)) : Int) == (1 : Int)) true (decide_eq_true (by omega)) ?_
      refine kct (k_seq ?_)
      refine rv (D.lptr (1 : Nat) (2 : Nat)) ?_
      refine rv (D.sl (eFs (Fm.kids f)) none) ?_
      refine runs_indexL (eFs (Fm.kids f)) (o := none) (kd := IntKind.i64) (0) _ (by kernel_rfl) (by kernel_rfl) (by kernel_rfl) (by assumption) (by kernel_rfl) ?_
      refine rv (D.agg [D.int IntKind.i64 (Fm.op k), D.int IntKind.i64 (Fm.n k), D.sl (eFs (Fm.kids k)) none]) ?_
      refine runs_call ([D.agg [D.int IntKind.i64 (Fm.op k), D.int IntKind.i64 (Fm.n k), D.sl (eFs (Fm.kids k)) none]]) (by kernel_rfl) (by kernel_rfl) (by kernel_rfl) (by kernel_rfl) (hcall) (by kernel_rfl) ?_
      refine runs_call ([D.agg [D.int IntKind.i64 (Fm.op (simpleR d k)), D.int IntKind.i64 (Fm.n (simpleR d k)), D.sl (eFs (Fm.kids (simpleR d k))) none]]) (by kernel_rfl) (by kernel_rfl) (by kernel_rfl) (by kernel_rfl) (hneg) (by kernel_rfl) ?_
      refine rgf (D.junk) (σ) ?_
      refine k_done (k_skip_seq (k_ret ?_))
      refine ⟨.inr rfl, by kernel_rfl, ?_⟩
      show _ = _
      kernel_rfl
    rw [if_neg c4]
    by_cases c5 : f.op = 5
    · have hrow := row_ok n f (simpleR d) 1 2 [] (by decide) h12 (by omega) (fun k hk => hS k hk [])
      rw [c5] at hrow
      rw [if_pos c5]
      refine call_of (m := m22) rfl rfl (by decide) (k_start ?_)
      unfold m22
      refine k_seq ?_
      refine rgf (D.lptr (1 : Nat) (0 : Nat)) (σ) ?_
      refine rgf (D.lptr (2 : Nat) (0 : Nat)) (σ) ?_
      refine k_done (k_skip_seq (k_seq (k_seq ?_)))
      refine rv (D.lptr (1 : Nat) (0 : Nat)) ?_
      refine rv (D.int IntKind.i64 (Fm.op f)) ?_
      refine k_done (k_skip_seq (k_block (k_seq ?_)))
      refine rv (D.bool (Fm.op f == (4 : Int))) ?_
      refine ra0 (D.bool (Fm.op f == (4 : Int))) ?_
      refine k_done (k_skip_seq ?_)
      refine rkn 5 (Fm.op f == (4 : Int)) false (decide_eq_false (by assumption)) ?_
      refine kcf (k_seq ?_)
      refine rv (D.bool (Fm.op f == (5 : Int))) ?_
      refine ra0 (D.bool (Fm.op f == (5 : Int))) ?_
      refine k_done (k_skip_seq ?_)
      refine rkn 17 (Fm.op f == (5 : Int)) true (decide_eq_true (by assumption)) ?_
      refine kct (k_seq ?_)
      refine rv (D.agg [D.int IntKind.i64 (Fm.op f), D.int IntKind.i64 (Fm.n f), D.sl (eFs (Fm.kids f)) none]) ?_
      refine runs_call ([D.agg [D.int IntKind.i64 (Fm.op f), D.int IntKind.i64 (Fm.n f), D.sl (eFs (Fm.kids f)) none], D.int IntKind.i64 (1 : Int), D.int IntKind.i64 (2 : Int)]) (by kernel_rfl) (by kernel_rfl) (by kernel_rfl) (by kernel_rfl) (hrow) (by kernel_rfl) ?_
      refine rgf (D.junk) (σ) ?_
      refine k_done (k_skip_seq (k_ret ?_))
      refine ⟨.inr rfl, by kernel_rfl, ?_⟩
      show _ = _
      kernel_rfl
    rw [if_neg c5]
    by_cases c6 : f.op = 6
    · have hrow := row_ok n f (simpleR d) 2 1 [] (by decide) h12 (by omega) (fun k hk => hS k hk [])
      rw [c6] at hrow
      rw [if_pos c6]
      refine call_of (m := m22) rfl rfl (by decide) (k_start ?_)
      unfold m22
      refine k_seq ?_
      refine rgf (D.lptr (1 : Nat) (0 : Nat)) (σ) ?_
      refine rgf (D.lptr (2 : Nat) (0 : Nat)) (σ) ?_
      refine k_done (k_skip_seq (k_seq (k_seq ?_)))
      refine rv (D.lptr (1 : Nat) (0 : Nat)) ?_
      refine rv (D.int IntKind.i64 (Fm.op f)) ?_
      refine k_done (k_skip_seq (k_block (k_seq ?_)))
      refine rv (D.bool (Fm.op f == (4 : Int))) ?_
      refine ra0 (D.bool (Fm.op f == (4 : Int))) ?_
      refine k_done (k_skip_seq ?_)
      refine rkn 5 (Fm.op f == (4 : Int)) false (decide_eq_false (by assumption)) ?_
      refine kcf (k_seq ?_)
      refine rv (D.bool (Fm.op f == (5 : Int))) ?_
      refine ra0 (D.bool (Fm.op f == (5 : Int))) ?_
      refine k_done (k_skip_seq ?_)
      refine rkn 17 (Fm.op f == (5 : Int)) false (decide_eq_false (by assumption)) ?_
      refine kcf (k_seq ?_)
      refine rv (D.bool (Fm.op f == (6 : Int))) ?_
      refine ra0 (D.bool (Fm.op f == (6 : Int))) ?_
      refine k_done (k_skip_seq ?_)
      refine rkn 21 (Fm.op f == (6 : Int)) true (decide_eq_true (by assumption)) ?_
      refine kct (k_seq ?_)
      refine rv (D.agg [D.int IntKind.i64 (Fm.op f), D.int IntKind.i64 (Fm.n f), D.sl (eFs (Fm.kids f)) none]) ?_
      refine runs_call ([D.agg [D.int IntKind.i64 (Fm.op f), D.int IntKind.i64 (Fm.n f), D.sl (eFs (Fm.kids f)) none], D.int IntKind.i64 (2 : Int), D.int IntKind.i64 (1 : Int)]) (by kernel_rfl) (by kernel_rfl) (by kernel_rfl) (by kernel_rfl) (hrow) (by kernel_rfl) ?_
      refine rgf (D.junk) (σ) ?_
      refine k_done (k_skip_seq (k_ret ?_))
      refine ⟨.inr rfl, by kernel_rfl, ?_⟩
      show _ = _
      kernel_rfl
    rw [if_neg c6]
    by_cases c3 : f.op = 3
    · rw [if_pos c3, eF_leaf]
      refine call_of (m := m22) rfl rfl (by decide) (k_start ?_)
      unfold m22
      refine k_seq ?_
      refine rgf (D.lptr (1 : Nat) (0 : Nat)) (σ) ?_
      refine rgf (D.lptr (2 : Nat) (0 : Nat)) (σ) ?_
      refine k_done (k_skip_seq (k_seq (k_seq ?_)))
      refine rv (D.lptr (1 : Nat) (0 : Nat)) ?_
      refine rv (D.int IntKind.i64 (Fm.op f)) ?_
      refine k_done (k_skip_seq (k_block (k_seq ?_)))
      refine rv (D.bool (Fm.op f == (4 : Int))) ?_
      refine ra0 (D.bool (Fm.op f == (4 : Int))) ?_
      refine k_done (k_skip_seq ?_)
      refine rkn 5 (Fm.op f == (4 : Int)) false (decide_eq_false (by assumption)) ?_
      refine kcf (k_seq ?_)
      refine rv (D.bool (Fm.op f == (5 : Int))) ?_
      refine ra0 (D.bool (Fm.op f == (5 : Int))) ?_
      refine k_done (k_skip_seq ?_)
      refine rkn 17 (Fm.op f == (5 : Int)) false (decide_eq_false (by assumption)) ?_
      refine kcf (k_seq ?_)
      refine rv (D.bool (Fm.op f == (6 : Int))) ?_
      refine ra0 (D.bool (Fm.op f == (6 : Int))) ?_
      refine k_done (k_skip_seq ?_)
      refine rkn 21 (Fm.op f == (6 : Int)) false (decide_eq_false (by assumption)) ?_
      refine kcf (k_seq ?_)
      refine rv (D.bool (Fm.op f == (3 : Int))) ?_
      refine ra0 (D.bool (Fm.op f == (3 : Int))) ?_
      refine k_done (k_skip_seq ?_)
      refine rkn 25 (Fm.op f == (3 : Int)) true (decide_eq_true (by assumption)) ?_
      refine kct (k_seq ?_)
      refine rv (D.lptr (1 : Nat) (1 : Nat)) ?_
      refine rv (D.int IntKind.i64 (Fm.n f)) ?_
      refine rv (D.agg [D.int IntKind.i64 (3 : Int), D.int IntKind.i64 (Fm.n f), D.nils (24 : Nat)]) ?_
      refine rgf (D.junk) (σ) ?_
      refine k_done (k_skip_seq (k_ret ?_))
      refine ⟨.inr rfl, by kernel_rfl, ?_⟩
      show _ = _
      kernel_rfl
    · rw [if_neg c3, eF_leaf]
      refine call_of (m := m22) rfl rfl (by decide) (k_start ?_)
      unfold m22
      refine k_seq ?_
      refine rgf (D.lptr (1 : Nat) (0 : Nat)) (σ) ?_
      refine rgf (D.lptr (2 : Nat) (0 : Nat)) (σ) ?_
      refine k_done (k_skip_seq (k_seq (k_seq ?_)))
      refine rv (D.lptr (1 : Nat) (0 : Nat)) ?_
      refine rv (D.int IntKind.i64 (Fm.op f)) ?_
      refine k_done (k_skip_seq (k_block (k_seq ?_)))
      refine rv (D.bool (Fm.op f == (4 : Int))) ?_
      refine ra0 (D.bool (Fm.op f == (4 : Int))) ?_
      refine k_done (k_skip_seq ?_)
      refine rkn 5 (Fm.op f == (4 : Int)) false (decide_eq_false (by assumption)) ?_
      refine kcf (k_seq ?_)
      refine rv (D.bool (Fm.op f == (5 : Int))) ?_
      refine ra0 (D.bool (Fm.op f == (5 : Int))) ?_
      refine k_done (k_skip_seq ?_)
      refine rkn 17 (Fm.op f == (5 : Int)) false (decide_eq_false (by assumption)) ?_
      refine kcf (k_seq ?_)
      refine rv (D.bool (Fm.op f == (6 : Int))) ?_
      refine ra0 (D.bool (Fm.op f == (6 : Int))) ?_
      refine k_done (k_skip_seq ?_)
      refine rkn 21 (Fm.op f == (6 : Int)) false (decide_eq_false (by assumption)) ?_
      refine kcf (k_seq ?_)
      refine rv (D.bool (Fm.op f == (3 : Int))) ?_
      refine ra0 (D.bool (Fm.op f == (3 : Int))) ?_
      refine k_done (k_skip_seq ?_)
      refine rkn 25 (Fm.op f == (3 : Int)) false (decide_eq_false (by assumption)) ?_
      refine kcf (k_skip_block (k_skip_seq (k_seq ?_)))
      refine rv (D.lptr (1 : Nat) (0 : Nat)) ?_
      refine rv (D.int IntKind.i64 (Fm.op f)) ?_
      refine rv (D.agg [D.int IntKind.i64 (Fm.op f), D.int IntKind.i64 (0 : Int), D.nils (24 : Nat)]) ?_
      refine rgf (D.junk) (σ) ?_
      refine k_done (k_skip_seq (k_ret ?_))
      refine ⟨.inr rfl, by kernel_rfl, ?_⟩
      show _ = _
      kernel_rfl

def f24 (f : Fm) (all i : Int) (out : List (List D)) : Fr := Fr.mk ([.agg (eF f), .lptr 1 0, .lptr 2 0, .junk, .int .i64 all, .sl out (some 33), .int .i64 i] ++ List.replicate 85 .junk)
  (((List.replicate 92 none).set 1 (some (eF f))).set 2 (some [.int .i64 0, .int .i64 0, .sl [] (some 33)])) []
theorem refSimple_ok : ∀ (d : Nat) (f : Fm) (N : Nat) (σ : St), fits d f → mayR d f = true → 2 * d + 70 ≤ N → callN T N 24 [.agg (eF f)] σ = some (.agg (eF (simpleR d f)), σ) := by
  intro d
  induction d with
  | zero => intro f N σ h; exact h.elim
  | succ d ih =>
    intro f N σ hfit hmay hN
    obtain ⟨n, rfl⟩ : ∃ n, N = n + 2 := ⟨N - 2, by omega⟩
    obtain ⟨h12, hkids⟩ := hfit
    have hm := mayR_parts hmay
    obtain ⟨g1, g2, g3, g4, g5⟩ := hm.1
    simp only [simpleR]
    by_cases c4 : f.op = 4
    · obtain ⟨k, hk⟩ := kid0_of (show f.kids.length = 1 by omega)
      have hkm : k ∈ f.kids := by rw [hk]; simp
      have hg := kid0_get hk
      have hcall := ih k (n + 1) [] (hkids k hkm) (hm.2 k hkm) (by omega)
      have hn := simple_nice d k (hkids k hkm) (hm.2 k hkm)
      rw [if_pos c4, hk]
      show callN T (n + 2) 24 [.agg (eF f)] σ = some (.agg (eF (negR (simpleR d k))), σ)
      refine call_of (m := m24) rfl rfl (by decide) (k_start ?_)
      unfold m24
      have h4 : (simpleR d k).op = 4 → ∃ x, (simpleR d k).kids = [x] := fun h4 => by
        have := nice_3 hn (by omega) (by omega)
        cases d with
        | zero => exact this.elim
        | succ d =>
          rcases this with h | ⟨_, _, x, h3, _⟩ | h
          · omega
          · exact ⟨x, h3⟩
          · omega
      generalize simpleR d k = s at *
      unfold negR
      by_cases q1 : s.op = 1
      · rw [if_pos q1, eF_leaf]
        refine k_seq ?_
        refine rgf (D.lptr (1 : Nat) (0 : Nat)) (σ) ?_
        refine rgf (D.lptr (2 : Nat) (0 : Nat)) (σ) ?_
        refine k_done (k_skip_seq (k_seq (k_seq ?_)))
        refine rv (D.lptr (1 : Nat) (0 : Nat)) ?_
        refine rv (D.int IntKind.i64 (Fm.op f)) ?_
        refine rv (D.bool (decide (Fm.op f < (3 : Int)))) ?_
        refine k_done (k_skip_seq ?_)
        refine rkn 10 (decide (Fm.op f < (3 : Int))) false (decide_eq_false (by omega)) ?_
        refine kcf (k_skip_seq (k_seq (k_seq ?_)))
        refine rv (D.lptr (1 : Nat) (0 : Nat)) ?_
        refine rv (D.int IntKind.i64 (Fm.op f)) ?_
        refine rv (D.bool (Fm.op f == (3 : Int))) ?_
        refine k_done (k_skip_seq ?_)
        refine rkn 16 (Fm.op f == (3 : Int)) false (decide_eq_false (by omega)) ?_
        refine kcf (k_skip_seq (k_seq (k_seq ?_)))
        refine rv (D.lptr (1 : Nat) (0 : Nat)) ?_
        refine rv (D.int IntKind.i64 (Fm.op f)) ?_
        refine rv (D.bool (Fm.op f == (4 : Int))) ?_
        refine k_done (k_skip_seq ?_)
        refine rkn 22 (Fm.op f == (4 : Int)) true (decide_eq_true (by assumption)) ?_
        refine kct (k_seq ?_)
        refine rv (D.lptr (1 : Nat) (2 : Nat)) ?_
        refine rv (D.sl (eFs (Fm.kids f)) none) ?_
        refine runs_indexL (eFs (Fm.kids f)) (o := none) (kd := IntKind.i64) (0) _ (by kernel_rfl) (by kernel_rfl) (by kernel_rfl) (by assumption) (by kernel_rfl) ?_
        refine rv (D.agg [D.int IntKind.i64 (Fm.op k), D.int IntKind.i64 (Fm.n k), D.sl (eFs (Fm.kids k)) none]) ?_
        refine runs_call ([D.agg [D.int IntKind.i64 (Fm.op k), D.int IntKind.i64 (Fm.n k), D.sl (eFs (Fm.kids k)) none]]) (by kernel_rfl) (by kernel_rfl) (by kernel_rfl) (by kernel_rfl) (hcall) (by kernel_rfl) ?_
        refine rgf (D.lptr (3 : Nat) (0 : Nat)) (σ) ?_
        refine rgf (D.junk) (σ) ?_
        refine k_done (k_skip_seq (k_seq (k_seq ?_)))
        refine rv (D.lptr (3 : Nat) (0 : Nat)) ?_
        refine rv (D.int IntKind.i64 (Fm.op s)) ?_
        refine k_done (k_skip_seq (k_block (k_seq ?_)))
        refine rv (D.bool (Fm.op s == (1 : Int))) ?_
        refine ra0 (D.bool (Fm.op s == (1 : Int))) ?_
        refine k_done (k_skip_seq ?_)
        refine rkn 30 (Fm.op s == (1 : Int)) true (decide_eq_true (by assumption)) ?_
        refine kct (k_seq ?_)
        refine rv (D.agg [D.int IntKind.i64 (2 : Int), D.int IntKind.i64 (0 : Int), D.nils (33 : Nat)]) ?_
        refine rgf (D.junk) (σ) ?_
        refine k_done (k_skip_seq (k_ret ?_))
        refine ⟨.inr rfl, by kernel_rfl, ?_⟩
        show _ = _
        kernel_rfl
      by_cases q2 : s.op = 2
      · rw [if_neg q1, if_pos q2, eF_leaf]
        refine k_seq ?_
        refine rgf (D.lptr (1 : Nat) (0 : Nat)) (σ) ?_
        refine rgf (D.lptr (2 : Nat) (0 : Nat)) (σ) ?_
        refine k_done (k_skip_seq (k_seq (k_seq ?_)))
        refine rv (D.lptr (1 : Nat) (0 : Nat)) ?_
        refine rv (D.int IntKind.i64 (Fm.op f)) ?_
        refine rv (D.bool (decide (Fm.op f < (3 : Int)))) ?_
        refine k_done (k_skip_seq ?_)
        refine rkn 10 (decide (Fm.op f < (3 : Int))) false (decide_eq_false (by omega)) ?_
        refine kcf (k_skip_seq (k_seq (k_seq ?_)))
        refine rv (D.lptr (1 : Nat) (0 : Nat)) ?_
        refine rv (D.int IntKind.i64 (Fm.op f)) ?_
        refine rv (D.bool (Fm.op f == (3 : Int))) ?_
        refine k_done (k_skip_seq ?_)
        refine rkn 16 (Fm.op f == (3 : Int)) false (decide_eq_false (by omega)) ?_
        refine kcf (k_skip_seq (k_seq (k_seq ?_)))
        refine rv (D.lptr (1 : Nat) (0 : Nat)) ?_
        refine rv (D.int IntKind.i64 (Fm.op f)) ?_
        refine rv (D.bool (Fm.op f == (4 : Int))) ?_
        refine k_done (k_skip_seq ?_)
        refine rkn 22 (Fm.op f == (4 : Int)) true (decide_eq_true (by assumption)) ?_
        refine kct (k_seq ?_)
        refine rv (D.lptr (1 : Nat) (2 : Nat)) ?_
        refine rv (D.sl (eFs (Fm.kids f)) none) ?_
        refine runs_indexL (eFs (Fm.kids f)) (o := none) (kd := IntKind.i64) (0) _ (by kernel_rfl) (by kernel_rfl) (by kernel_rfl) (by assumption) (by kernel_rfl) ?_
        refine rv (D.agg [D.int IntKind.i64 (Fm.op k), D.int IntKind.i64 (Fm.n k), D.sl (eFs (Fm.kids k)) none]) ?_
        refine runs_call ([D.agg [D.int IntKind.i64 (Fm.op k), D.int IntKind.i64 (Fm.n k), D.sl (eFs (Fm.kids k)) none]]) (by kernel_rfl) (by kernel_rfl) (by kernel_rfl) (by kernel_rfl) (hcall) (by kernel_rfl) ?_
        refine rgf (D.lptr (3 : Nat) (0 : Nat)) (σ) ?_
        refine rgf (D.junk) (σ) ?_
        refine k_done (k_skip_seq (k_seq (k_seq ?_)))
        refine rv (D.lptr (3 : Nat) (0 : Nat)) ?_
        refine rv (D.int IntKind.i64 (Fm.op s)) ?_
        refine k_done (k_skip_seq (k_block (k_seq ?_)))
        refine rv (D.bool (Fm.op s == (1 : Int))) ?_
        refine ra0 (D.bool (Fm.op s == (1 : Int))) ?_
        refine k_done (k_skip_seq ?_)
        refine rkn 30 (Fm.op s == (1 : Int)) false (decide_eq_false (by assumption)) ?_
        refine kcf (k_seq ?_)
        refine rv (D.bool (Fm.op s == (2 : Int))) ?_
        refine ra0 (D.bool (Fm.op s == (2 : Int))) ?_
        refine k_done (k_skip_seq ?_)
        refine rkn 33 (Fm.op s == (2 : Int)) true (decide_eq_true (by assumption)) ?_
        refine kct (k_seq ?_)
        refine rv (D.agg [D.int IntKind.i64 (1 : Int), D.int IntKind.i64 (0 : Int), D.nils (33 : Nat)]) ?_
        refine rgf (D.junk) (σ) ?_
        refine k_done (k_skip_seq (k_ret ?_))
        refine ⟨.inr rfl, by kernel_rfl, ?_⟩
        show _ = _
        kernel_rfl
      by_cases q4 : s.op = 4
      · obtain ⟨x, hx⟩ := h4 q4
        have hg2 := kid0_get hx
        rw [if_neg q1, if_neg q2, if_pos q4, hx]
        refine k_seq ?_
        refine rgf (D.lptr (1 : Nat) (0 : Nat)) (σ) ?_
        refine rgf (D.lptr (2 : Nat) (0 : Nat)) (σ) ?_
        refine k_done (k_skip_seq (k_seq (k_seq ?_)))
        refine rv (D.lptr (1 : Nat) (0 : Nat)) ?_
        refine rv (D.int IntKind.i64 (Fm.op f)) ?_
        refine rv (D.bool (decide (Fm.op f < (3 : Int)))) ?_
        refine k_done (k_skip_seq ?_)
        refine rkn 10 (decide (Fm.op f < (3 : Int))) false (decide_eq_false (by omega)) ?_
        refine kcf (k_skip_seq (k_seq (k_seq ?_)))
        refine rv (D.lptr (1 : Nat) (0 : Nat)) ?_
        refine rv (D.int IntKind.i64 (Fm.op f)) ?_
        refine rv (D.bool (Fm.op f == (3 : Int))) ?_
        refine k_done (k_skip_seq ?_)
        refine rkn 16 (Fm.op f == (3 : Int)) false (decide_eq_false (by omega)) ?_
        refine kcf (k_skip_seq (k_seq (k_seq ?_)))
        refine rv (D.lptr (1 : Nat) (0 : Nat)) ?_
        refine rv (D.int IntKind.i64 (Fm.op f)) ?_
        refine rv (D.bool (Fm.op f == (4 : Int))) ?_
        refine k_done (k_skip_seq ?_)
        refine rkn 22 (Fm.op f == (4 : Int)) true (decide_eq_true (by assumption)) ?_
        refine kct (k_seq ?_)
        refine rv (D.lptr (1 : Nat) (2 : Nat)) ?_
        refine rv (D.sl (eFs (Fm.kids f)) none) ?_
        refine runs_indexL (eFs (Fm.kids f)) (o := none) (kd := IntKind.i64) (0) _ (by kernel_rfl) (by kernel_rfl) (by kernel_rfl) (by assumption) (by kernel_rfl) ?_
        refine rv (D.agg [D.int IntKind.i64 (Fm.op k), D.int IntKind.i64 (Fm.n k), D.sl (eFs (Fm.kids k)) none]) ?_
        refine runs_call ([D.agg [D.int IntKind.i64 (Fm.op k), D.int IntKind.i64 (Fm.n k), D.sl (eFs (Fm.kids k)) none]]) (by kernel_rfl) (by kernel_rfl) (by kernel_rfl) (by kernel_rfl) (hcall) (by kernel_rfl) ?_
        refine rgf (D.lptr (3 : Nat) (0 : Nat)) (σ) ?_
        refine rgf (D.junk) (σ) ?_
        refine k_done (k_skip_seq (k_seq (k_seq ?_)))
        refine rv (D.lptr (3 : Nat) (0 : Nat)) ?_
        refine rv (D.int IntKind.i64 (Fm.op s)) ?_
        refine k_done (k_skip_seq (k_block (k_seq ?_)))
        refine rv (D.bool (Fm.op s == (1 : Int))) ?_
        refine ra0 (D.bool (Fm.op s == (1 : Int))) ?_
        refine k_done (k_skip_seq ?_)
        refine rkn 30 (Fm.op s == (1 : Int)) false (decide_eq_false (by assumption)) ?_
        refine kcf (k_seq ?_)
        refine rv (D.bool (Fm.op s == (2 : Int))) ?_
        refine ra0 (D.bool (Fm.op s == (2 : Int))) ?_
        refine k_done (k_skip_seq ?_)
        refine rkn 33 (Fm.op s == (2 : Int)) false (decide_eq_false (by assumption)) ?_
        refine kcf (k_seq ?_)
        refine rv (D.bool (Fm.op s == (4 : Int))) ?_
        refine ra0 (D.bool (Fm.op s == (4 : Int))) ?_
        refine k_done (k_skip_seq ?_)
        refine rkn 36 (Fm.op s == (4 : Int)) true (decide_eq_true (by assumption)) ?_
        refine kct (k_seq ?_)
        refine rv (D.lptr (3 : Nat) (2 : Nat)) ?_
        refine rv (D.sl (eFs (Fm.kids s)) none) ?_
        refine runs_indexL (eFs (Fm.kids s)) (o := none) (kd := IntKind.i64) (0) _ (by kernel_rfl) (by kernel_rfl) (by kernel_rfl) (by assumption) (by kernel_rfl) ?_
        refine rv (D.agg [D.int IntKind.i64 (Fm.op x), D.int IntKind.i64 (Fm.n x), D.sl (eFs (Fm.kids x)) none]) ?_
        refine rgf (D.junk) (σ) ?_
        refine k_done (k_skip_seq (k_ret ?_))
        refine ⟨.inr rfl, by kernel_rfl, ?_⟩
        show _ = _
        kernel_rfl
      · rw [if_neg q1, if_neg q2, if_neg q4, eF_one]
        refine k_seq ?_
        refine rgf (D.lptr (1 : Nat) (0 : Nat)) (σ) ?_
        refine rgf (D.lptr (2 : Nat) (0 : Nat)) (σ) ?_
        refine k_done (k_skip_seq (k_seq (k_seq ?_)))
        refine rv (D.lptr (1 : Nat) (0 : Nat)) ?_
        refine rv (D.int IntKind.i64 (Fm.op f)) ?_
        refine rv (D.bool (decide (Fm.op f < (3 : Int)))) ?_
        refine k_done (k_skip_seq ?_)
        refine rkn 10 (decide (Fm.op f < (3 : Int))) false (decide_eq_false (by omega)) ?_
        refine kcf (k_skip_seq (k_seq (k_seq ?_)))
        refine rv (D.lptr (1 : Nat) (0 : Nat)) ?_
        refine rv (D.int IntKind.i64 (Fm.op f)) ?_
        refine rv (D.bool (Fm.op f == (3 : Int))) ?_
        refine k_done (k_skip_seq ?_)
        refine rkn 16 (Fm.op f == (3 : Int)) false (decide_eq_false (by omega)) ?_
        refine kcf (k_skip_seq (k_seq (k_seq ?_)))
        refine rv (D.lptr (1 : Nat) (0 : Nat)) ?_
        refine rv (D.int IntKind.i64 (Fm.op f)) ?_
        refine rv (D.bool (Fm.op f == (4 : Int))) ?_
        refine k_done (k_skip_seq ?_)
        refine rkn 22 (Fm.op f == (4 : Int)) true (decide_eq_true (by assumption)) ?_
        refine kct (k_seq ?_)
        refine rv (D.lptr (1 : Nat) (2 : Nat)) ?_
        refine rv (D.sl (eFs (Fm.kids f)) none) ?_
        refine runs_indexL (eFs (Fm.kids f)) (o := none) (kd := IntKind.i64) (0) _ (by kernel_rfl) (by kernel_rfl) (by kernel_rfl) (by assumption) (by kernel_rfl) ?_
        refine rv (D.agg [D.int IntKind.i64 (Fm.op k), D.int IntKind.i64 (Fm.n k), D.sl (eFs (Fm.kids k)) none]) ?_
        refine runs_call ([D.agg [D.int IntKind.i64 (Fm.op k), D.int IntKind.i64 (Fm.n k), D.sl (eFs (Fm.kids k)) none]]) (by kernel_rfl) (by kernel_rfl) (by kernel_rfl) (by kernel_rfl) (hcall) (by kernel_rfl) ?_
        refine rgf (D.lptr (3 : Nat) (0 : Nat)) (σ) ?_
        refine rgf (D.junk) (σ) ?_
        refine k_done (k_skip_seq (k_seq (k_seq ?_)))
        refine rv (D.lptr (3 : Nat) (0 : Nat)) ?_
        refine rv (D.int IntKind.i64 (Fm.op s)) ?_
        refine k_done (k_skip_seq (k_block (k_seq ?_)))
        refine rv (D.bool (Fm.op s == (1 : Int))) ?_
        refine ra0 (D.bool (Fm.op s == (1 : Int))) ?_
        refine k_done (k_skip_seq ?_)
        refine rkn 30 (Fm.op s == (1 : Int)) false (decide_eq_false (by assumption)) ?_
        refine kcf (k_seq ?_)
        refine rv (D.bool (Fm.op s == (2 : Int))) ?_
        refine ra0 (D.bool (Fm.op s == (2 : Int))) ?_
        refine k_done (k_skip_seq ?_)
        refine rkn 33 (Fm.op s == (2 : Int)) false (decide_eq_false (by assumption)) ?_
        refine kcf (k_seq ?_)
        refine rv (D.bool (Fm.op s == (4 : Int))) ?_
        refine ra0 (D.bool (Fm.op s == (4 : Int))) ?_
        refine k_done (k_skip_seq ?_)
        refine rkn 36 (Fm.op s == (4 : Int)) false (decide_eq_false (by assumption)) ?_
        refine kcf (k_skip_block (k_skip_seq (k_seq ?_)))
        refine rv (D.agg [D.int IntKind.i64 (Fm.op s), D.int IntKind.i64 (Fm.n s), D.sl (eFs (Fm.kids s)) none]) ?_
        refine rv (D.sl [[D.int IntKind.i64 (Fm.op s), D.int IntKind.i64 (Fm.n s), D.sl (eFs (Fm.kids s)) none]] (some (33 : Nat))) ?_
        refine rv (D.agg [D.int IntKind.i64 (4 : Int), D.int IntKind.i64 (0 : Int), D.sl [[D.int IntKind.i64 (Fm.op s), D.int IntKind.i64 (Fm.n s), D.sl (eFs (Fm.kids s)) none]] none]) ?_
        refine rgf (D.junk) (σ) ?_
        refine k_done (k_skip_seq (k_ret ?_))
        refine ⟨.inr rfl, by kernel_rfl, ?_⟩
        show _ = _
        kernel_rfl
    rw [if_neg c4]
    by_cases c5 : f.op = 5
    · rw [if_pos c5]
      refine call_of (m := m24) rfl rfl (by decide) (k_start ?_)
      unfold m24
      refine k_seq ?_
      refine rgf (D.lptr (1 : Nat) (0 : Nat)) (σ) ?_
      refine rgf (D.lptr (2 : Nat) (0 : Nat)) (σ) ?_
      refine k_done (k_skip_seq (k_seq (k_seq ?_)))
      refine rv (D.lptr (1 : Nat) (0 : Nat)) ?_
      refine rv (D.int IntKind.i64 (Fm.op f)) ?_
      refine rv (D.bool (decide (Fm.op f < (3 : Int)))) ?_
      refine k_done (k_skip_seq ?_)
      refine rkn 10 (decide (Fm.op f < (3 : Int))) false (decide_eq_false (by omega)) ?_
      refine kcf (k_skip_seq (k_seq (k_seq ?_)))
      refine rv (D.lptr (1 : Nat) (0 : Nat)) ?_
      refine rv (D.int IntKind.i64 (Fm.op f)) ?_
      refine rv (D.bool (Fm.op f == (3 : Int))) ?_
      refine k_done (k_skip_seq ?_)
      refine rkn 16 (Fm.op f == (3 : Int)) false (decide_eq_false (by omega)) ?_
      refine kcf (k_skip_seq (k_seq (k_seq ?_)))
      refine rv (D.lptr (1 : Nat) (0 : Nat)) ?_
      refine rv (D.int IntKind.i64 (Fm.op f)) ?_
      refine rv (D.bool (Fm.op f == (4 : Int))) ?_
      refine k_done (k_skip_seq ?_)
      refine rkn 22 (Fm.op f == (4 : Int)) false (decide_eq_false (by assumption)) ?_
      refine kcf (k_skip_seq (k_seq ?_))
      refine rv (D.int IntKind.i64 (1 : Int)) ?_
      refine k_done (k_skip_seq (k_seq (k_seq ?_)))
      refine rv (D.lptr (1 : Nat) (0 : Nat)) ?_
      refine rv (D.int IntKind.i64 (Fm.op f)) ?_
      refine rv (D.bool (Fm.op f == (6 : Int))) ?_
      refine k_done (k_skip_seq ?_)
      refine rkn 47 (Fm.op f == (6 : Int)) false (decide_eq_false (by omega)) ?_
      refine kcf (k_skip_seq (k_seq ?_))
      refine rv (D.sl [] (some (33 : Nat))) ?_
      refine k_done (k_skip_seq (k_seq (k_seq ?_)))
      refine rv (D.int IntKind.i64 (0 : Int)) ?_
      refine k_done (k_skip_seq (k_block ?_))
      refine k_loop (S := Nat × List Fm) (fun s => f24 f 1 s.1 (eFs s.2)) (fun _ => σ) (fun s => s.1 ≤ f.kids.length ∧ s.2.length ≤ s.1 ∧ rowL (simpleR d) 1 2 (f.kids.drop s.1) s.2 = rowL (simpleR d) 1 2 f.kids []) (fun s => f.kids.length - s.1) (0, []) (by kernel_rfl) rfl ⟨by simp, by simp, rfl⟩ (by intro s hs; omega) ?_
      rintro ⟨i, out⟩ ⟨hi, hlen, hrow⟩
      simp only [] at hi hlen hrow
      by_cases hlt : i < f.kids.length
      · rw [drop_at hlt] at hrow
        simp only [rowL] at hrow
        have hg := kid_at hlt
        have hcall := ih f.kids[i] (n + 1) [] (hkids _ (List.getElem_mem hlt)) (hm.2 _ (List.getElem_mem hlt)) (by omega)
        by_cases c1 : (simpleR d f.kids[i]).op = 2
        · rw [if_pos c1] at hrow
          rw [← hrow]
          show Runs _ _
          rw [show rowEnd 5 1 2 none = .mk 2 0 [] from rfl, eF_leaf]
          refine k_seq (k_seq ?_)
          refine rv (D.int IntKind.i64 (↑i : Int)) ?_
          refine rv (D.lptr (1 : Nat) (2 : Nat)) ?_
          refine rv (D.sl (eFs (Fm.kids f)) none) ?_
          refine rve (D.int IntKind.i64 (↑(List.length (eFs (Fm.kids f))) : Int)) (.int IntKind.i64 ((↑(List.length (Fm.kids f)) : Int))) (by simp only [eFs_length]) ?_
          refine rv (D.bool (decide ((↑i : Int) < (↑(List.length (Fm.kids f)) : Int)))) ?_
          refine k_done (k_skip_seq ?_)
          refine rkn 52 (decide ((↑i : Int) < (↑(List.length (Fm.kids f)) : Int))) true (decide_eq_true (by omega)) ?_
          refine kct (k_skip_seq (k_seq (k_block (k_seq ?_))))
          refine rv (D.lptr (1 : Nat) (2 : Nat)) ?_
          refine rv (D.sl (eFs (Fm.kids f)) none) ?_
          refine rv (D.int IntKind.i64 (↑i : Int)) ?_
          refine runs_indexL (eFs (Fm.kids f)) (o := none) (kd := IntKind.i64) (i) _ (by kernel_rfl) (by kernel_rfl) (by kernel_rfl) (by assumption) (by kernel_rfl) ?_
          refine rv (D.agg [D.int IntKind.i64 (Fm.op (Fm.kids f)[i]), D.int IntKind.i64 (Fm.n (Fm.kids f)[i]), D.sl (eFs (Fm.kids (Fm.kids f)[i])) none]) ?_
          refine runs_call ([D.agg [D.int IntKind.i64 (Fm.op (Fm.kids f)[i]), D.int IntKind.i64 (Fm.n (Fm.kids f)[i]), D.sl (eFs (Fm.kids (Fm.kids f)[i])) none]]) (by kernel_rfl) (by kernel_rfl) (by kernel_rfl) (by kernel_rfl) (hcall) (by kernel_rfl) ?_
          refine rgf (D.lptr (7 : Nat) (0 : Nat)) (σ) ?_
          refine rgf (D.junk) (σ) ?_
          refine k_done (k_skip_seq (k_seq (k_seq ?_)))
          refine rv (D.lptr (7 : Nat) (0 : Nat)) ?_
          refine rv (D.int IntKind.i64 (Fm.op (simpleR d (Fm.kids f)[i]))) ?_
          refine rv (D.int IntKind.i64 (1 : Int)) ?_
          refine rv (D.int IntKind.i64 (2 : Int)) ?_
          refine rv (D.bool (Fm.op (simpleR d (Fm.kids f)[i]) == (2 : Int))) ?_
          refine k_done (k_skip_seq ?_)
          refine rkn 65 (Fm.op (simpleR d (Fm.kids f)[i]) == (2 : Int)) true (decide_eq_true (by assumption)) ?_
          refine kct (k_seq ?_)
          refine rv (D.int IntKind.i64 (1 : Int)) ?_
          refine rv (D.int IntKind.i64 (2 : Int)) ?_
          refine rv (D.agg [D.int IntKind.i64 (2 : Int), D.int IntKind.i64 (0 : Int), D.nils (33 : Nat)]) ?_
          refine rgf (D.junk) (σ) ?_
          refine k_done (k_skip_seq (k_ret ?_))
          refine ⟨.inr rfl, by kernel_rfl, ?_⟩
          show _ = _
          kernel_rfl
        · rw [if_neg c1] at hrow
          by_cases c2 : (simpleR d f.kids[i]).op = 1
          · rw [if_pos c2] at hrow
            refine k_seq (k_seq ?_)
            refine rv (D.int IntKind.i64 (↑i : Int)) ?_
            refine rv (D.lptr (1 : Nat) (2 : Nat)) ?_
            refine rv (D.sl (eFs (Fm.kids f)) none) ?_
            refine rve (D.int IntKind.i64 (↑(List.length (eFs (Fm.kids f))) : Int)) (.int IntKind.i64 ((↑(List.length (Fm.kids f)) : Int))) (by simp only [eFs_length]) ?_
            refine rv (D.bool (decide ((↑i : Int) < (↑(List.length (Fm.kids f)) : Int)))) ?_
            refine k_done (k_skip_seq ?_)
            refine rkn 52 (decide ((↑i : Int) < (↑(List.length (Fm.kids f)) : Int))) true (decide_eq_true (by omega)) ?_
            refine kct (k_skip_seq (k_seq (k_block (k_seq ?_))))
            refine rv (D.lptr (1 : Nat) (2 : Nat)) ?_
            refine rv (D.sl (eFs (Fm.kids f)) none) ?_
            refine rv (D.int IntKind.i64 (↑i : Int)) ?_
            refine runs_indexL (eFs (Fm.kids f)) (o := none) (kd := IntKind.i64) (i) _ (by kernel_rfl) (by kernel_rfl) (by kernel_rfl) (by assumption) (by kernel_rfl) ?_
            refine rv (D.agg [D.int IntKind.i64 (Fm.op (Fm.kids f)[i]), D.int IntKind.i64 (Fm.n (Fm.kids f)[i]), D.sl (eFs (Fm.kids (Fm.kids f)[i])) none]) ?_
            refine runs_call ([D.agg [D.int IntKind.i64 (Fm.op (Fm.kids f)[i]), D.int IntKind.i64 (Fm.n (Fm.kids f)[i]), D.sl (eFs (Fm.kids (Fm.kids f)[i])) none]]) (by kernel_rfl) (by kernel_rfl) (by kernel_rfl) (by kernel_rfl) (hcall) (by kernel_rfl) ?_
            refine rgf (D.lptr (7 : Nat) (0 : Nat)) (σ) ?_
            refine rgf (D.junk) (σ) ?_
            refine k_done (k_skip_seq (k_seq (k_seq ?_)))
            refine rv (D.lptr (7 : Nat) (0 : Nat)) ?_
            refine rv (D.int IntKind.i64 (Fm.op (simpleR d (Fm.kids f)[i]))) ?_
            refine rv (D.int IntKind.i64 (1 : Int)) ?_
            refine rv (D.int IntKind.i64 (2 : Int)) ?_
            refine rv (D.bool (Fm.op (simpleR d (Fm.kids f)[i]) == (2 : Int))) ?_
            refine k_done (k_skip_seq ?_)
            refine rkn 65 (Fm.op (simpleR d (Fm.kids f)[i]) == (2 : Int)) false (decide_eq_false (by assumption)) ?_
            refine kcf (k_skip_seq (k_seq ?_))
            refine rv (D.lptr (7 : Nat) (0 : Nat)) ?_
            refine rv (D.int IntKind.i64 (Fm.op (simpleR d (Fm.kids f)[i]))) ?_
            refine rv (D.int IntKind.i64 (1 : Int)) ?_
            refine rv (D.bool (Fm.op (simpleR d (Fm.kids f)[i]) != (1 : Int))) ?_
            refine k_done (k_skip_seq ?_)
            refine rkn 72 (Fm.op (simpleR d (Fm.kids f)[i]) != (1 : Int)) false (bne_eq_false_iff_eq.2 (by assumption)) ?_
            refine kcf (k_skip_block (k_skip_seq ?_))
            refine rv (D.int IntKind.i64 (↑i : Int)) ?_
            refine rve (D.int IntKind.i64 (IntKind.wrap IntKind.i64 ((↑i : Int) + (1 : Int)))) (.int IntKind.i64 ((i + 1 : Nat) : Int)) (congrArg (D.int IntKind.i64) (show IntKind.wrap IntKind.i64 ((↑i : Int) + (1 : Int)) = ((i + 1 : Nat) : Int) from wrap_eq (by omega) (by omega) (by omega))) ?_
            refine ra0 (D.int IntKind.i64 (↑(i + (1 : Nat)) : Int)) ?_
            refine k_done (k_skip_back ?_)
            exact ⟨(i + 1, out), ⟨hlt, by simp only []; omega, hrow⟩, by simp only []; omega, by kernel_rfl, rfl⟩
          · rw [if_neg c2] at hrow
            have hsn := eFs_snoc out (simpleR d f.kids[i])
            refine k_seq (k_seq ?_)
            refine rv (D.int IntKind.i64 (↑i : Int)) ?_
            refine rv (D.lptr (1 : Nat) (2 : Nat)) ?_
            refine rv (D.sl (eFs (Fm.kids f)) none) ?_
            refine rve (D.int IntKind.i64 (↑(List.length (eFs (Fm.kids f))) : Int)) (.int IntKind.i64 ((↑(List.length (Fm.kids f)) : Int))) (by simp only [ints, eInt, rows, eInts, bools, eBool, trips, eTrip, List.length_map, eFs_length]) ?_
            refine rv (D.bool (decide ((↑i : Int) < (↑(List.length (Fm.kids f)) : Int)))) ?_
            refine k_done (k_skip_seq ?_)
            refine rkn 52 (decide ((↑i : Int) < (↑(List.length (Fm.kids f)) : Int))) true (decide_eq_true (by omega)) ?_
            refine kct (k_skip_seq (k_seq (k_block (k_seq ?_))))
            refine rv (D.lptr (1 : Nat) (2 : Nat)) ?_
            refine rv (D.sl (eFs (Fm.kids f)) none) ?_
            refine rv (D.int IntKind.i64 (↑i : Int)) ?_
            refine runs_indexL (eFs (Fm.kids f)) (o := none) (kd := IntKind.i64) (i) _ (by kernel_rfl) (by kernel_rfl) (by kernel_rfl) (by assumption) (by kernel_rfl) ?_
            refine rv (D.agg [D.int IntKind.i64 (Fm.op (Fm.kids f)[i]), D.int IntKind.i64 (Fm.n (Fm.kids f)[i]), D.sl (eFs (Fm.kids (Fm.kids f)[i])) none]) ?_
            refine runs_call ([D.agg [D.int IntKind.i64 (Fm.op (Fm.kids f)[i]), D.int IntKind.i64 (Fm.n (Fm.kids f)[i]), D.sl (eFs (Fm.kids (Fm.kids f)[i])) none]]) (by kernel_rfl) (by kernel_rfl) (by kernel_rfl) (by kernel_rfl) (hcall) (by kernel_rfl) ?_
            refine rgf (D.lptr (7 : Nat) (0 : Nat)) (σ) ?_
            refine rgf (D.junk) (σ) ?_
            refine k_done (k_skip_seq (k_seq (k_seq ?_)))
            refine rv (D.lptr (7 : Nat) (0 : Nat)) ?_
            refine rv (D.int IntKind.i64 (Fm.op (simpleR d (Fm.kids f)[i]))) ?_
            refine rv (D.int IntKind.i64 (1 : Int)) ?_
            refine rv (D.int IntKind.i64 (2 : Int)) ?_
            refine rv (D.bool (Fm.op (simpleR d (Fm.kids f)[i]) == (2 : Int))) ?_
            refine k_done (k_skip_seq ?_)
            refine rkn 65 (Fm.op (simpleR d (Fm.kids f)[i]) == (2 : Int)) false (decide_eq_false (by assumption)) ?_
            refine kcf (k_skip_seq (k_seq ?_))
            refine rv (D.lptr (7 : Nat) (0 : Nat)) ?_
            refine rv (D.int IntKind.i64 (Fm.op (simpleR d (Fm.kids f)[i]))) ?_
            refine rv (D.int IntKind.i64 (1 : Int)) ?_
            refine rv (D.bool (Fm.op (simpleR d (Fm.kids f)[i]) != (1 : Int))) ?_
            refine k_done (k_skip_seq ?_)
            refine rkn 72 (Fm.op (simpleR d (Fm.kids f)[i]) != (1 : Int)) true (bne_iff_ne.2 (by assumption)) ?_
            refine kct ?_
            refine runs_steal (D.sl (eFs out) (some (33 : Nat))) (by kernel_rfl) (by kernel_rfl) ?_
            refine rv (D.agg [D.int IntKind.i64 (Fm.op (simpleR d (Fm.kids f)[i])), D.int IntKind.i64 (Fm.n (simpleR d (Fm.kids f)[i])), D.sl (eFs (Fm.kids (simpleR d (Fm.kids f)[i]))) none]) ?_
            refine rv (D.sl [[D.int IntKind.i64 (Fm.op (simpleR d (Fm.kids f)[i])), D.int IntKind.i64 (Fm.n (simpleR d (Fm.kids f)[i])), D.sl (eFs (Fm.kids (simpleR d (Fm.kids f)[i]))) none]] (some (33 : Nat))) ?_
            refine runs_append (eFs out) ([[D.int IntKind.i64 (Fm.op (simpleR d (Fm.kids f)[i])), D.int IntKind.i64 (Fm.n (simpleR d (Fm.kids f)[i])), D.sl (eFs (Fm.kids (simpleR d (Fm.kids f)[i]))) none]]) (eFs out ++ [[D.int IntKind.i64 (Fm.op (simpleR d (Fm.kids f)[i])), D.int IntKind.i64 (Fm.n (simpleR d (Fm.kids f)[i])), D.sl (eFs (Fm.kids (simpleR d (Fm.kids f)[i]))) none]]) (by kernel_rfl) (by kernel_rfl) (by kernel_rfl) (by kernel_rfl) (by simp [eFs_length, ints, eInt, rows, eInts, bools, eBool, trips, eTrip, room]; omega) rfl ?_
            refine runs_assign (D.sl (eFs out ++ [[D.int IntKind.i64 (Fm.op (simpleR d (Fm.kids f)[i])), D.int IntKind.i64 (Fm.n (simpleR d (Fm.kids f)[i])), D.sl (eFs (Fm.kids (simpleR d (Fm.kids f)[i]))) none]]) (some (33 : Nat))) (by kernel_rfl) (by kernel_rfl) ?_
            refine k_done (k_skip_block (k_skip_seq ?_))
            refine rv (D.int IntKind.i64 (↑i : Int)) ?_
            refine rve (D.int IntKind.i64 (IntKind.wrap IntKind.i64 ((↑i : Int) + (1 : Int)))) (.int IntKind.i64 ((i + 1 : Nat) : Int)) (congrArg (D.int IntKind.i64) (show IntKind.wrap IntKind.i64 ((↑i : Int) + (1 : Int)) = ((i + 1 : Nat) : Int) from wrap_eq (by omega) (by omega) (by omega))) ?_
            refine ra0 (D.int IntKind.i64 (↑(i + (1 : Nat)) : Int)) ?_
            refine k_done (k_skip_back ?_)
            exact ⟨(i + 1, out ++ [simpleR d f.kids[i]]), ⟨hlt, by simp; omega, hrow⟩, by simp only []; omega, by simp only []; rw [← hsn]; kernel_rfl, rfl⟩
      · rw [List.drop_of_length_le (by omega)] at hrow
        simp only [rowL] at hrow
        rw [← hrow]
        match out, hlen with
        | [], _ =>
          rw [show rowEnd 5 1 2 (some []) = .mk 1 0 [] from rfl, eF_leaf]
          refine k_seq (k_seq ?_)
          refine rv (D.int IntKind.i64 (↑i : Int)) ?_
          refine rv (D.lptr (1 : Nat) (2 : Nat)) ?_
          refine rv (D.sl (eFs (Fm.kids f)) none) ?_
          refine rve (D.int IntKind.i64 (↑(List.length (eFs (Fm.kids f))) : Int)) (.int IntKind.i64 ((↑(List.length (Fm.kids f)) : Int))) (by simp only [eFs_length]) ?_
          refine rv (D.bool (decide ((↑i : Int) < (↑(List.length (Fm.kids f)) : Int)))) ?_
          refine k_done (k_skip_seq ?_)
          refine rkn 52 (decide ((↑i : Int) < (↑(List.length (Fm.kids f)) : Int))) false (decide_eq_false (by omega)) ?_
          refine kcf (k_exit_seq (k_exit_back (k_exit_hit rfl (k_skip_seq (k_seq (k_seq ?_))))))
          refine rv (D.sl [] none) ?_
          refine rv (D.int IntKind.i64 (0 : Int)) ?_
          refine rv (D.bool true) ?_
          refine k_done (k_skip_seq (kct (k_seq ?_)))
          refine rv (D.int IntKind.i64 (1 : Int)) ?_
          refine rv (D.agg [D.int IntKind.i64 (1 : Int), D.int IntKind.i64 (0 : Int), D.nils (33 : Nat)]) ?_
          refine rgf (D.junk) (σ) ?_
          refine k_done (k_skip_seq (k_ret ?_))
          refine ⟨.inr rfl, by kernel_rfl, ?_⟩
          show _ = _
          kernel_rfl
        | [x], _ =>
          rw [show rowEnd 5 1 2 (some [x]) = x from rfl]
          have hg : (eFs [x])[0]? = some (eF x) := eFs_get rfl
          have h1 : [x].length = 1 := rfl
          generalize [x] = out at *
          refine k_seq (k_seq ?_)
          refine rv (D.int IntKind.i64 (↑i : Int)) ?_
          refine rv (D.lptr (1 : Nat) (2 : Nat)) ?_
          refine rv (D.sl (eFs (Fm.kids f)) none) ?_
          refine rve (D.int IntKind.i64 (↑(List.length (eFs (Fm.kids f))) : Int)) (.int IntKind.i64 ((↑(List.length (Fm.kids f)) : Int))) (by simp only [eFs_length]) ?_
          refine rv (D.bool (decide ((↑i : Int) < (↑(List.length (Fm.kids f)) : Int)))) ?_
          refine k_done (k_skip_seq ?_)
          refine rkn 52 (decide ((↑i : Int) < (↑(List.length (Fm.kids f)) : Int))) false (decide_eq_false (by omega)) ?_
          refine kcf (k_exit_seq (k_exit_back (k_exit_hit rfl (k_skip_seq (k_seq (k_seq ?_))))))
          refine rv (D.sl (eFs out) none) ?_
          refine rve (D.int IntKind.i64 (↑(List.length (eFs out)) : Int)) (.int IntKind.i64 ((↑(List.length out) : Int))) (by simp only [eFs_length]) ?_
          refine rv (D.bool ((↑(List.length out) : Int) == (0 : Int))) ?_
          refine k_done (k_skip_seq ?_)
          refine rkn 79 ((↑(List.length out) : Int) == (0 : Int)) false (decide_eq_false (by omega)) ?_
          refine kcf (k_skip_seq (k_seq (k_seq ?_)))
          refine rv (D.sl (eFs out) none) ?_
          refine rve (D.int IntKind.i64 (↑(List.length (eFs out)) : Int)) (.int IntKind.i64 ((↑(List.length out) : Int))) (by simp only [eFs_length]) ?_
          refine rv (D.bool ((↑(List.length out) : Int) == (1 : Int))) ?_
          refine k_done (k_skip_seq ?_)
          refine rkn 84 ((↑(List.length out) : Int) == (1 : Int)) true (decide_eq_true (by omega)) ?_
          refine kct (k_seq ?_)
          refine rv (D.sl (eFs out) none) ?_
          refine runs_indexL (eFs out) (o := none) (kd := IntKind.i64) (0) _ (by kernel_rfl) (by kernel_rfl) (by kernel_rfl) (by assumption) (by kernel_rfl) ?_
          refine rv (D.agg [D.int IntKind.i64 (Fm.op x), D.int IntKind.i64 (Fm.n x), D.sl (eFs (Fm.kids x)) none]) ?_
          refine rgf (D.junk) (σ) ?_
          refine k_done (k_skip_seq (k_ret ?_))
          refine ⟨.inr rfl, by kernel_rfl, ?_⟩
          show _ = _
          kernel_rfl
        | x :: y :: l, hlen =>
          have h2 : (x :: y :: l).length ≥ 2 := by simp
          rw [show rowEnd 5 1 2 (some (x :: y :: l)) = .mk f.op 0 (x :: y :: l) from by rw [c5]; rfl]
          generalize x :: y :: l = out at *
          refine k_seq (k_seq ?_)
          refine rv (D.int IntKind.i64 (↑i : Int)) ?_
          refine rv (D.lptr (1 : Nat) (2 : Nat)) ?_
          refine rv (D.sl (eFs (Fm.kids f)) none) ?_
          refine rve (D.int IntKind.i64 (↑(List.length (eFs (Fm.kids f))) : Int)) (.int IntKind.i64 ((↑(List.length (Fm.kids f)) : Int))) (by simp only [eFs_length]) ?_
          refine rv (D.bool (decide ((↑i : Int) < (↑(List.length (Fm.kids f)) : Int)))) ?_
          refine k_done (k_skip_seq ?_)
          refine rkn 52 (decide ((↑i : Int) < (↑(List.length (Fm.kids f)) : Int))) false (decide_eq_false (by omega)) ?_
          refine kcf (k_exit_seq (k_exit_back (k_exit_hit rfl (k_skip_seq (k_seq (k_seq ?_))))))
          refine rv (D.sl (eFs out) none) ?_
          refine rve (D.int IntKind.i64 (↑(List.length (eFs out)) : Int)) (.int IntKind.i64 ((↑(List.length out) : Int))) (by simp only [eFs_length]) ?_
          refine rv (D.bool ((↑(List.length out) : Int) == (0 : Int))) ?_
          refine k_done (k_skip_seq ?_)
          refine rkn 79 ((↑(List.length out) : Int) == (0 : Int)) false (decide_eq_false (by omega)) ?_
          refine kcf (k_skip_seq (k_seq (k_seq ?_)))
          refine rv (D.sl (eFs out) none) ?_
          refine rve (D.int IntKind.i64 (↑(List.length (eFs out)) : Int)) (.int IntKind.i64 ((↑(List.length out) : Int))) (by simp only [eFs_length]) ?_
          refine rv (D.bool ((↑(List.length out) : Int) == (1 : Int))) ?_
          refine k_done (k_skip_seq ?_)
          refine rkn 84 ((↑(List.length out) : Int) == (1 : Int)) false (decide_eq_false (by omega)) ?_
          refine kcf (k_skip_seq (k_seq ?_))
          refine rv (D.lptr (1 : Nat) (0 : Nat)) ?_
          refine rv (D.int IntKind.i64 (Fm.op f)) ?_
          refine rv (D.sl (eFs out) none) ?_
          refine rv (D.agg [D.int IntKind.i64 (Fm.op f), D.int IntKind.i64 (0 : Int), D.sl (eFs out) none]) ?_
          refine rgf (D.junk) (σ) ?_
          refine k_done (k_skip_seq (k_ret ?_))
          refine ⟨.inr rfl, by kernel_rfl, ?_⟩
          show _ = _
          kernel_rfl
    rw [if_neg c5]
    by_cases c6 : f.op = 6
    · rw [if_pos c6]
      refine call_of (m := m24) rfl rfl (by decide) (k_start ?_)
      unfold m24
      refine k_seq ?_
      refine rgf (D.lptr (1 : Nat) (0 : Nat)) (σ) ?_
      refine rgf (D.lptr (2 : Nat) (0 : Nat)) (σ) ?_
      refine k_done (k_skip_seq (k_seq (k_seq ?_)))
      refine rv (D.lptr (1 : Nat) (0 : Nat)) ?_
      refine rv (D.int IntKind.i64 (Fm.op f)) ?_
      refine rv (D.bool (decide (Fm.op f < (3 : Int)))) ?_
      refine k_done (k_skip_seq ?_)
      refine rkn 10 (decide (Fm.op f < (3 : Int))) false (decide_eq_false (by omega)) ?_
      refine kcf (k_skip_seq (k_seq (k_seq ?_)))
      refine rv (D.lptr (1 : Nat) (0 : Nat)) ?_
      refine rv (D.int IntKind.i64 (Fm.op f)) ?_
      refine rv (D.bool (Fm.op f == (3 : Int))) ?_
      refine k_done (k_skip_seq ?_)
      refine rkn 16 (Fm.op f == (3 : Int)) false (decide_eq_false (by omega)) ?_
      refine kcf (k_skip_seq (k_seq (k_seq ?_)))
      refine rv (D.lptr (1 : Nat) (0 : Nat)) ?_
      refine rv (D.int IntKind.i64 (Fm.op f)) ?_
      refine rv (D.bool (Fm.op f == (4 : Int))) ?_
      refine k_done (k_skip_seq ?_)
      refine rkn 22 (Fm.op f == (4 : Int)) false (decide_eq_false (by assumption)) ?_
      refine kcf (k_skip_seq (k_seq ?_))
      refine rv (D.int IntKind.i64 (1 : Int)) ?_
      refine k_done (k_skip_seq (k_seq (k_seq ?_)))
      refine rv (D.lptr (1 : Nat) (0 : Nat)) ?_
      refine rv (D.int IntKind.i64 (Fm.op f)) ?_
      refine rv (D.bool (Fm.op f == (6 : Int))) ?_
      refine k_done (k_skip_seq ?_)
      refine rkn 47 (Fm.op f == (6 : Int)) true (decide_eq_true (by assumption)) ?_
      refine kct ?_
      refine rv (D.int IntKind.i64 (2 : Int)) ?_
      refine k_done (k_skip_seq (k_seq ?_))
      refine rv (D.sl [] (some (33 : Nat))) ?_
      refine k_done (k_skip_seq (k_seq (k_seq ?_)))
      refine rv (D.int IntKind.i64 (0 : Int)) ?_
      refine k_done (k_skip_seq (k_block ?_))
      refine k_loop (S := Nat × List Fm) (fun s => f24 f 2 s.1 (eFs s.2)) (fun _ => σ) (fun s => s.1 ≤ f.kids.length ∧ s.2.length ≤ s.1 ∧ rowL (simpleR d) 2 1 (f.kids.drop s.1) s.2 = rowL (simpleR d) 2 1 f.kids []) (fun s => f.kids.length - s.1) (0, []) (by kernel_rfl) rfl ⟨by simp, by simp, rfl⟩ (by intro s hs; omega) ?_
      rintro ⟨i, out⟩ ⟨hi, hlen, hrow⟩
      simp only [] at hi hlen hrow
      by_cases hlt : i < f.kids.length
      · rw [drop_at hlt] at hrow
        simp only [rowL] at hrow
        have hg := kid_at hlt
        have hcall := ih f.kids[i] (n + 1) [] (hkids _ (List.getElem_mem hlt)) (hm.2 _ (List.getElem_mem hlt)) (by omega)
        by_cases c1 : (simpleR d f.kids[i]).op = 1
        · rw [if_pos c1] at hrow
          rw [← hrow]
          show Runs _ _
          rw [show rowEnd 6 2 1 none = .mk 1 0 [] from rfl, eF_leaf]
          refine k_seq (k_seq ?_)
          refine rv (D.int IntKind.i64 (↑i : Int)) ?_
          refine rv (D.lptr (1 : Nat) (2 : Nat)) ?_
          refine rv (D.sl (eFs (Fm.kids f)) none) ?_
          refine rve (D.int IntKind.i64 (↑(List.length (eFs (Fm.kids f))) : Int)) (.int IntKind.i64 ((↑(List.length (Fm.kids f)) : Int))) (by simp only [eFs_length]) ?_
          refine rv (D.bool (decide ((↑i : Int) < (↑(List.length (Fm.kids f)) : Int)))) ?_
          refine k_done (k_skip_seq ?_)
          refine rkn 52 (decide ((↑i : Int) < (↑(List.length (Fm.kids f)) : Int))) true (decide_eq_true (by omega)) ?_
          refine kct (k_skip_seq (k_seq (k_block (k_seq ?_))))
          refine rv (D.lptr (1 : Nat) (2 : Nat)) ?_
          refine rv (D.sl (eFs (Fm.kids f)) none) ?_
          refine rv (D.int IntKind.i64 (↑i : Int)) ?_
          refine runs_indexL (eFs (Fm.kids f)) (o := none) (kd := IntKind.i64) (i) _ (by kernel_rfl) (by kernel_rfl) (by kernel_rfl) (by assumption) (by kernel_rfl) ?_
          refine rv (D.agg [D.int IntKind.i64 (Fm.op (Fm.kids f)[i]), D.int IntKind.i64 (Fm.n (Fm.kids f)[i]), D.sl (eFs (Fm.kids (Fm.kids f)[i])) none]) ?_
          refine runs_call ([D.agg [D.int IntKind.i64 (Fm.op (Fm.kids f)[i]), D.int IntKind.i64 (Fm.n (Fm.kids f)[i]), D.sl (eFs (Fm.kids (Fm.kids f)[i])) none]]) (by kernel_rfl) (by kernel_rfl) (by kernel_rfl) (by kernel_rfl) (hcall) (by kernel_rfl) ?_
          refine rgf (D.lptr (7 : Nat) (0 : Nat)) (σ) ?_
          refine rgf (D.junk) (σ) ?_
          refine k_done (k_skip_seq (k_seq (k_seq ?_)))
          refine rv (D.lptr (7 : Nat) (0 : Nat)) ?_
          refine rv (D.int IntKind.i64 (Fm.op (simpleR d (Fm.kids f)[i]))) ?_
          refine rv (D.int IntKind.i64 (2 : Int)) ?_
          refine rv (D.int IntKind.i64 (1 : Int)) ?_
          refine rv (D.bool (Fm.op (simpleR d (Fm.kids f)[i]) == (1 : Int))) ?_
          refine k_done (k_skip_seq ?_)
          refine rkn 65 (Fm.op (simpleR d (Fm.kids f)[i]) == (1 : Int)) true (decide_eq_true (by assumption)) ?_
          refine kct (k_seq ?_)
          refine rv (D.int IntKind.i64 (2 : Int)) ?_
          refine rv (D.int IntKind.i64 (1 : Int)) ?_
          refine rv (D.agg [D.int IntKind.i64 (1 : Int), D.int IntKind.i64 (0 : Int), D.nils (33 : Nat)]) ?_
          refine rgf (D.junk) (σ) ?_
          refine k_done (k_skip_seq (k_ret ?_))
          refine ⟨.inr rfl, by kernel_rfl, ?_⟩
          show _ = _
          kernel_rfl
        · rw [if_neg c1] at hrow
          by_cases c2 : (simpleR d f.kids[i]).op = 2
          · rw [if_pos c2] at hrow
            refine k_seq (k_seq ?_)
            refine rv (D.int IntKind.i64 (↑i : Int)) ?_
            refine rv (D.lptr (1 : Nat) (2 : Nat)) ?_
            refine rv (D.sl (eFs (Fm.kids f)) none) ?_
            refine rve (D.int IntKind.i64 (↑(List.length (eFs (Fm.kids f))) : Int)) (.int IntKind.i64 ((↑(List.length (Fm.kids f)) : Int))) (by simp only [eFs_length]) ?_
            refine rv (D.bool (decide ((↑i : Int) < (↑(List.length (Fm.kids f)) : Int)))) ?_
            refine k_done (k_skip_seq ?_)
            refine rkn 52 (decide ((↑i : Int) < (↑(List.length (Fm.kids f)) : Int))) true (decide_eq_true (by omega)) ?_
            refine kct (k_skip_seq (k_seq (k_block (k_seq ?_))))
            refine rv (D.lptr (1 : Nat) (2 : Nat)) ?_
            refine rv (D.sl (eFs (Fm.kids f)) none) ?_
            refine rv (D.int IntKind.i64 (↑i : Int)) ?_
            refine runs_indexL (eFs (Fm.kids f)) (o := none) (kd := IntKind.i64) (i) _ (by kernel_rfl) (by kernel_rfl) (by kernel_rfl) (by assumption) (by kernel_rfl) ?_
            refine rv (D.agg [D.int IntKind.i64 (Fm.op (Fm.kids f)[i]), D.int IntKind.i64 (Fm.n (Fm.kids f)[i]), D.sl (eFs (Fm.kids (Fm.kids f)[i])) none]) ?_
            refine runs_call ([D.agg [D.int IntKind.i64 (Fm.op (Fm.kids f)[i]), D.int IntKind.i64 (Fm.n (Fm.kids f)[i]), D.sl (eFs (Fm.kids (Fm.kids f)[i])) none]]) (by kernel_rfl) (by kernel_rfl) (by kernel_rfl) (by kernel_rfl) (hcall) (by kernel_rfl) ?_
            refine rgf (D.lptr (7 : Nat) (0 : Nat)) (σ) ?_
            refine rgf (D.junk) (σ) ?_
            refine k_done (k_skip_seq (k_seq (k_seq ?_)))
            refine rv (D.lptr (7 : Nat) (0 : Nat)) ?_
            refine rv (D.int IntKind.i64 (Fm.op (simpleR d (Fm.kids f)[i]))) ?_
            refine rv (D.int IntKind.i64 (2 : Int)) ?_
            refine rv (D.int IntKind.i64 (1 : Int)) ?_
            refine rv (D.bool (Fm.op (simpleR d (Fm.kids f)[i]) == (1 : Int))) ?_
            refine k_done (k_skip_seq ?_)
            refine rkn 65 (Fm.op (simpleR d (Fm.kids f)[i]) == (1 : Int)) false (decide_eq_false (by assumption)) ?_
            refine kcf (k_skip_seq (k_seq ?_))
            refine rv (D.lptr (7 : Nat) (0 : Nat)) ?_
            refine rv (D.int IntKind.i64 (Fm.op (simpleR d (Fm.kids f)[i]))) ?_
            refine rv (D.int IntKind.i64 (2 : Int)) ?_
            refine rv (D.bool (Fm.op (simpleR d (Fm.kids f)[i]) != (2 : Int))) ?_
            refine k_done (k_skip_seq ?_)
            refine rkn 72 (Fm.op (simpleR d (Fm.kids f)[i]) != (2 : Int)) false (bne_eq_false_iff_eq.2 (by assumption)) ?_
            refine kcf (k_skip_block (k_skip_seq ?_))
            refine rv (D.int IntKind.i64 (↑i : Int)) ?_
            refine rve (D.int IntKind.i64 (IntKind.wrap IntKind.i64 ((↑i : Int) + (1 : Int)))) (.int IntKind.i64 ((i + 1 : Nat) : Int)) (congrArg (D.int IntKind.i64) (show IntKind.wrap IntKind.i64 ((↑i : Int) + (1 : Int)) = ((i + 1 : Nat) : Int) from wrap_eq (by omega) (by omega) (by omega))) ?_
            refine ra0 (D.int IntKind.i64 (↑(i + (1 : Nat)) : Int)) ?_
            refine k_done (k_skip_back ?_)
            exact ⟨(i + 1, out), ⟨hlt, by simp only []; omega, hrow⟩, by simp only []; omega, by kernel_rfl, rfl⟩
          · rw [if_neg c2] at hrow
            have hsn := eFs_snoc out (simpleR d f.kids[i])
            refine k_seq (k_seq ?_)
            refine rv (D.int IntKind.i64 (↑i : Int)) ?_
            refine rv (D.lptr (1 : Nat) (2 : Nat)) ?_
            refine rv (D.sl (eFs (Fm.kids f)) none) ?_
            refine rve (D.int IntKind.i64 (↑(List.length (eFs (Fm.kids f))) : Int)) (.int IntKind.i64 ((↑(List.length (Fm.kids f)) : Int))) (by simp only [ints, eInt, rows, eInts, bools, eBool, trips, eTrip, List.length_map, eFs_length]) ?_
            refine rv (D.bool (decide ((↑i : Int) < (↑(List.length (Fm.kids f)) : Int)))) ?_
            refine k_done (k_skip_seq ?_)
            refine rkn 52 (decide ((↑i : Int) < (↑(List.length (Fm.kids f)) : Int))) true (decide_eq_true (by omega)) ?_
            refine kct (k_skip_seq (k_seq (k_block (k_seq ?_))))
            refine rv (D.lptr (1 : Nat) (2 : Nat)) ?_
            refine rv (D.sl (eFs (Fm.kids f)) none) ?_
            refine rv (D.int IntKind.i64 (↑i : Int)) ?_
            refine runs_indexL (eFs (Fm.kids f)) (o := none) (kd := IntKind.i64) (i) _ (by kernel_rfl) (by kernel_rfl) (by kernel_rfl) (by assumption) (by kernel_rfl) ?_
            refine rv (D.agg [D.int IntKind.i64 (Fm.op (Fm.kids f)[i]), D.int IntKind.i64 (Fm.n (Fm.kids f)[i]), D.sl (eFs (Fm.kids (Fm.kids f)[i])) none]) ?_
            refine runs_call ([D.agg [D.int IntKind.i64 (Fm.op (Fm.kids f)[i]), D.int IntKind.i64 (Fm.n (Fm.kids f)[i]), D.sl (eFs (Fm.kids (Fm.kids f)[i])) none]]) (by kernel_rfl) (by kernel_rfl) (by kernel_rfl) (by kernel_rfl) (hcall) (by kernel_rfl) ?_
            refine rgf (D.lptr (7 : Nat) (0 : Nat)) (σ) ?_
            refine rgf (D.junk) (σ) ?_
            refine k_done (k_skip_seq (k_seq (k_seq ?_)))
            refine rv (D.lptr (7 : Nat) (0 : Nat)) ?_
            refine rv (D.int IntKind.i64 (Fm.op (simpleR d (Fm.kids f)[i]))) ?_
            refine rv (D.int IntKind.i64 (2 : Int)) ?_
            refine rv (D.int IntKind.i64 (1 : Int)) ?_
            refine rv (D.bool (Fm.op (simpleR d (Fm.kids f)[i]) == (1 : Int))) ?_
            refine k_done (k_skip_seq ?_)
            refine rkn 65 (Fm.op (simpleR d (Fm.kids f)[i]) == (1 : Int)) false (decide_eq_false (by assumption)) ?_
            refine kcf (k_skip_seq (k_seq ?_))
            refine rv (D.lptr (7 : Nat) (0 : Nat)) ?_
            refine rv (D.int IntKind.i64 (Fm.op (simpleR d (Fm.kids f)[i]))) ?_
            refine rv (D.int IntKind.i64 (2 : Int)) ?_
            refine rv (D.bool (Fm.op (simpleR d (Fm.kids f)[i]) != (2 : Int))) ?_
            refine k_done (k_skip_seq ?_)
            refine rkn 72 (Fm.op (simpleR d (Fm.kids f)[i]) != (2 : Int)) true (bne_iff_ne.2 (by assumption)) ?_
            refine kct ?_
            refine runs_steal (D.sl (eFs out) (some (33 : Nat))) (by kernel_rfl) (by kernel_rfl) ?_
            refine rv (D.agg [D.int IntKind.i64 (Fm.op (simpleR d (Fm.kids f)[i])), D.int IntKind.i64 (Fm.n (simpleR d (Fm.kids f)[i])), D.sl (eFs (Fm.kids (simpleR d (Fm.kids f)[i]))) none]) ?_
            refine rv (D.sl [[D.int IntKind.i64 (Fm.op (simpleR d (Fm.kids f)[i])), D.int IntKind.i64 (Fm.n (simpleR d (Fm.kids f)[i])), D.sl (eFs (Fm.kids (simpleR d (Fm.kids f)[i]))) none]] (some (33 : Nat))) ?_
            refine runs_append (eFs out) ([[D.int IntKind.i64 (Fm.op (simpleR d (Fm.kids f)[i])), D.int IntKind.i64 (Fm.n (simpleR d (Fm.kids f)[i])), D.sl (eFs (Fm.kids (simpleR d (Fm.kids f)[i]))) none]]) (eFs out ++ [[D.int IntKind.i64 (Fm.op (simpleR d (Fm.kids f)[i])), D.int IntKind.i64 (Fm.n (simpleR d (Fm.kids f)[i])), D.sl (eFs (Fm.kids (simpleR d (Fm.kids f)[i]))) none]]) (by kernel_rfl) (by kernel_rfl) (by kernel_rfl) (by kernel_rfl) (by simp [eFs_length, ints, eInt, rows, eInts, bools, eBool, trips, eTrip, room]; omega) rfl ?_
            refine runs_assign (D.sl (eFs out ++ [[D.int IntKind.i64 (Fm.op (simpleR d (Fm.kids f)[i])), D.int IntKind.i64 (Fm.n (simpleR d (Fm.kids f)[i])), D.sl (eFs (Fm.kids (simpleR d (Fm.kids f)[i]))) none]]) (some (33 : Nat))) (by kernel_rfl) (by kernel_rfl) ?_
            refine k_done (k_skip_block (k_skip_seq ?_))
            refine rv (D.int IntKind.i64 (↑i : Int)) ?_
            refine rve (D.int IntKind.i64 (IntKind.wrap IntKind.i64 ((↑i : Int) + (1 : Int)))) (.int IntKind.i64 ((i + 1 : Nat) : Int)) (congrArg (D.int IntKind.i64) (show IntKind.wrap IntKind.i64 ((↑i : Int) + (1 : Int)) = ((i + 1 : Nat) : Int) from wrap_eq (by omega) (by omega) (by omega))) ?_
            refine ra0 (D.int IntKind.i64 (↑(i + (1 : Nat)) : Int)) ?_
            refine k_done (k_skip_back ?_)
            exact ⟨(i + 1, out ++ [simpleR d f.kids[i]]), ⟨hlt, by simp; omega, hrow⟩, by simp only []; omega, by simp only []; rw [← hsn]; kernel_rfl, rfl⟩
      · rw [List.drop_of_length_le (by omega)] at hrow
        simp only [rowL] at hrow
        rw [← hrow]
        match out, hlen with
        | [], _ =>
          rw [show rowEnd 6 2 1 (some []) = .mk 2 0 [] from rfl, eF_leaf]
          refine k_seq (k_seq ?_)
          refine rv (D.int IntKind.i64 (↑i : Int)) ?_
          refine rv (D.lptr (1 : Nat) (2 : Nat)) ?_
          refine rv (D.sl (eFs (Fm.kids f)) none) ?_
          refine rve (D.int IntKind.i64 (↑(List.length (eFs (Fm.kids f))) : Int)) (.int IntKind.i64 ((↑(List.length (Fm.kids f)) : Int))) (by simp only [eFs_length]) ?_
          refine rv (D.bool (decide ((↑i : Int) < (↑(List.length (Fm.kids f)) : Int)))) ?_
          refine k_done (k_skip_seq ?_)
          refine rkn 52 (decide ((↑i : Int) < (↑(List.length (Fm.kids f)) : Int))) false (decide_eq_false (by omega)) ?_
          refine kcf (k_exit_seq (k_exit_back (k_exit_hit rfl (k_skip_seq (k_seq (k_seq ?_))))))
          refine rv (D.sl [] none) ?_
          refine rv (D.int IntKind.i64 (0 : Int)) ?_
          refine rv (D.bool true) ?_
          refine k_done (k_skip_seq (kct (k_seq ?_)))
          refine rv (D.int IntKind.i64 (2 : Int)) ?_
          refine rv (D.agg [D.int IntKind.i64 (2 : Int), D.int IntKind.i64 (0 : Int), D.nils (33 : Nat)]) ?_
          refine rgf (D.junk) (σ) ?_
          refine k_done (k_skip_seq (k_ret ?_))
          refine ⟨.inr rfl, by kernel_rfl, ?_⟩
          show _ = _
          kernel_rfl
        | [x], _ =>
          rw [show rowEnd 6 2 1 (some [x]) = x from rfl]
          have hg : (eFs [x])[0]? = some (eF x) := eFs_get rfl
          have h1 : [x].length = 1 := rfl
          generalize [x] = out at *
          refine k_seq (k_seq ?_)
          refine rv (D.int IntKind.i64 (↑i : Int)) ?_
          refine rv (D.lptr (1 : Nat) (2 : Nat)) ?_
          refine rv (D.sl (eFs (Fm.kids f)) none) ?_
          refine rve (D.int IntKind.i64 (↑(List.length (eFs (Fm.kids f))) : Int)) (.int IntKind.i64 ((↑(List.length (Fm.kids f)) : Int))) (by simp only [eFs_length]) ?_
          refine rv (D.bool (decide ((↑i : Int) < (↑(List.length (Fm.kids f)) : Int)))) ?_
          refine k_done (k_skip_seq ?_)
          refine rkn 52 (decide ((↑i : Int) < (↑(List.length (Fm.kids f)) : Int))) false (decide_eq_false (by omega)) ?_
          refine kcf (k_exit_seq (k_exit_back (k_exit_hit rfl (k_skip_seq (k_seq (k_seq ?_))))))
          refine rv (D.sl (eFs out) none) ?_
          refine rve (D.int IntKind.i64 (↑(List.length (eFs out)) : Int)) (.int IntKind.i64 ((↑(List.length out) : Int))) (by simp only [eFs_length]) ?_
          refine rv (D.bool ((↑(List.length out) : Int) == (0 : Int))) ?_
          refine k_done (k_skip_seq ?_)
          refine rkn 79 ((↑(List.length out) : Int) == (0 : Int)) false (decide_eq_false (by omega)) ?_
          refine kcf (k_skip_seq (k_seq (k_seq ?_)))
          refine rv (D.sl (eFs out) none) ?_
          refine rve (D.int IntKind.i64 (↑(List.length (eFs out)) : Int)) (.int IntKind.i64 ((↑(List.length out) : Int))) (by simp only [eFs_length]) ?_
          refine rv (D.bool ((↑(List.length out) : Int) == (1 : Int))) ?_
          refine k_done (k_skip_seq ?_)
          refine rkn 84 ((↑(List.length out) : Int) == (1 : Int)) true (decide_eq_true (by omega)) ?_
          refine kct (k_seq ?_)
          refine rv (D.sl (eFs out) none) ?_
          refine runs_indexL (eFs out) (o := none) (kd := IntKind.i64) (0) _ (by kernel_rfl) (by kernel_rfl) (by kernel_rfl) (by assumption) (by kernel_rfl) ?_
          refine rv (D.agg [D.int IntKind.i64 (Fm.op x), D.int IntKind.i64 (Fm.n x), D.sl (eFs (Fm.kids x)) none]) ?_
          refine rgf (D.junk) (σ) ?_
          refine k_done (k_skip_seq (k_ret ?_))
          refine ⟨.inr rfl, by kernel_rfl, ?_⟩
          show _ = _
          kernel_rfl
        | x :: y :: l, hlen =>
          have h2 : (x :: y :: l).length ≥ 2 := by simp
          rw [show rowEnd 6 2 1 (some (x :: y :: l)) = .mk f.op 0 (x :: y :: l) from by rw [c6]; rfl]
          generalize x :: y :: l = out at *
          refine k_seq (k_seq ?_)
          refine rv (D.int IntKind.i64 (↑i : Int)) ?_
          refine rv (D.lptr (1 : Nat) (2 : Nat)) ?_
          refine rv (D.sl (eFs (Fm.kids f)) none) ?_
          refine rve (D.int IntKind.i64 (↑(List.length (eFs (Fm.kids f))) : Int)) (.int IntKind.i64 ((↑(List.length (Fm.kids f)) : Int))) (by simp only [eFs_length]) ?_
          refine rv (D.bool (decide ((↑i : Int) < (↑(List.length (Fm.kids f)) : Int)))) ?_
          refine k_done (k_skip_seq ?_)
          refine rkn 52 (decide ((↑i : Int) < (↑(List.length (Fm.kids f)) : Int))) false (decide_eq_false (by omega)) ?_
          refine kcf (k_exit_seq (k_exit_back (k_exit_hit rfl (k_skip_seq (k_seq (k_seq ?_))))))
          refine rv (D.sl (eFs out) none) ?_
          refine rve (D.int IntKind.i64 (↑(List.length (eFs out)) : Int)) (.int IntKind.i64 ((↑(List.length out) : Int))) (by simp only [eFs_length]) ?_
          refine rv (D.bool ((↑(List.length out) : Int) == (0 : Int))) ?_
          refine k_done (k_skip_seq ?_)
          refine rkn 79 ((↑(List.length out) : Int) == (0 : Int)) false (decide_eq_false (by omega)) ?_
          refine kcf (k_skip_seq (k_seq (k_seq ?_)))
          refine rv (D.sl (eFs out) none) ?_
          refine rve (D.int IntKind.i64 (↑(List.length (eFs out)) : Int)) (.int IntKind.i64 ((↑(List.length out) : Int))) (by simp only [eFs_length]) ?_
          refine rv (D.bool ((↑(List.length out) : Int) == (1 : Int))) ?_
          refine k_done (k_skip_seq ?_)
          refine rkn 84 ((↑(List.length out) : Int) == (1 : Int)) false (decide_eq_false (by omega)) ?_
          refine kcf (k_skip_seq (k_seq ?_))
          refine rv (D.lptr (1 : Nat) (0 : Nat)) ?_
          refine rv (D.int IntKind.i64 (Fm.op f)) ?_
          refine rv (D.sl (eFs out) none) ?_
          refine rv (D.agg [D.int IntKind.i64 (Fm.op f), D.int IntKind.i64 (0 : Int), D.sl (eFs out) none]) ?_
          refine rgf (D.junk) (σ) ?_
          refine k_done (k_skip_seq (k_ret ?_))
          refine ⟨.inr rfl, by kernel_rfl, ?_⟩
          show _ = _
          kernel_rfl
    rw [if_neg c6]
    by_cases c3 : f.op = 3
    · rw [if_pos c3, eF_leaf]
      refine call_of (m := m24) rfl rfl (by decide) (k_start ?_)
      unfold m24
      refine k_seq ?_
      refine rgf (D.lptr (1 : Nat) (0 : Nat)) (σ) ?_
      refine rgf (D.lptr (2 : Nat) (0 : Nat)) (σ) ?_
      refine k_done (k_skip_seq (k_seq (k_seq ?_)))
      refine rv (D.lptr (1 : Nat) (0 : Nat)) ?_
      refine rv (D.int IntKind.i64 (Fm.op f)) ?_
      refine rv (D.bool (decide (Fm.op f < (3 : Int)))) ?_
      refine k_done (k_skip_seq ?_)
      refine rkn 10 (decide (Fm.op f < (3 : Int))) false (decide_eq_false (by omega)) ?_
      refine kcf (k_skip_seq (k_seq (k_seq ?_)))
      refine rv (D.lptr (1 : Nat) (0 : Nat)) ?_
      refine rv (D.int IntKind.i64 (Fm.op f)) ?_
      refine rv (D.bool (Fm.op f == (3 : Int))) ?_
      refine k_done (k_skip_seq ?_)
      refine rkn 16 (Fm.op f == (3 : Int)) true (decide_eq_true (by assumption)) ?_
      refine kct (k_seq ?_)
      refine rv (D.lptr (1 : Nat) (1 : Nat)) ?_
      refine rv (D.int IntKind.i64 (Fm.n f)) ?_
      refine rv (D.agg [D.int IntKind.i64 (3 : Int), D.int IntKind.i64 (Fm.n f), D.nils (33 : Nat)]) ?_
      refine rgf (D.junk) (σ) ?_
      refine k_done (k_skip_seq (k_ret ?_))
      refine ⟨.inr rfl, by kernel_rfl, ?_⟩
      show _ = _
      kernel_rfl
    · rw [if_neg c3, eF_leaf]
      refine call_of (m := m24) rfl rfl (by decide) (k_start ?_)
      unfold m24
      refine k_seq ?_
      refine rgf (D.lptr (1 : Nat) (0 : Nat)) (σ) ?_
      refine rgf (D.lptr (2 : Nat) (0 : Nat)) (σ) ?_
      refine k_done (k_skip_seq (k_seq (k_seq ?_)))
      refine rv (D.lptr (1 : Nat) (0 : Nat)) ?_
      refine rv (D.int IntKind.i64 (Fm.op f)) ?_
      refine rv (D.bool (decide (Fm.op f < (3 : Int)))) ?_
      refine k_done (k_skip_seq ?_)
      refine rkn 10 (decide (Fm.op f < (3 : Int))) true (decide_eq_true (by omega)) ?_
      refine kct (k_seq ?_)
      refine rv (D.lptr (1 : Nat) (0 : Nat)) ?_
      refine rv (D.int IntKind.i64 (Fm.op f)) ?_
      refine rv (D.agg [D.int IntKind.i64 (Fm.op f), D.int IntKind.i64 (0 : Int), D.nils (33 : Nat)]) ?_
      refine rgf (D.junk) (σ) ?_
      refine k_done (k_skip_seq (k_ret ?_))
      refine ⟨.inr rfl, by kernel_rfl, ?_⟩
      show _ = _
      kernel_rfl
end Go.Abs.A
